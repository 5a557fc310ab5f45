/- PlanBack holds: for every input the law answers true, and each argument reads behind the call as it read before. No condition. -/
import Derived.Test.YtcfjooeagfollaaRows
import Derived.Test.YtcfjooeagfollaaPlanLawB
import Derived.Test.YtcfjooeagfollaaCod
import Derived.WalkKit
import Derived.ProofKit
import Derived.OpenShut
import Derived.ShutString
import Derived.ChangeOld
import Derived.Below
import Derived.SizedLaws
namespace Go.Proofs.Ytcfjooeagfollaa.planBack
open Go.ChangeShapes Go.WideShapes Go.ChangeAt Go.RowKit Go.Proofs.Ytcfjooeagfollaa.Mem
open Go.ChangeMaps (open_string shut_string)
set_option linter.unusedVariables false
theorem own : ownKnob Try.prog.godebug = none := by kernel_rfl
theorem laidOut : laidOutB Try.prog = true := by kernel_rfl
set_option maxRecDepth 100000 in
theorem lifted (os : Os) (started : os.Started) (H : Type) (enc : TypeId × Value → H) :
    ReturnsInHanded {} Try.checked os 6 .any (Rows.planBackSpec.pre6 enc Try.prog Try.f6 Rows.planBackRow.domain false) (Rows.planBackSpec.post enc Try.prog Try.f6 false true false false) := by
  refine returnsInHanded_of_change_sized (C := Try.checked) own started (by kernel_rfl) Try.func6
    (ChangeSpec.witness6 (enc := enc) (C := Try.checked) false ⟨#[], #[.agg #[.slice none 0 0, .slice none 0 0], .int .i64 0, .slice none 0 0, .slice none 0 0, .agg #[.string ByteArray.empty, .string ByteArray.empty, .bool false]], []⟩ 12 (by kernel_rfl) (by kernel_rfl) (by kernel_rfl) (by kernel_rfl)) ?_
  intro W base args ds gs before hval0 hW hcnd hsz0 _
  have hsz : (DataW.weightsEach Try.prog (Try.f6.params.toList ++ Rows.planBackSpec.plain.varTypes Try.prog) (ds ++ gs)).all (· ≤ reachBytes) = true := hsz0
  have hval : ∀ (j : Nat) t v, Try.f6.params[j]? = some t → args[j]? = some v → Value.okWide Try.prog W .any base t v := hval0
  have hW' := hW
  obtain ⟨p, q, hA0, hV, rfl, hfz, hnd⟩ := hW
  have hA : DataW.TrodAll enc Try.prog W 0 (fun _ => true) true Try.f6.params.toList args.toList ds p := hA0
  rw [Try.params6] at hA hval hsz
  obtain ⟨v0, vs0, d0, ds0, p0, q0, hargs, rfl, rfl, h0, r0⟩ := trodAll_cons hA
  obtain ⟨v1, vs1, d1, ds1, p1, q1, rfl, rfl, rfl, h1, r1⟩ := trodAll_cons r0
  obtain ⟨v2, vs2, d2, ds2, p2, q2, rfl, rfl, rfl, h2, r2⟩ := trodAll_cons r1
  obtain ⟨v3, vs3, d3, ds3, p3, q3, rfl, rfl, rfl, h3, r3⟩ := trodAll_cons r2
  obtain ⟨v4, vs4, d4, ds4, p4, q4, rfl, rfl, rfl, h4, r4⟩ := trodAll_cons r3
  obtain ⟨rfl, rfl, rfl⟩ := trodAll_nil r4
  obtain rfl : args = #[v0, v1, v2, v3, v4] := by cases args; simp_all
  obtain ⟨rfl, rfl⟩ := trodVars_none hV
  have lt0 : ∀ x ∈ p0, x.block < W.heap.size := by obtain ⟨m, hm⟩ := h0; exact DataW.trod_lt m _ _ _ hm
  obtain ⟨y0, w0⟩ := trods_arg (c := (Cod.pair (Cod.slice (Cod.pair (Cod.slice (Cod.int .i64)) Cod.unit)) (Cod.pair (Cod.slice (Cod.pair (Cod.int .i64) (Cod.pair (Cod.int .i64) (Cod.pair (Cod.slice (Cod.int .i64)) Cod.unit)))) Cod.unit))) (trods_struct Try.underlying67 (by kernel_rfl) (trodsF_cons rfl (trods_slice Try.underlying64 (by kernel_rfl) (trods_struct Try.underlying135 (by kernel_rfl) (trodsF_cons rfl (trods_slice Try.underlying116 (by kernel_rfl) (trods_int Try.underlying3 (by kernel_rfl))) (trodsF_nil _)))) (trodsF_cons rfl (trods_slice Try.underlying65 (by kernel_rfl) (trods_struct Try.underlying137 (by kernel_rfl) (trodsF_cons rfl (trods_int Try.underlying3 (by kernel_rfl)) (trodsF_cons rfl (trods_int Try.underlying3 (by kernel_rfl)) (trodsF_cons rfl (trods_slice Try.underlying116 (by kernel_rfl) (trods_int Try.underlying3 (by kernel_rfl))) (trodsF_nil _)))))) (trodsF_nil _)))) h0
  obtain ⟨cs0, rfl, _⟩ := okWide_struct Try.underlying67 (hval 0 67 v0 rfl rfl)
  obtain ⟨a1, rfl, rfl, rfl, w1⟩ := open_int Try.underlying3 (hval 1 3 v1 rfl rfl) h1
  have lt2 : ∀ x ∈ p2, x.block < W.heap.size := by obtain ⟨m, hm⟩ := h2; exact DataW.trod_lt m _ _ _ hm
  obtain ⟨y2, w2⟩ := trods_arg (c := (Cod.slice (Cod.pair (Cod.int .i64) (Cod.pair (Cod.int .i64) (Cod.pair Cod.str Cod.unit))))) (trods_slice Try.underlying68 (by kernel_rfl) (trods_struct Try.underlying81 (by kernel_rfl) (trodsF_cons rfl (trods_int Try.underlying3 (by kernel_rfl)) (trodsF_cons rfl (trods_int Try.underlying3 (by kernel_rfl)) (trodsF_cons rfl (trods_str Try.underlying9 (by kernel_rfl)) (trodsF_nil _)))))) h2
  obtain ⟨a2, len2, cap2, rfl⟩ := okWide_slice Try.underlying68 (hval 2 68 v2 rfl rfl)
  have z2 := slcIn_of w2
  have lt3 : ∀ x ∈ p3, x.block < W.heap.size := by obtain ⟨m, hm⟩ := h3; exact DataW.trod_lt m _ _ _ hm
  obtain ⟨y3, w3⟩ := trods_arg (c := (Cod.slice (Cod.pair (Cod.int .i64) (Cod.pair (Cod.int .i64) (Cod.pair Cod.str Cod.unit))))) (trods_slice Try.underlying68 (by kernel_rfl) (trods_struct Try.underlying81 (by kernel_rfl) (trodsF_cons rfl (trods_int Try.underlying3 (by kernel_rfl)) (trodsF_cons rfl (trods_int Try.underlying3 (by kernel_rfl)) (trodsF_cons rfl (trods_str Try.underlying9 (by kernel_rfl)) (trodsF_nil _)))))) h3
  obtain ⟨a3, len3, cap3, rfl⟩ := okWide_slice Try.underlying68 (hval 3 68 v3 rfl rfl)
  have z3 := slcIn_of w3
  have lt4 : ∀ x ∈ p4, x.block < W.heap.size := by obtain ⟨m, hm⟩ := h4; exact DataW.trod_lt m _ _ _ hm
  obtain ⟨y4, w4⟩ := trods_arg (c := (Cod.pair Cod.str (Cod.pair Cod.str (Cod.pair Cod.bool Cod.unit)))) (trods_struct Try.underlying70 (by kernel_rfl) (trodsF_cons rfl (trods_str Try.underlying9 (by kernel_rfl)) (trodsF_cons rfl (trods_str Try.underlying9 (by kernel_rfl)) (trodsF_cons rfl (trods_bool Try.underlying4 (by kernel_rfl)) (trodsF_nil _))))) h4
  obtain ⟨cs4, rfl, _⟩ := okWide_struct Try.underlying70 (hval 4 70 v4 rfl rfl)
  clear hA0 hval0 hsz0 hsz
  refine (Plan.back_row cs0.toList y0 a1 a2 len2 cap2 y2 a3 len3 cap3 y3 cs4.toList y4 W w0 w1 z2 z3 w4).mono fun e W' ⟨he, bel⟩ => ?_
  subst he
  exact ⟨_, rfl, _, _, _, [], _, [], hW', trodAll_mk1 (shut_bool Try.underlying4 _), (trodAll_cons_mk (Below.trod laidOut (by kernel_rfl) (of_decide_eq_true (by kernel_rfl)) h0 bel lt0) (trodAll_cons_mk (shut_int Try.underlying3 w1) (trodAll_cons_mk (Below.trod laidOut (by kernel_rfl) (of_decide_eq_true (by kernel_rfl)) h2 bel lt2) (trodAll_cons_mk (Below.trod laidOut (by kernel_rfl) (of_decide_eq_true (by kernel_rfl)) h3 bel lt3) (trodAll_cons_mk (Below.trod laidOut (by kernel_rfl) (of_decide_eq_true (by kernel_rfl)) h4 bel lt4) trodAll_mk0))))), rfl, bel.frame _, fun h => by cases h⟩
theorem over : Rows.planBackRow.holds Try.pinned (OpenSpec.ofChange Rows.planBackSpec) :=
  OpenClaim.holds_of_wide 6 Try.f6 rfl rfl rfl rfl rfl rfl rfl ⟨rfl, rfl, rfl, rfl, rfl⟩ rfl rfl rfl rfl rfl (by kernel_rfl) Try.func6 (by kernel_rfl)
    (of_decide_eq_true (by kernel_rfl)) (by unfold Func.isWrapper; first | (rw [if_pos (by decide +kernel)]; kernel_rfl) | (rw [if_neg (by decide +kernel)]; exact ⟨rfl, rfl⟩))
    (fun os started H enc _ => lifted os started H enc)
theorem proved : Rows.PlanBackSaid := over
#print axioms proved
end Go.Proofs.Ytcfjooeagfollaa.planBack
