/- BillBack holds: for every input the law answers true, and each argument reads behind the call as it read before. No condition. -/
import Derived.Test.YtcfjooeagfollaaRows
import Derived.Test.YtcfjooeagfollaaBillLawB
import Derived.Test.YtcfjooeagfollaaCod
import Derived.WalkKit
import Derived.ProofKit
import Derived.OpenShut
import Derived.ShutString
import Derived.ChangeOld
import Derived.Below
import Derived.SizedLaws
namespace Go.Proofs.Ytcfjooeagfollaa.billBack
open Go.ChangeShapes Go.WideShapes Go.ChangeAt Go.RowKit Go.Proofs.Ytcfjooeagfollaa.Mem
open Go.ChangeMaps (open_string shut_string)
set_option linter.unusedVariables false
theorem own : ownKnob Try.prog.godebug = none := by kernel_rfl
theorem laidOut : laidOutB Try.prog = true := by kernel_rfl
set_option maxRecDepth 100000 in
theorem lifted (os : Os) (started : os.Started) (H : Type) (enc : TypeId × Value → H) :
    ReturnsInHanded {} Try.checked os 8 .any (Rows.billBackSpec.pre6 enc Try.prog Try.f8 Rows.billBackRow.domain false) (Rows.billBackSpec.post enc Try.prog Try.f8 false true false false) := by
  refine returnsInHanded_of_change_sized (C := Try.checked) own started (by kernel_rfl) Try.func8
    (ChangeSpec.witness6 (enc := enc) (C := Try.checked) false ⟨#[], #[.slice none 0 0, .slice none 0 0, .string ByteArray.empty], []⟩ 12 (by kernel_rfl) (by kernel_rfl) (by kernel_rfl) (by kernel_rfl)) ?_
  intro W base args ds gs before hval0 hW hcnd hsz0 _
  have hsz : (DataW.weightsEach Try.prog (Try.f8.params.toList ++ Rows.billBackSpec.plain.varTypes Try.prog) (ds ++ gs)).all (· ≤ reachBytes) = true := hsz0
  have hval : ∀ (j : Nat) t v, Try.f8.params[j]? = some t → args[j]? = some v → Value.okWide Try.prog W .any base t v := hval0
  have hW' := hW
  obtain ⟨p, q, hA0, hV, rfl, hfz, hnd⟩ := hW
  have hA : DataW.TrodAll enc Try.prog W 0 (fun _ => true) true Try.f8.params.toList args.toList ds p := hA0
  rw [Try.params8] at hA hval hsz
  obtain ⟨v0, vs0, d0, ds0, p0, q0, hargs, rfl, rfl, h0, r0⟩ := trodAll_cons hA
  obtain ⟨v1, vs1, d1, ds1, p1, q1, rfl, rfl, rfl, h1, r1⟩ := trodAll_cons r0
  obtain ⟨v2, vs2, d2, ds2, p2, q2, rfl, rfl, rfl, h2, r2⟩ := trodAll_cons r1
  obtain ⟨rfl, rfl, rfl⟩ := trodAll_nil r2
  obtain rfl : args = #[v0, v1, v2] := by cases args; simp_all
  obtain ⟨rfl, rfl⟩ := trodVars_none hV
  have lt0 : ∀ x ∈ p0, x.block < W.heap.size := by obtain ⟨m, hm⟩ := h0; exact DataW.trod_lt m _ _ _ hm
  obtain ⟨y0, w0⟩ := trods_arg (c := (Cod.slice (Cod.pair (Cod.int .i64) (Cod.pair (Cod.int .i64) (Cod.pair (Cod.pair (Cod.int .i64) (Cod.pair (Cod.pair (Cod.int .i64) (Cod.pair (Cod.int .i64) (Cod.pair (Cod.pair (Cod.int .i64) (Cod.pair (Cod.int .i64) (Cod.pair Cod.str Cod.unit))) (Cod.pair (Cod.pair (Cod.int .i64) (Cod.pair (Cod.int .i64) (Cod.pair Cod.str Cod.unit))) (Cod.pair (Cod.slice (Cod.pair (Cod.int .i64) (Cod.pair (Cod.int .i64) (Cod.pair Cod.str Cod.unit)))) (Cod.pair (Cod.int .i64) (Cod.pair (Cod.pair (Cod.int .i64) (Cod.pair (Cod.int .i64) (Cod.pair Cod.str Cod.unit))) (Cod.pair (Cod.int .i64) Cod.unit)))))))) Cod.unit)) (Cod.pair (Cod.int .i64) (Cod.pair (Cod.int .i64) Cod.unit))))))) (trods_slice Try.underlying87 (by kernel_rfl) (trods_struct Try.underlying94 (by kernel_rfl) (trodsF_cons rfl (trods_int Try.underlying3 (by kernel_rfl)) (trodsF_cons rfl (trods_int Try.underlying3 (by kernel_rfl)) (trodsF_cons rfl (trods_struct Try.underlying92 (by kernel_rfl) (trodsF_cons rfl (trods_int Try.underlying3 (by kernel_rfl)) (trodsF_cons rfl (trods_struct Try.underlying90 (by kernel_rfl) (trodsF_cons rfl (trods_int Try.underlying3 (by kernel_rfl)) (trodsF_cons rfl (trods_int Try.underlying3 (by kernel_rfl)) (trodsF_cons rfl (trods_struct Try.underlying81 (by kernel_rfl) (trodsF_cons rfl (trods_int Try.underlying3 (by kernel_rfl)) (trodsF_cons rfl (trods_int Try.underlying3 (by kernel_rfl)) (trodsF_cons rfl (trods_str Try.underlying9 (by kernel_rfl)) (trodsF_nil _))))) (trodsF_cons rfl (trods_struct Try.underlying81 (by kernel_rfl) (trodsF_cons rfl (trods_int Try.underlying3 (by kernel_rfl)) (trodsF_cons rfl (trods_int Try.underlying3 (by kernel_rfl)) (trodsF_cons rfl (trods_str Try.underlying9 (by kernel_rfl)) (trodsF_nil _))))) (trodsF_cons rfl (trods_slice Try.underlying68 (by kernel_rfl) (trods_struct Try.underlying81 (by kernel_rfl) (trodsF_cons rfl (trods_int Try.underlying3 (by kernel_rfl)) (trodsF_cons rfl (trods_int Try.underlying3 (by kernel_rfl)) (trodsF_cons rfl (trods_str Try.underlying9 (by kernel_rfl)) (trodsF_nil _)))))) (trodsF_cons rfl (trods_int Try.underlying3 (by kernel_rfl)) (trodsF_cons rfl (trods_struct Try.underlying81 (by kernel_rfl) (trodsF_cons rfl (trods_int Try.underlying3 (by kernel_rfl)) (trodsF_cons rfl (trods_int Try.underlying3 (by kernel_rfl)) (trodsF_cons rfl (trods_str Try.underlying9 (by kernel_rfl)) (trodsF_nil _))))) (trodsF_cons rfl (trods_int Try.underlying3 (by kernel_rfl)) (trodsF_nil _)))))))))) (trodsF_nil _)))) (trodsF_cons rfl (trods_int Try.underlying3 (by kernel_rfl)) (trodsF_cons rfl (trods_int Try.underlying3 (by kernel_rfl)) (trodsF_nil _)))))))) h0
  obtain ⟨a0, len0, cap0, rfl⟩ := okWide_slice Try.underlying87 (hval 0 87 v0 rfl rfl)
  have z0 := slcIn_of w0
  have lt1 : ∀ x ∈ p1, x.block < W.heap.size := by obtain ⟨m, hm⟩ := h1; exact DataW.trod_lt m _ _ _ hm
  obtain ⟨y1, w1⟩ := trods_arg (c := (Cod.slice (Cod.pair (Cod.int .i64) (Cod.pair (Cod.int .i64) (Cod.pair (Cod.pair (Cod.int .i64) (Cod.pair (Cod.pair (Cod.int .i64) (Cod.pair (Cod.int .i64) (Cod.pair (Cod.pair (Cod.int .i64) (Cod.pair (Cod.int .i64) (Cod.pair Cod.str Cod.unit))) (Cod.pair (Cod.pair (Cod.int .i64) (Cod.pair (Cod.int .i64) (Cod.pair Cod.str Cod.unit))) (Cod.pair (Cod.slice (Cod.pair (Cod.int .i64) (Cod.pair (Cod.int .i64) (Cod.pair Cod.str Cod.unit)))) (Cod.pair (Cod.int .i64) (Cod.pair (Cod.pair (Cod.int .i64) (Cod.pair (Cod.int .i64) (Cod.pair Cod.str Cod.unit))) (Cod.pair (Cod.int .i64) Cod.unit)))))))) Cod.unit)) (Cod.pair (Cod.int .i64) (Cod.pair (Cod.int .i64) Cod.unit))))))) (trods_slice Try.underlying87 (by kernel_rfl) (trods_struct Try.underlying94 (by kernel_rfl) (trodsF_cons rfl (trods_int Try.underlying3 (by kernel_rfl)) (trodsF_cons rfl (trods_int Try.underlying3 (by kernel_rfl)) (trodsF_cons rfl (trods_struct Try.underlying92 (by kernel_rfl) (trodsF_cons rfl (trods_int Try.underlying3 (by kernel_rfl)) (trodsF_cons rfl (trods_struct Try.underlying90 (by kernel_rfl) (trodsF_cons rfl (trods_int Try.underlying3 (by kernel_rfl)) (trodsF_cons rfl (trods_int Try.underlying3 (by kernel_rfl)) (trodsF_cons rfl (trods_struct Try.underlying81 (by kernel_rfl) (trodsF_cons rfl (trods_int Try.underlying3 (by kernel_rfl)) (trodsF_cons rfl (trods_int Try.underlying3 (by kernel_rfl)) (trodsF_cons rfl (trods_str Try.underlying9 (by kernel_rfl)) (trodsF_nil _))))) (trodsF_cons rfl (trods_struct Try.underlying81 (by kernel_rfl) (trodsF_cons rfl (trods_int Try.underlying3 (by kernel_rfl)) (trodsF_cons rfl (trods_int Try.underlying3 (by kernel_rfl)) (trodsF_cons rfl (trods_str Try.underlying9 (by kernel_rfl)) (trodsF_nil _))))) (trodsF_cons rfl (trods_slice Try.underlying68 (by kernel_rfl) (trods_struct Try.underlying81 (by kernel_rfl) (trodsF_cons rfl (trods_int Try.underlying3 (by kernel_rfl)) (trodsF_cons rfl (trods_int Try.underlying3 (by kernel_rfl)) (trodsF_cons rfl (trods_str Try.underlying9 (by kernel_rfl)) (trodsF_nil _)))))) (trodsF_cons rfl (trods_int Try.underlying3 (by kernel_rfl)) (trodsF_cons rfl (trods_struct Try.underlying81 (by kernel_rfl) (trodsF_cons rfl (trods_int Try.underlying3 (by kernel_rfl)) (trodsF_cons rfl (trods_int Try.underlying3 (by kernel_rfl)) (trodsF_cons rfl (trods_str Try.underlying9 (by kernel_rfl)) (trodsF_nil _))))) (trodsF_cons rfl (trods_int Try.underlying3 (by kernel_rfl)) (trodsF_nil _)))))))))) (trodsF_nil _)))) (trodsF_cons rfl (trods_int Try.underlying3 (by kernel_rfl)) (trodsF_cons rfl (trods_int Try.underlying3 (by kernel_rfl)) (trodsF_nil _)))))))) h1
  obtain ⟨a1, len1, cap1, rfl⟩ := okWide_slice Try.underlying87 (hval 1 87 v1 rfl rfl)
  have z1 := slcIn_of w1
  obtain ⟨a2, rfl, rfl, rfl, y2⟩ := open_string Try.underlying9 (hval 2 9 v2 rfl rfl) h2
  have w2 : a2.size ≤ 140737488351232 := by
    have z := sized_string hsz (j := 2) (t := 9) rfl rfl
    rw [Array.length_toList] at z
    exact z
  clear hA0 hval0 hsz0 hsz
  refine (Bill.back_row a0 len0 cap0 y0 a1 len1 cap1 y1 a2 W z0 z1 w2).mono fun e W' ⟨he, bel⟩ => ?_
  subst he
  exact ⟨_, rfl, _, _, _, [], _, [], hW', trodAll_mk1 (shut_bool Try.underlying4 _), (trodAll_cons_mk (Below.trod laidOut (by kernel_rfl) (of_decide_eq_true (by kernel_rfl)) h0 bel lt0) (trodAll_cons_mk (Below.trod laidOut (by kernel_rfl) (of_decide_eq_true (by kernel_rfl)) h1 bel lt1) (trodAll_cons_mk (shut_string Try.underlying9 y2) trodAll_mk0))), rfl, bel.frame _, fun h => by cases h⟩
theorem over : Rows.billBackRow.holds Try.pinned (OpenSpec.ofChange Rows.billBackSpec) :=
  OpenClaim.holds_of_wide 8 Try.f8 rfl rfl rfl rfl rfl rfl rfl ⟨rfl, rfl, rfl, rfl, rfl⟩ rfl rfl rfl rfl rfl (by kernel_rfl) Try.func8 (by kernel_rfl)
    (of_decide_eq_true (by kernel_rfl)) (by unfold Func.isWrapper; first | (rw [if_pos (by decide +kernel)]; kernel_rfl) | (rw [if_neg (by decide +kernel)]; exact ⟨rfl, rfl⟩))
    (fun os started H enc _ => lifted os started H enc)
theorem proved : Rows.BillBackSaid := over
#print axioms proved
end Go.Proofs.Ytcfjooeagfollaa.billBack
