/- DiaryKeeps holds: for every input the law answers true, and each argument reads behind the call as it read before. No condition. -/
import Derived.Test.YtcfjooeagfollaaRows
import Derived.Test.YtcfjooeagfollaaDiaMC
import Derived.Test.YtcfjooeagfollaaCod
import Derived.WalkKit
import Derived.ProofKit
import Derived.OpenShut
import Derived.ShutString
import Derived.ChangeOld
import Derived.Below
import Derived.SizedLaws
namespace Go.Proofs.Ytcfjooeagfollaa.diaryKeeps
open Go.ChangeShapes Go.WideShapes Go.ChangeAt Go.RowKit Go.Proofs.Ytcfjooeagfollaa.Mem
open Go.ChangeMaps (open_string shut_string)
set_option linter.unusedVariables false
theorem own : ownKnob Try.prog.godebug = none := by kernel_rfl
theorem laidOut : laidOutB Try.prog = true := by kernel_rfl
set_option maxRecDepth 100000 in
theorem lifted (os : Os) (started : os.Started) (H : Type) (enc : TypeId × Value → H) :
    ReturnsInHanded {} Try.checked os 12 .any (Rows.diaryKeepsSpec.pre6 enc Try.prog Try.f12 Rows.diaryKeepsRow.domain false) (Rows.diaryKeepsSpec.post enc Try.prog Try.f12 false true false false) := by
  refine returnsInHanded_of_change_sized (C := Try.checked) own started (by kernel_rfl) Try.func12
    (ChangeSpec.witness6 (enc := enc) (C := Try.checked) false ⟨#[], #[.slice none 0 0, .int .i64 0, .int .i64 0], []⟩ 12 (by kernel_rfl) (by kernel_rfl) (by kernel_rfl) (by kernel_rfl)) ?_
  intro W base args ds gs before hval0 hW hcnd hsz0 _
  have hsz : (DataW.weightsEach Try.prog (Try.f12.params.toList ++ Rows.diaryKeepsSpec.plain.varTypes Try.prog) (ds ++ gs)).all (· ≤ reachBytes) = true := hsz0
  have hval : ∀ (j : Nat) t v, Try.f12.params[j]? = some t → args[j]? = some v → Value.okWide Try.prog W .any base t v := hval0
  have hW' := hW
  obtain ⟨p, q, hA0, hV, rfl, hfz, hnd⟩ := hW
  have hA : DataW.TrodAll enc Try.prog W 0 (fun _ => true) true Try.f12.params.toList args.toList ds p := hA0
  rw [Try.params12] at hA hval hsz
  obtain ⟨v0, vs0, d0, ds0, p0, q0, hargs, rfl, rfl, h0, r0⟩ := trodAll_cons hA
  obtain ⟨v1, vs1, d1, ds1, p1, q1, rfl, rfl, rfl, h1, r1⟩ := trodAll_cons r0
  obtain ⟨v2, vs2, d2, ds2, p2, q2, rfl, rfl, rfl, h2, r2⟩ := trodAll_cons r1
  obtain ⟨rfl, rfl, rfl⟩ := trodAll_nil r2
  obtain rfl : args = #[v0, v1, v2] := by cases args; simp_all
  obtain ⟨rfl, rfl⟩ := trodVars_none hV
  have lt0 : ∀ x ∈ p0, x.block < W.heap.size := by obtain ⟨m, hm⟩ := h0; exact DataW.trod_lt m _ _ _ hm
  obtain ⟨y0, w0⟩ := trods_arg (c := (Cod.slice (Cod.pair (Cod.int .i64) (Cod.pair (Cod.int .i64) (Cod.pair (Cod.int .i64) (Cod.pair (Cod.int .i64) (Cod.pair (Cod.slice (Cod.pair (Cod.int .i64) (Cod.pair Cod.str Cod.unit))) (Cod.pair (Cod.pair (Cod.int .i64) (Cod.pair (Cod.int .i64) (Cod.pair Cod.str (Cod.pair Cod.str Cod.unit)))) (Cod.pair (Cod.slice (Cod.pair (Cod.int .i64) (Cod.pair (Cod.int .i64) Cod.unit))) (Cod.pair (Cod.slice (Cod.pair (Cod.int .i64) (Cod.pair (Cod.int .i64) Cod.unit))) Cod.unit)))))))))) (trods_slice Try.underlying44 (by kernel_rfl) (trods_struct Try.underlying58 (by kernel_rfl) (trodsF_cons rfl (trods_int Try.underlying3 (by kernel_rfl)) (trodsF_cons rfl (trods_int Try.underlying3 (by kernel_rfl)) (trodsF_cons rfl (trods_int Try.underlying3 (by kernel_rfl)) (trodsF_cons rfl (trods_int Try.underlying3 (by kernel_rfl)) (trodsF_cons rfl (trods_slice Try.underlying52 (by kernel_rfl) (trods_struct Try.underlying161 (by kernel_rfl) (trodsF_cons rfl (trods_int Try.underlying3 (by kernel_rfl)) (trodsF_cons rfl (trods_str Try.underlying9 (by kernel_rfl)) (trodsF_nil _))))) (trodsF_cons rfl (trods_struct Try.underlying54 (by kernel_rfl) (trodsF_cons rfl (trods_int Try.underlying3 (by kernel_rfl)) (trodsF_cons rfl (trods_int Try.underlying3 (by kernel_rfl)) (trodsF_cons rfl (trods_str Try.underlying9 (by kernel_rfl)) (trodsF_cons rfl (trods_str Try.underlying9 (by kernel_rfl)) (trodsF_nil _)))))) (trodsF_cons rfl (trods_slice Try.underlying55 (by kernel_rfl) (trods_struct Try.underlying163 (by kernel_rfl) (trodsF_cons rfl (trods_int Try.underlying3 (by kernel_rfl)) (trodsF_cons rfl (trods_int Try.underlying3 (by kernel_rfl)) (trodsF_nil _))))) (trodsF_cons rfl (trods_slice Try.underlying56 (by kernel_rfl) (trods_struct Try.underlying165 (by kernel_rfl) (trodsF_cons rfl (trods_int Try.underlying3 (by kernel_rfl)) (trodsF_cons rfl (trods_int Try.underlying3 (by kernel_rfl)) (trodsF_nil _))))) (trodsF_nil _))))))))))) h0
  obtain ⟨a0, len0, cap0, rfl⟩ := okWide_slice Try.underlying44 (hval 0 44 v0 rfl rfl)
  have z0 := slcIn_of w0
  obtain ⟨a1, rfl, rfl, rfl, w1⟩ := open_int Try.underlying3 (hval 1 3 v1 rfl rfl) h1
  obtain ⟨a2, rfl, rfl, rfl, w2⟩ := open_int Try.underlying3 (hval 2 3 v2 rfl rfl) h2
  clear hA0 hval0 hsz0 hsz
  refine (Dia.keeps_row a0 len0 cap0 y0 a1 a2 W z0 w1 w2).mono fun e W' ⟨he, bel⟩ => ?_
  subst he
  exact ⟨_, rfl, _, _, _, [], _, [], hW', trodAll_mk1 (shut_bool Try.underlying4 _), (trodAll_cons_mk (Below.trod laidOut (by kernel_rfl) (of_decide_eq_true (by kernel_rfl)) h0 bel lt0) (trodAll_cons_mk (shut_int Try.underlying3 w1) (trodAll_cons_mk (shut_int Try.underlying3 w2) trodAll_mk0))), rfl, bel.frame _, fun h => by cases h⟩
theorem over : Rows.diaryKeepsRow.holds Try.pinned (OpenSpec.ofChange Rows.diaryKeepsSpec) :=
  OpenClaim.holds_of_wide 12 Try.f12 rfl rfl rfl rfl rfl rfl rfl ⟨rfl, rfl, rfl, rfl, rfl⟩ rfl rfl rfl rfl rfl (by kernel_rfl) Try.func12 (by kernel_rfl)
    (of_decide_eq_true (by kernel_rfl)) (by unfold Func.isWrapper; first | (rw [if_pos (by decide +kernel)]; kernel_rfl) | (rw [if_neg (by decide +kernel)]; exact ⟨rfl, rfl⟩))
    (fun os started H enc _ => lifted os started H enc)
theorem proved : Rows.DiaryKeepsSaid := over
#print axioms proved
end Go.Proofs.Ytcfjooeagfollaa.diaryKeeps
