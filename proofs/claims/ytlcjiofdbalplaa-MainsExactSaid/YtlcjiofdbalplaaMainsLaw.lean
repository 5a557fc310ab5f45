/- The laws of power: the walks. -/
import Derived.Test.YtlcjiofdbalplaaMains
import Derived.LoopTactic
namespace Go.Proofs.Ytlcjiofdbalplaa.Mains
open Go.RowKit Go.Proofs.Ytlcjiofdbalplaa.Mem
set_option linter.unusedSimpArgs false
set_option linter.unusedVariables false

set_option maxHeartbeats 400000 in
theorem fuse_nil (n : Int) (w : World) : Calls Try.prog 24 #[.pointer none, .int .i64 n] w fun e w' => e = .returned (.tuple #[]) ∧ w' = w := by
  go_enter Try.func24, Try.ntmps24
  go_wp2
  go_end0
  exact ⟨rfl, rfl⟩
set_option maxHeartbeats 400000 in
theorem off_nil (w : World) : Calls Try.prog 25 #[.pointer none] w fun e w' => e = .returned (.tuple #[]) ∧ w' = w := by
  go_enter Try.func25, Try.ntmps25
  go_wp2
  go_end0
  exact ⟨rfl, rfl⟩
set_option maxHeartbeats 400000 in
theorem on_nil (w : World) : Calls Try.prog 26 #[.pointer none] w fun e w' => e = .returned (.tuple #[]) ∧ w' = w := by
  go_enter Try.func26, Try.ntmps26
  go_wp2
  go_end0
  exact ⟨rfl, rfl⟩
set_option maxHeartbeats 400000 in
theorem use_nil (w : World) : Calls Try.prog 23 #[.pointer none] w fun e w' => e = .returned (.int .i64 2) ∧ w' = w := by
  go_enter Try.func23, Try.ntmps23
  go_wp2
  go_ret
  exact ⟨rfl, rfl⟩
set_option maxHeartbeats 400000 in
theorem ison_nil (w : World) : Calls Try.prog 27 #[.pointer none] w fun e w' => e = .returned (.bool false) ∧ w' = w := by
  go_enter Try.func27, Try.ntmps27
  go_wp2
  go_ret
  exact ⟨rfl, rfl⟩
set_option maxHeartbeats 400000 in
theorem boots_nil (w : World) : Calls Try.prog 28 #[.pointer none] w fun e w' => e = .returned (.int .i64 0) ∧ w' = w := by
  go_enter Try.func28, Try.ntmps28
  go_wp2
  go_ret
  exact ⟨rfl, rfl⟩

set_option maxHeartbeats 800000 in
theorem awake_calls (w : World) : Calls Try.prog 20 #[] w fun e w' => e = .returned (.bool true) ∧ Below w.heap.size w w' := by
  go_enter Try.func20, Try.ntmps20
  go_wp2_with fail
  refine (new_calls _).mono ?_
  rintro e w1 ⟨rfl, rfl⟩
  have hr : Row (w.alloc (.cells M.fresh.cells.toArray 53)) w.heap.size 53 (⟨true, -1, 1⟩ : M).cells := Row.new _ _ _
  have hb : Below w.heap.size w (w.alloc (.cells M.fresh.cells.toArray 53)) := (Below.refl _ _).alloc (Nat.le_refl _) _
  generalize w.alloc (.cells M.fresh.cells.toArray 53) = w1 at hr hb ⊢
  go_wp2_with fail
  refine (fuse_calls w.heap.size ⟨true, -1, 1⟩ 1 _ hr).mono ?_
  rintro e w2 ⟨rfl, hr2, hc⟩
  replace hb := below_one hb hc (Nat.le_refl _) (Nat.le_refl _)
  clear hc hr
  go_wp2_with fail
  refine (ison_calls w.heap.size ⟨true, 1, 1⟩ _ hr2).mono ?_
  rintro e w3 ⟨rfl, rfl⟩
  go_wp2_with fail
  refine (use_calls w.heap.size ⟨true, 1, 1⟩ _ hr2 (by decide)).mono ?_
  rintro e w3 ⟨rfl, hr3, hc⟩
  replace hb := below_one hb hc (Nat.le_refl _) (Nat.le_refl _)
  clear hc hr2
  go_wp2_with fail
  refine (use_calls w.heap.size ⟨true, 0, 1⟩ _ hr3 (by decide)).mono ?_
  rintro e w4 ⟨rfl, hr4, hc⟩
  replace hb := below_one hb hc (Nat.le_refl _) (Nat.le_refl _)
  clear hc hr3
  go_wp2_with fail
  refine (ison_calls w.heap.size ⟨false, 0, 1⟩ _ hr4).mono ?_
  rintro e w5 ⟨rfl, rfl⟩
  go_wp2_with fail
  refine (boots_calls w.heap.size ⟨false, 0, 1⟩ _ hr4).mono ?_
  rintro e w5 ⟨rfl, rfl⟩
  go_wp2
  go_ret
  exact ⟨rfl, hb⟩
end Go.Proofs.Ytlcjiofdbalplaa.Mains
