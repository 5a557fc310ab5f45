/- Contracts of mains, and of the document's power. -/
import Derived.Test.YthfpliiknifgdaaProg
import Derived.Test.YthfpliiknifgdaaChg
import Derived.WalkKit
import Derived.KernelRfl
import Derived.RowKit3
import Derived.IntWalk
import Derived.RegionTactic
import Derived.Deep.QuietTactic
import Derived.BigQuiet
import Derived.Outline
import Derived.Lib.Hide
namespace Go.Proofs.Ythfpliiknifgdaa.Mains
open Go.RowKit Go.Proofs.Ythfpliiknifgdaa.Mem
set_option linter.unusedSimpArgs false
set_option linter.unusedVariables false

/-- Power: is it there, its fuse, how often it came. -/
structure M where
  on : Bool
  fuse : Int
  boots : Int

def M.cells (m : M) : List Value := [.bool m.on, .int .i64 m.fuse, .int .i64 m.boots]
def M.fresh : M := ⟨true, -1, 1⟩
def M.used (m : M) : M := if m.fuse = 0 then { m with on := false } else if m.on = true ∧ 0 < m.fuse then { m with fuse := m.fuse - 1 } else m
def M.errUse (m : M) : Int := if m.fuse = 0 then 4 else if m.on then 0 else 4
def M.fused (m : M) (n : Int) : M := { m with fuse := if n < 0 then -1 else n }
def M.offed (m : M) : M := { m with on := false }
def M.oned (m : M) : M := if m.on then m else ⟨true, -1, m.boots + 1⟩
/-- What holds of power, whatever is done: it stays in 64 bits. -/
def M.ok (N : Nat) (m : M) : Prop := -1 ≤ m.fuse ∧ m.fuse ≤ 9223372036854775807 ∧ 0 ≤ m.boots ∧ m.boots ≤ N

theorem cells_at {w : World} {b : Nat} {e : TypeId} {m : M} (h : Row w b e m.cells) :
    w.cell? ⟨b, 0, none⟩ = some (.bool m.on) ∧ w.cell? ⟨b, 1, none⟩ = some (.int .i64 m.fuse) ∧ w.cell? ⟨b, 2, none⟩ = some (.int .i64 m.boots)
    ∧ w.frozen? ⟨b, 0, none⟩ = false ∧ w.frozen? ⟨b, 1, none⟩ = false ∧ w.frozen? ⟨b, 2, none⟩ = false :=
  ⟨h.cell rfl, h.cell rfl, h.cell rfl, h.frozen 0 (by simp [M.cells]), h.frozen 1 (by simp [M.cells]), h.frozen 2 (by simp [M.cells])⟩

set_option maxHeartbeats 400000 in
theorem new_calls (w : World) : Calls Try.prog 11 #[] w fun e w' => e = .returned (.pointer (some ⟨w.heap.size, 0, none⟩)) ∧ w' = w.alloc (.cells M.fresh.cells.toArray 75) := by
  go_enter Try.func11, Try.ntmps11
  go_wp2
  go_ret
  exact ⟨rfl, rfl⟩

set_option maxHeartbeats 400000 in
theorem ison_calls (b : Nat) (m : M) (w : World) (h : Row w b 75 m.cells) :
    Calls Try.prog 37 #[.pointer (some ⟨b, 0, none⟩)] w fun e w' => e = .returned (.bool m.on) ∧ w' = w := by
  obtain ⟨c0, c1, c2, f0, f1, f2⟩ := cells_at h
  clear h
  go_enter Try.func37, Try.ntmps37
  go_wp2
  go_ret
  exact ⟨rfl, rfl⟩

set_option maxHeartbeats 400000 in
theorem off_calls (b : Nat) (m : M) (w : World) (h : Row w b 75 m.cells) :
    Calls Try.prog 17 #[.pointer (some ⟨b, 0, none⟩)] w fun e w' => e = .returned (.tuple #[]) ∧ Row w' b 75 m.offed.cells ∧ Chg (One b) w w' := by
  obtain ⟨c0, c1, c2, f0, f1, f2⟩ := cells_at h
  have H := Lib.hid h
  clear h
  go_enter Try.func17, Try.ntmps17
  go_wp2
  go_end0
  exact ⟨rfl, (H.out.set 0 _).cast rfl, (Chg.refl _ _).put _ _⟩

set_option maxHeartbeats 400000 in
theorem on_calls (b : Nat) (m : M) (w : World) (h : Row w b 75 m.cells) (hb : 0 ≤ m.boots ∧ m.boots ≤ 4611686018427387904) :
    Calls Try.prog 20 #[.pointer (some ⟨b, 0, none⟩)] w fun e w' => e = .returned (.tuple #[]) ∧ Row w' b 75 m.oned.cells ∧ Chg (One b) w w' := by
  obtain ⟨on, fuse, boots⟩ := m
  obtain ⟨c0, c1, c2, f0, f1, f2⟩ := cells_at h
  have H := Lib.hid h
  clear h
  obtain ⟨hb0, hb1⟩ := hb
  simp only at hb0 hb1
  cases on
  · go_enter Try.func20, Try.ntmps20
    go_wp2
    go_end0
    exact ⟨rfl, (((H.out.set 0 _).set 1 _).set 2 _).cast rfl, (((Chg.refl _ _).put _ _).put _ _).put _ _⟩
  · go_enter Try.func20, Try.ntmps20
    go_wp2
    go_end0
    exact ⟨rfl, H.out, Chg.refl _ _⟩

set_option maxHeartbeats 400000 in
theorem fuse_calls (b : Nat) (m : M) (n : Int) (w : World) (h : Row w b 75 m.cells) :
    Calls Try.prog 25 #[.pointer (some ⟨b, 0, none⟩), .int .i64 n] w fun e w' => e = .returned (.tuple #[]) ∧ Row w' b 75 (m.fused n).cells ∧ Chg (One b) w w' := by
  obtain ⟨on, fuse, boots⟩ := m
  obtain ⟨c0, c1, c2, f0, f1, f2⟩ := cells_at h
  have H := Lib.hid h
  clear h
  have hmx : ∀ W : World, (Builtin.max_ #[3, 3] 3 #[.int .i64 n, .int .i64 (-1)]).run Try.prog W = .ok (.int .i64 (if n < 0 then -1 else n)) W := by
    intro W
    rw [max_of_two, max2_ints]
    have : (if n < -1 then (-1 : Int) else n) = (if n < 0 then -1 else n) := by split <;> split <;> omega
    rw [this]
    simp
  go_enter Try.func25, Try.ntmps25
  go_wp2
  all_goals
    go_end0
    first
    | exact ⟨rfl, (H.out.set 1 _).cast rfl, (Chg.refl _ _).put _ _⟩
    | (refine ⟨rfl, (H.out.set 1 _).cast ?_, (Chg.refl _ _).put _ _⟩; simp [M.cells, M.fused]; omega)

set_option maxHeartbeats 400000 in
theorem use_calls (b : Nat) (m : M) (w : World) (h : Row w b 75 m.cells) (hf : -1 ≤ m.fuse ∧ m.fuse ≤ 9223372036854775807) :
    Calls Try.prog 36 #[.pointer (some ⟨b, 0, none⟩)] w fun e w' => e = .returned (.int .i64 m.errUse) ∧ Row w' b 75 m.used.cells ∧ Chg (One b) w w' := by
  obtain ⟨on, fuse, boots⟩ := m
  obtain ⟨c0, c1, c2, f0, f1, f2⟩ := cells_at h
  have H := Lib.hid h
  clear h
  obtain ⟨hf0, hf1⟩ := hf
  simp only at hf0 hf1 c0 c1 c2
  by_cases h0 : fuse = 0
  · subst h0
    go_enter Try.func36, Try.ntmps36
    go_wp2
    go_ret
    exact ⟨rfl, (H.out.set 0 _).cast rfl, (Chg.refl _ _).put _ _⟩
  · have h0' : (fuse == 0) = false := by rw [beq_eq_false_iff_ne]; exact h0
    cases on
    · have hu : (M.used ⟨false, fuse, boots⟩) = ⟨false, fuse, boots⟩ := by simp [M.used, h0]
      have he : (M.errUse ⟨false, fuse, boots⟩) = 4 := by simp [M.errUse, h0]
      rw [hu, he]
      clear hu he h0
      go_enter Try.func36, Try.ntmps36
      go_wp2
      go_ret
      exact ⟨rfl, H.out, Chg.refl _ _⟩
    · have he : (M.errUse ⟨true, fuse, boots⟩) = 0 := by simp [M.errUse, h0]
      by_cases hp : 0 < fuse
      · have hu : (M.used ⟨true, fuse, boots⟩) = ⟨true, fuse - 1, boots⟩ := by simp [M.used, h0, hp]
        rw [hu, he]
        clear hu he h0
        go_enter Try.func36, Try.ntmps36
        go_wp2
        go_ret
        exact ⟨rfl, (H.out.set 1 _).cast rfl, (Chg.refl _ _).put _ _⟩
      · have hu : (M.used ⟨true, fuse, boots⟩) = ⟨true, fuse, boots⟩ := by simp [M.used, h0, hp]
        have hp' : fuse ≤ 0 := by omega
        rw [hu, he]
        clear hu he h0
        go_enter Try.func36, Try.ntmps36
        go_wp2
        go_ret
        exact ⟨rfl, H.out, Chg.refl _ _⟩
end Go.Proofs.Ythfpliiknifgdaa.Mains
