/- Contracts of mains, and of the document's power. -/
import Derived.Test.YtcfjooeagfollaaProg
import Derived.Test.YtcfjooeagfollaaChg
import Derived.WalkKit
import Derived.KernelRfl
import Derived.RowKit3
import Derived.IntWalk
import Derived.RegionTactic
import Derived.Deep.QuietTactic
import Derived.BigQuiet
import Derived.Outline
import Derived.Lib.Hide
namespace Go.Proofs.Ytcfjooeagfollaa.Mains
open Go.RowKit Go.Proofs.Ytcfjooeagfollaa.Mem
set_option linter.unusedSimpArgs false
set_option linter.unusedVariables false
set_option maxRecDepth 20000

/-- Power: is it there, its fuse, how often it came. -/
structure M where
  on : Bool
  fuse : Int
  boots : Int

def M.cells (m : M) : List Value := [.bool m.on, .int .i64 m.fuse, .int .i64 m.boots]
def M.fresh : M := ⟨true, -1, 1⟩
def M.used (m : M) : M := if m.fuse = 0 then { m with on := false } else if m.on = true ∧ 0 < m.fuse then { m with fuse := m.fuse - 1 } else m
def M.errUse (m : M) : Int := if m.fuse = 0 then 4 else if m.on then 0 else 4
def M.fused (m : M) (n : Int) : M := { m with fuse := if n < 0 then -1 else n }
def M.offed (m : M) : M := { m with on := false }
def M.oned (m : M) : M := if m.on then m else ⟨true, -1, m.boots + 1⟩
/-- What holds of power, whatever is done: it stays in 64 bits. -/
def M.ok (N : Nat) (m : M) : Prop := -1 ≤ m.fuse ∧ m.fuse ≤ 9223372036854775807 ∧ 0 ≤ m.boots ∧ m.boots ≤ N

theorem cells_at {w : World} {b : Nat} {e : TypeId} {m : M} (h : Row w b e m.cells) :
    w.cell? ⟨b, 0, none⟩ = some (.bool m.on) ∧ w.cell? ⟨b, 1, none⟩ = some (.int .i64 m.fuse) ∧ w.cell? ⟨b, 2, none⟩ = some (.int .i64 m.boots)
    ∧ w.frozen? ⟨b, 0, none⟩ = false ∧ w.frozen? ⟨b, 1, none⟩ = false ∧ w.frozen? ⟨b, 2, none⟩ = false :=
  ⟨h.cell rfl, h.cell rfl, h.cell rfl, h.frozen 0 (by simp [M.cells]), h.frozen 1 (by simp [M.cells]), h.frozen 2 (by simp [M.cells])⟩

set_option maxHeartbeats 400000 in
theorem new_calls (w : World) : Calls Try.prog 24 #[] w fun e w' => e = .returned (.pointer (some ⟨w.heap.size, 0, none⟩)) ∧ w' = w.alloc (.cells M.fresh.cells.toArray 147) := by
  go_enter Try.func24, Try.ntmps24
  go_wp2
  go_ret
  exact ⟨rfl, rfl⟩

set_option maxHeartbeats 400000 in
theorem ison_calls (b : Nat) (m : M) (w : World) (h : Row w b 147 m.cells) :
    Calls Try.prog 124 #[.pointer (some ⟨b, 0, none⟩)] w fun e w' => e = .returned (.bool m.on) ∧ w' = w := by
  obtain ⟨c0, c1, c2, f0, f1, f2⟩ := cells_at h
  clear h
  go_enter Try.func124, Try.ntmps124
  go_wp2
  go_ret
  exact ⟨rfl, rfl⟩

set_option maxHeartbeats 400000 in
theorem off_calls (b : Nat) (m : M) (w : World) (h : Row w b 147 m.cells) :
    Calls Try.prog 33 #[.pointer (some ⟨b, 0, none⟩)] w fun e w' => e = .returned (.tuple #[]) ∧ Row w' b 147 m.offed.cells ∧ Chg (One b) w w' := by
  obtain ⟨c0, c1, c2, f0, f1, f2⟩ := cells_at h
  have H := Lib.hid h
  clear h
  go_enter Try.func33, Try.ntmps33
  go_wp2
  go_end0
  exact ⟨rfl, (H.out.set 0 _).cast rfl, (Chg.refl _ _).put _ _⟩

set_option maxHeartbeats 400000 in
theorem on_calls (b : Nat) (m : M) (w : World) (h : Row w b 147 m.cells) (hb : 0 ≤ m.boots ∧ m.boots ≤ 4611686018427387904) :
    Calls Try.prog 68 #[.pointer (some ⟨b, 0, none⟩)] w fun e w' => e = .returned (.tuple #[]) ∧ Row w' b 147 m.oned.cells ∧ Chg (One b) w w' := by
  obtain ⟨on, fuse, boots⟩ := m
  obtain ⟨c0, c1, c2, f0, f1, f2⟩ := cells_at h
  have H := Lib.hid h
  clear h
  obtain ⟨hb0, hb1⟩ := hb
  simp only at hb0 hb1
  cases on
  · go_enter Try.func68, Try.ntmps68
    go_wp2
    go_end0
    exact ⟨rfl, (((H.out.set 0 _).set 1 _).set 2 _).cast rfl, (((Chg.refl _ _).put _ _).put _ _).put _ _⟩
  · go_enter Try.func68, Try.ntmps68
    go_wp2
    go_end0
    exact ⟨rfl, H.out, Chg.refl _ _⟩

set_option maxHeartbeats 400000 in
theorem use_calls (b : Nat) (m : M) (w : World) (h : Row w b 147 m.cells) (hf : -1 ≤ m.fuse ∧ m.fuse ≤ 9223372036854775807) :
    Calls Try.prog 81 #[.pointer (some ⟨b, 0, none⟩)] w fun e w' => e = .returned (.int .i64 m.errUse) ∧ Row w' b 147 m.used.cells ∧ Chg (One b) w w' := by
  obtain ⟨on, fuse, boots⟩ := m
  obtain ⟨c0, c1, c2, f0, f1, f2⟩ := cells_at h
  have H := Lib.hid h
  clear h
  obtain ⟨hf0, hf1⟩ := hf
  simp only at hf0 hf1 c0 c1 c2
  by_cases h0 : fuse = 0
  · subst h0
    go_enter Try.func81, Try.ntmps81
    go_wp2
    go_ret
    exact ⟨rfl, (H.out.set 0 _).cast rfl, (Chg.refl _ _).put _ _⟩
  · have h0' : (fuse == 0) = false := by rw [beq_eq_false_iff_ne]; exact h0
    cases on
    · have hu : (M.used ⟨false, fuse, boots⟩) = ⟨false, fuse, boots⟩ := by simp [M.used, h0]
      have he : (M.errUse ⟨false, fuse, boots⟩) = 4 := by simp [M.errUse, h0]
      rw [hu, he]
      clear hu he h0
      go_enter Try.func81, Try.ntmps81
      go_wp2
      go_ret
      exact ⟨rfl, H.out, Chg.refl _ _⟩
    · have he : (M.errUse ⟨true, fuse, boots⟩) = 0 := by simp [M.errUse, h0]
      by_cases hp : 0 < fuse
      · have hu : (M.used ⟨true, fuse, boots⟩) = ⟨true, fuse - 1, boots⟩ := by simp [M.used, h0, hp]
        rw [hu, he]
        clear hu he h0
        go_enter Try.func81, Try.ntmps81
        go_wp2
        go_ret
        exact ⟨rfl, (H.out.set 1 _).cast rfl, (Chg.refl _ _).put _ _⟩
      · have hu : (M.used ⟨true, fuse, boots⟩) = ⟨true, fuse, boots⟩ := by simp [M.used, h0, hp]
        have hp' : fuse ≤ 0 := by omega
        rw [hu, he]
        clear hu he h0
        go_enter Try.func81, Try.ntmps81
        go_wp2
        go_ret
        exact ⟨rfl, H.out, Chg.refl _ _⟩
end Go.Proofs.Ytcfjooeagfollaa.Mains
