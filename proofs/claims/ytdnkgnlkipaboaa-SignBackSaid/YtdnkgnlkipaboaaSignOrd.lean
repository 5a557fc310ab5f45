/- sign.Compare; codes stand as their values do. -/
import Derived.Test.YtdnkgnlkipaboaaSignCmp
import Derived.Test.YtdnkgnlkipaboaaSignRead
import Derived.StillTailTactics
namespace Go.Proofs.Ytdnkgnlkipaboaa.Sign
open Go.RowKit Go.Proofs.Ytdnkgnlkipaboaa.Mem Go.Proofs.Ytdnkgnlkipaboaa.Bytes Go.Proofs.Ytdnkgnlkipaboaa.Num
set_option linter.unusedSimpArgs false
set_option linter.unusedVariables false

def cmpG (v u : V) : Int := orL [Lib.compareInt v.k u.k, Lib.compareInt v.n u.n, cmpB v.s.data.toList u.s.data.toList]
def cmpV (v u : V) : Int := if v.good = true ∧ u.good = true then cmpG v u else 0

theorem or3_calls (a b c : Int) (w : World) : Calls Try.prog 26 #[.slice (some ⟨w.heap.size, 0, none⟩) 3 3] (w.alloc (.cells #[.int .i64 a, .int .i64 b, .int .i64 c] 3)) fun e w' => e = .returned (.int .i64 (orL [a, b, c])) ∧ w' = (w.alloc (.cells #[.int .i64 a, .int .i64 b, .int .i64 c] 3)) :=
  or_calls [a, b, c] w.heap.size _ (Row.new' w 3 #[.int .i64 a, .int .i64 b, .int .i64 c]) (by simp)

set_option maxHeartbeats 4000000 in
theorem compare_calls (v u : V) (w : World) : Calls Try.prog 19 #[v.val, u.val] w fun e w' => e = .returned (.int .i64 (cmpV v u)) ∧ Below w.heap.size w w' := by
  have gv := good_calls v
  have gu := good_calls u
  obtain ⟨k, n, s⟩ := v
  obtain ⟨k', n', s'⟩ := u
  have hX : Row ((w.alloc (.cells (V.cells ⟨k, n, s⟩).toArray 25)).alloc (.cells (V.cells ⟨k', n', s'⟩).toArray 25)) w.heap.size 25 (V.cells ⟨k, n, s⟩) := (new_at rfl : Row (w.alloc (.cells (V.cells ⟨k, n, s⟩).toArray 25)) w.heap.size 25 (V.cells ⟨k, n, s⟩)).alloc _
  have hY : Row ((w.alloc (.cells (V.cells ⟨k, n, s⟩).toArray 25)).alloc (.cells (V.cells ⟨k', n', s'⟩).toArray 25)) (w.heap.size + 1) 25 (V.cells ⟨k', n', s'⟩) := new_at (by simp)
  have hb : Below w.heap.size w ((w.alloc (.cells (V.cells ⟨k, n, s⟩).toArray 25)).alloc (.cells (V.cells ⟨k', n', s'⟩).toArray 25)) := ((Below.refl _ _).alloc (Nat.le_refl _) _).alloc (by simp) _
  have XX := Lib.hid hX
  have YY := Lib.hid hY
  have BB := Lib.hid hb
  clear hX hY hb
  cases hgv : V.good ⟨k, n, s⟩
  · have ho : cmpV ⟨k, n, s⟩ ⟨k', n', s'⟩ = 0 := by unfold cmpV; rw [if_neg (by rw [hgv]; simp)]
    rw [hgv] at gv
    have GV := Lib.hid gv
    rw [ho]
    clear ho hgv gv gu
    go_enter Try.func19, Try.ntmps19
    go_wp2_with (first
      | (refine load_row XX.out 25 Try.underlying25 rfl (by kernel_rfl) rfl rfl rfl ?_)
      | (refine (GV.out _).mono ?_; rintro e w1 ⟨rfl, hb1⟩))
    go_ret
    exact ⟨rfl, BB.out.trans (hb1.mono BB.out.size)⟩
  · cases hgu : V.good ⟨k', n', s'⟩
    · have ho : cmpV ⟨k, n, s⟩ ⟨k', n', s'⟩ = 0 := by unfold cmpV; rw [if_neg (by rw [hgu]; simp)]
      rw [hgv] at gv
      rw [hgu] at gu
      have GV := Lib.hid gv
      have GU := Lib.hid gu
      rw [ho]
      clear ho hgv hgu gv gu
      go_enter Try.func19, Try.ntmps19
      go_wp2_with (refine load_row XX.out 25 Try.underlying25 rfl (by kernel_rfl) rfl rfl rfl ?_)
      refine (GV.out _).mono ?_
      rintro e w1 ⟨rfl, hb1⟩
      have Y1 := Lib.hid (YY.out.below hb1 YY.out.lt)
      have y0 := Y1.out.cell (i := 0) rfl
      have y1 := Y1.out.cell (i := 1) rfl
      have y2 := Y1.out.cell (i := 2) rfl
      simp only at y0 y1 y2
      go_wp2_with fail
      refine (GU.out _).mono ?_
      rintro e w2 ⟨rfl, hb2⟩
      go_wp2_with fail
      go_ret
      exact ⟨rfl, (BB.out.trans (hb1.mono BB.out.size)).trans (hb2.mono (Nat.le_trans BB.out.size hb1.size))⟩
    · have ho : cmpV ⟨k, n, s⟩ ⟨k', n', s'⟩ = cmpG ⟨k, n, s⟩ ⟨k', n', s'⟩ := by unfold cmpV; rw [if_pos ⟨hgv, hgu⟩]
      rw [hgv] at gv
      rw [hgu] at gu
      have GV := Lib.hid gv
      have GU := Lib.hid gu
      have HO := Lib.hid ho
      clear ho hgv hgu gv gu
      go_enter Try.func19, Try.ntmps19
      go_wp2_with (refine load_row XX.out 25 Try.underlying25 rfl (by kernel_rfl) rfl rfl rfl ?_)
      refine (GV.out _).mono ?_
      rintro e w1 ⟨rfl, hb1⟩
      have Y1 := Lib.hid (YY.out.below hb1 YY.out.lt)
      have X1 := Lib.hid (XX.out.below hb1 XX.out.lt)
      have y0 := Y1.out.cell (i := 0) rfl
      have y1 := Y1.out.cell (i := 1) rfl
      have y2 := Y1.out.cell (i := 2) rfl
      simp only at y0 y1 y2
      go_wp2_with fail
      refine (GU.out _).mono ?_
      rintro e w2 ⟨rfl, hb2⟩
      clear y0 y1 y2
      have Y2 := Y1.out.below hb2 Y1.out.lt
      have X2 := X1.out.below hb2 X1.out.lt
      have hb3 := Lib.hid ((BB.out.trans (hb1.mono BB.out.size)).trans (hb2.mono (Nat.le_trans BB.out.size hb1.size)))
      clear hb1 hb2 X1 Y1
      have x0 := X2.cell (i := 0) rfl
      have x1 := X2.cell (i := 1) rfl
      have x2 := X2.cell (i := 2) rfl
      have y0 := Y2.cell (i := 0) rfl
      have y1 := Y2.cell (i := 1) rfl
      have y2 := Y2.cell (i := 2) rfl
      simp only at x0 x1 x2 y0 y1 y2
      clear X2 Y2
      go_wp2_with fail
      go_still_tail 15, (by kernel_rfl)
      still_call (Try.cmp_Compare_int _ _ _)
      repeat still_step
      still_call (Try.cmp_Compare_int _ _ _)
      repeat still_step
      still_call (cmps_calls _ _ _)
      repeat still_step
      try refine wpStill_nil ?_
      change wpList _ _ _ _ _ w2.drew
      have hb4 := Lib.hid hb3.out.drew
      clear hb3 x0 x1 x2 y0 y1 y2
      generalize w2.drew = w3 at *
      go_wp2_with fail
      refine (or3_calls _ _ _ _).mono ?_
      rintro e w4 ⟨rfl, rfl⟩
      go_wp2_with fail
      go_ret
      exact ⟨by rw [HO.out]; rfl, hb4.out.alloc hb4.out.size _⟩
end Go.Proofs.Ytdnkgnlkipaboaa.Sign
