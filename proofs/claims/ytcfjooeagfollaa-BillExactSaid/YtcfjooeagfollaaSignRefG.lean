/- The document's Good and Compare (gaugerref01). -/
import Derived.Test.YtcfjooeagfollaaSignMath
namespace Go.Proofs.Ytcfjooeagfollaa.Sign
open Go.RowKit Go.Proofs.Ytcfjooeagfollaa.Mem Go.Proofs.Ytcfjooeagfollaa.Bytes Go.Proofs.Ytcfjooeagfollaa.Num
open Go.Proofs.Ytcfjooeagfollaa.Ord
set_option linter.unusedSimpArgs false
set_option linter.unusedVariables false
set_option maxRecDepth 20000

set_option maxHeartbeats 1000000 in
theorem refgood_calls (v : V) (w : World) : Calls Try.prog 99 #[v.val] w fun e w' => e = .returned (.bool v.good) ∧ Below w.heap.size w w' := by
  obtain ⟨k, n, s⟩ := v
  have hb : Below w.heap.size w (w.alloc (.cells (V.cells ⟨k, n, s⟩).toArray 81)) := (Below.refl _ _).alloc (Nat.le_refl _) _
  have hX := Row.new w 81 (V.cells ⟨k, n, s⟩)
  have x0 := hX.cell (i := 0) rfl
  have x1 := hX.cell (i := 1) rfl
  have x2 := hX.cell (i := 2) rfl
  simp only at x0 x1 x2
  clear hX
  by_cases h1 : k = 1
  · subst h1
    by_cases hs : s.size = 0
    · have hg : V.good ⟨1, n, s⟩ = true := by simp [V.good, hs]
      rw [hg]
      obtain rfl := size_zero hs
      clear hg hs
      go_enter Try.func99, Try.ntmps99
      go_wp2_with fail
      go_ret
      exact ⟨rfl, hb⟩
    · have hg : V.good ⟨1, n, s⟩ = false := by simp [V.good, hs]
      rw [hg]
      obtain ⟨e1, e2⟩ := empty_false hs
      clear hg hs
      go_enter Try.func99, Try.ntmps99
      go_wp2_with fail
      go_ret
      exact ⟨by simp [e1, e2], hb⟩
  · have d1 : ((k : Int) == 1) = false := by simpa using h1
    by_cases h2 : k = 2
    · subst h2
      by_cases hn : n = 0
      · subst hn
        have hg : V.good ⟨2, 0, s⟩ = decide (s.size ≤ 7) := by simp [V.good]
        rw [hg]
        have hc : decide (s.size ≤ 7) = decide ((s.size : Int) ≤ 7) := by simp; omega
        have HC := Lib.hid hc
        clear hg d1 h1 hc
        go_enter Try.func99, Try.ntmps99
        go_wp2_with fail
        go_ret
        exact ⟨by rw [HC.out]; rfl, hb⟩
      · have hg : V.good ⟨2, n, s⟩ = false := by simp [V.good, hn]
        rw [hg]
        have dn : ((n : Int) == 0) = false := by simpa using hn
        clear hg hn d1 h1
        go_enter Try.func99, Try.ntmps99
        go_wp2_with fail
        go_ret
        exact ⟨rfl, hb⟩
    · have hg : V.good ⟨k, n, s⟩ = false := by simp [V.good, h1, h2]
      rw [hg]
      have d2 : ((k : Int) == 2) = false := by simpa using h2
      clear hg h1 h2
      go_enter Try.func99, Try.ntmps99
      go_wp2_with fail
      go_ret
      exact ⟨rfl, hb⟩

set_option maxHeartbeats 1000000 in
theorem rc_bad1 (k k' n n' : Int) (s s' : ByteArray) (w : World)
    (GV : RowKit.Hid (∀ w, Calls Try.prog 99 #[(.agg #[.int .i64 k, .int .i64 n, .string s])] w fun e w' => e = .returned (.bool false) ∧ Below w.heap.size w w')) :
    Calls Try.prog 40 #[(.agg #[.int .i64 k, .int .i64 n, .string s]), (.agg #[.int .i64 k', .int .i64 n', .string s'])] w fun e w' => e = .returned (.int .i64 0) ∧ Below w.heap.size w w' := by
  have hX : Row ((w.alloc (.cells #[.int .i64 k, .int .i64 n, .string s] 81)).alloc (.cells #[.int .i64 k', .int .i64 n', .string s'] 81)) w.heap.size 81 [.int .i64 k, .int .i64 n, .string s] := (new_at rfl : Row (w.alloc (.cells #[.int .i64 k, .int .i64 n, .string s] 81)) w.heap.size 81 [.int .i64 k, .int .i64 n, .string s]).alloc _
  have hY : Row ((w.alloc (.cells #[.int .i64 k, .int .i64 n, .string s] 81)).alloc (.cells #[.int .i64 k', .int .i64 n', .string s'] 81)) (w.heap.size + 1) 81 [.int .i64 k', .int .i64 n', .string s'] := new_at (by simp)
  have hb : Below w.heap.size w ((w.alloc (.cells #[.int .i64 k, .int .i64 n, .string s] 81)).alloc (.cells #[.int .i64 k', .int .i64 n', .string s'] 81)) := ((Below.refl _ _).alloc (Nat.le_refl _) _).alloc (by simp) _
  have X := Lib.hid hX
  have Y := Lib.hid hY
  have B := Lib.hid hb
  clear hX hY hb
  have x0 := X.out.cell (i := 0) rfl
  have x1 := X.out.cell (i := 1) rfl
  have x2 := X.out.cell (i := 2) rfl
  have y0 := Y.out.cell (i := 0) rfl
  have y1 := Y.out.cell (i := 1) rfl
  have y2 := Y.out.cell (i := 2) rfl
  try simp only at x0 x1 x2 y0 y1 y2
  go_enter Try.func40, Try.ntmps40
  go_wp2_with fail
  clear x0 x1 x2 y0 y1 y2
  refine (GV.out _).mono ?_
  rintro e w1 ⟨rfl, h1⟩
  replace X := Lib.hid (X.out.below h1 X.out.lt)
  replace Y := Lib.hid (Y.out.below h1 Y.out.lt)
  replace B := Lib.hid (B.out.trans (h1.mono B.out.size))
  clear h1
  have x0 := X.out.cell (i := 0) rfl
  have x1 := X.out.cell (i := 1) rfl
  have x2 := X.out.cell (i := 2) rfl
  have y0 := Y.out.cell (i := 0) rfl
  have y1 := Y.out.cell (i := 1) rfl
  have y2 := Y.out.cell (i := 2) rfl
  try simp only at x0 x1 x2 y0 y1 y2
  go_wp2_with fail
  go_ret
  exact ⟨rfl, B.out⟩

set_option maxHeartbeats 1000000 in
theorem rc_bad2 (k k' n n' : Int) (s s' : ByteArray) (w : World)
    (GV : RowKit.Hid (∀ w, Calls Try.prog 99 #[(.agg #[.int .i64 k, .int .i64 n, .string s])] w fun e w' => e = .returned (.bool true) ∧ Below w.heap.size w w'))
    (GU : RowKit.Hid (∀ w, Calls Try.prog 99 #[(.agg #[.int .i64 k', .int .i64 n', .string s'])] w fun e w' => e = .returned (.bool false) ∧ Below w.heap.size w w')) :
    Calls Try.prog 40 #[(.agg #[.int .i64 k, .int .i64 n, .string s]), (.agg #[.int .i64 k', .int .i64 n', .string s'])] w fun e w' => e = .returned (.int .i64 0) ∧ Below w.heap.size w w' := by
  have hX : Row ((w.alloc (.cells #[.int .i64 k, .int .i64 n, .string s] 81)).alloc (.cells #[.int .i64 k', .int .i64 n', .string s'] 81)) w.heap.size 81 [.int .i64 k, .int .i64 n, .string s] := (new_at rfl : Row (w.alloc (.cells #[.int .i64 k, .int .i64 n, .string s] 81)) w.heap.size 81 [.int .i64 k, .int .i64 n, .string s]).alloc _
  have hY : Row ((w.alloc (.cells #[.int .i64 k, .int .i64 n, .string s] 81)).alloc (.cells #[.int .i64 k', .int .i64 n', .string s'] 81)) (w.heap.size + 1) 81 [.int .i64 k', .int .i64 n', .string s'] := new_at (by simp)
  have hb : Below w.heap.size w ((w.alloc (.cells #[.int .i64 k, .int .i64 n, .string s] 81)).alloc (.cells #[.int .i64 k', .int .i64 n', .string s'] 81)) := ((Below.refl _ _).alloc (Nat.le_refl _) _).alloc (by simp) _
  have X := Lib.hid hX
  have Y := Lib.hid hY
  have B := Lib.hid hb
  clear hX hY hb
  have x0 := X.out.cell (i := 0) rfl
  have x1 := X.out.cell (i := 1) rfl
  have x2 := X.out.cell (i := 2) rfl
  have y0 := Y.out.cell (i := 0) rfl
  have y1 := Y.out.cell (i := 1) rfl
  have y2 := Y.out.cell (i := 2) rfl
  try simp only at x0 x1 x2 y0 y1 y2
  go_enter Try.func40, Try.ntmps40
  go_wp2_with fail
  clear x0 x1 x2 y0 y1 y2
  refine (GV.out _).mono ?_
  rintro e w1 ⟨rfl, h1⟩
  replace X := Lib.hid (X.out.below h1 X.out.lt)
  replace Y := Lib.hid (Y.out.below h1 Y.out.lt)
  replace B := Lib.hid (B.out.trans (h1.mono B.out.size))
  clear h1
  have x0 := X.out.cell (i := 0) rfl
  have x1 := X.out.cell (i := 1) rfl
  have x2 := X.out.cell (i := 2) rfl
  have y0 := Y.out.cell (i := 0) rfl
  have y1 := Y.out.cell (i := 1) rfl
  have y2 := Y.out.cell (i := 2) rfl
  try simp only at x0 x1 x2 y0 y1 y2
  go_wp2_with fail
  clear x0 x1 x2 y0 y1 y2
  refine (GU.out _).mono ?_
  rintro e w1 ⟨rfl, h1⟩
  replace X := Lib.hid (X.out.below h1 X.out.lt)
  replace Y := Lib.hid (Y.out.below h1 Y.out.lt)
  replace B := Lib.hid (B.out.trans (h1.mono B.out.size))
  clear h1
  have x0 := X.out.cell (i := 0) rfl
  have x1 := X.out.cell (i := 1) rfl
  have x2 := X.out.cell (i := 2) rfl
  have y0 := Y.out.cell (i := 0) rfl
  have y1 := Y.out.cell (i := 1) rfl
  have y2 := Y.out.cell (i := 2) rfl
  try simp only at x0 x1 x2 y0 y1 y2
  go_wp2_with fail
  go_ret
  exact ⟨rfl, B.out⟩

set_option maxHeartbeats 1000000 in
theorem rc_12 (n n' : Int) (s s' : ByteArray) (w : World)
    (GV : RowKit.Hid (∀ w, Calls Try.prog 99 #[(.agg #[.int .i64 1, .int .i64 n, .string s])] w fun e w' => e = .returned (.bool true) ∧ Below w.heap.size w w'))
    (GU : RowKit.Hid (∀ w, Calls Try.prog 99 #[(.agg #[.int .i64 2, .int .i64 n', .string s'])] w fun e w' => e = .returned (.bool true) ∧ Below w.heap.size w w')) :
    Calls Try.prog 40 #[(.agg #[.int .i64 1, .int .i64 n, .string s]), (.agg #[.int .i64 2, .int .i64 n', .string s'])] w fun e w' => e = .returned (.int .i64 (-1)) ∧ Below w.heap.size w w' := by
  have hX : Row ((w.alloc (.cells #[.int .i64 1, .int .i64 n, .string s] 81)).alloc (.cells #[.int .i64 2, .int .i64 n', .string s'] 81)) w.heap.size 81 [.int .i64 1, .int .i64 n, .string s] := (new_at rfl : Row (w.alloc (.cells #[.int .i64 1, .int .i64 n, .string s] 81)) w.heap.size 81 [.int .i64 1, .int .i64 n, .string s]).alloc _
  have hY : Row ((w.alloc (.cells #[.int .i64 1, .int .i64 n, .string s] 81)).alloc (.cells #[.int .i64 2, .int .i64 n', .string s'] 81)) (w.heap.size + 1) 81 [.int .i64 2, .int .i64 n', .string s'] := new_at (by simp)
  have hb : Below w.heap.size w ((w.alloc (.cells #[.int .i64 1, .int .i64 n, .string s] 81)).alloc (.cells #[.int .i64 2, .int .i64 n', .string s'] 81)) := ((Below.refl _ _).alloc (Nat.le_refl _) _).alloc (by simp) _
  have X := Lib.hid hX
  have Y := Lib.hid hY
  have B := Lib.hid hb
  clear hX hY hb
  have x0 := X.out.cell (i := 0) rfl
  have x1 := X.out.cell (i := 1) rfl
  have x2 := X.out.cell (i := 2) rfl
  have y0 := Y.out.cell (i := 0) rfl
  have y1 := Y.out.cell (i := 1) rfl
  have y2 := Y.out.cell (i := 2) rfl
  try simp only at x0 x1 x2 y0 y1 y2
  go_enter Try.func40, Try.ntmps40
  go_wp2_with fail
  clear x0 x1 x2 y0 y1 y2
  refine (GV.out _).mono ?_
  rintro e w1 ⟨rfl, h1⟩
  replace X := Lib.hid (X.out.below h1 X.out.lt)
  replace Y := Lib.hid (Y.out.below h1 Y.out.lt)
  replace B := Lib.hid (B.out.trans (h1.mono B.out.size))
  clear h1
  have x0 := X.out.cell (i := 0) rfl
  have x1 := X.out.cell (i := 1) rfl
  have x2 := X.out.cell (i := 2) rfl
  have y0 := Y.out.cell (i := 0) rfl
  have y1 := Y.out.cell (i := 1) rfl
  have y2 := Y.out.cell (i := 2) rfl
  try simp only at x0 x1 x2 y0 y1 y2
  go_wp2_with fail
  clear x0 x1 x2 y0 y1 y2
  refine (GU.out _).mono ?_
  rintro e w1 ⟨rfl, h1⟩
  replace X := Lib.hid (X.out.below h1 X.out.lt)
  replace Y := Lib.hid (Y.out.below h1 Y.out.lt)
  replace B := Lib.hid (B.out.trans (h1.mono B.out.size))
  clear h1
  have x0 := X.out.cell (i := 0) rfl
  have x1 := X.out.cell (i := 1) rfl
  have x2 := X.out.cell (i := 2) rfl
  have y0 := Y.out.cell (i := 0) rfl
  have y1 := Y.out.cell (i := 1) rfl
  have y2 := Y.out.cell (i := 2) rfl
  try simp only at x0 x1 x2 y0 y1 y2
  go_wp2_with fail
  go_ret
  exact ⟨rfl, B.out⟩

set_option maxHeartbeats 1000000 in
theorem rc_21 (n n' : Int) (s s' : ByteArray) (w : World)
    (GV : RowKit.Hid (∀ w, Calls Try.prog 99 #[(.agg #[.int .i64 2, .int .i64 n, .string s])] w fun e w' => e = .returned (.bool true) ∧ Below w.heap.size w w'))
    (GU : RowKit.Hid (∀ w, Calls Try.prog 99 #[(.agg #[.int .i64 1, .int .i64 n', .string s'])] w fun e w' => e = .returned (.bool true) ∧ Below w.heap.size w w')) :
    Calls Try.prog 40 #[(.agg #[.int .i64 2, .int .i64 n, .string s]), (.agg #[.int .i64 1, .int .i64 n', .string s'])] w fun e w' => e = .returned (.int .i64 1) ∧ Below w.heap.size w w' := by
  have hX : Row ((w.alloc (.cells #[.int .i64 2, .int .i64 n, .string s] 81)).alloc (.cells #[.int .i64 1, .int .i64 n', .string s'] 81)) w.heap.size 81 [.int .i64 2, .int .i64 n, .string s] := (new_at rfl : Row (w.alloc (.cells #[.int .i64 2, .int .i64 n, .string s] 81)) w.heap.size 81 [.int .i64 2, .int .i64 n, .string s]).alloc _
  have hY : Row ((w.alloc (.cells #[.int .i64 2, .int .i64 n, .string s] 81)).alloc (.cells #[.int .i64 1, .int .i64 n', .string s'] 81)) (w.heap.size + 1) 81 [.int .i64 1, .int .i64 n', .string s'] := new_at (by simp)
  have hb : Below w.heap.size w ((w.alloc (.cells #[.int .i64 2, .int .i64 n, .string s] 81)).alloc (.cells #[.int .i64 1, .int .i64 n', .string s'] 81)) := ((Below.refl _ _).alloc (Nat.le_refl _) _).alloc (by simp) _
  have X := Lib.hid hX
  have Y := Lib.hid hY
  have B := Lib.hid hb
  clear hX hY hb
  have x0 := X.out.cell (i := 0) rfl
  have x1 := X.out.cell (i := 1) rfl
  have x2 := X.out.cell (i := 2) rfl
  have y0 := Y.out.cell (i := 0) rfl
  have y1 := Y.out.cell (i := 1) rfl
  have y2 := Y.out.cell (i := 2) rfl
  try simp only at x0 x1 x2 y0 y1 y2
  go_enter Try.func40, Try.ntmps40
  go_wp2_with fail
  clear x0 x1 x2 y0 y1 y2
  refine (GV.out _).mono ?_
  rintro e w1 ⟨rfl, h1⟩
  replace X := Lib.hid (X.out.below h1 X.out.lt)
  replace Y := Lib.hid (Y.out.below h1 Y.out.lt)
  replace B := Lib.hid (B.out.trans (h1.mono B.out.size))
  clear h1
  have x0 := X.out.cell (i := 0) rfl
  have x1 := X.out.cell (i := 1) rfl
  have x2 := X.out.cell (i := 2) rfl
  have y0 := Y.out.cell (i := 0) rfl
  have y1 := Y.out.cell (i := 1) rfl
  have y2 := Y.out.cell (i := 2) rfl
  try simp only at x0 x1 x2 y0 y1 y2
  go_wp2_with fail
  clear x0 x1 x2 y0 y1 y2
  refine (GU.out _).mono ?_
  rintro e w1 ⟨rfl, h1⟩
  replace X := Lib.hid (X.out.below h1 X.out.lt)
  replace Y := Lib.hid (Y.out.below h1 Y.out.lt)
  replace B := Lib.hid (B.out.trans (h1.mono B.out.size))
  clear h1
  have x0 := X.out.cell (i := 0) rfl
  have x1 := X.out.cell (i := 1) rfl
  have x2 := X.out.cell (i := 2) rfl
  have y0 := Y.out.cell (i := 0) rfl
  have y1 := Y.out.cell (i := 1) rfl
  have y2 := Y.out.cell (i := 2) rfl
  try simp only at x0 x1 x2 y0 y1 y2
  go_wp2_with fail
  go_ret
  exact ⟨rfl, B.out⟩

set_option maxHeartbeats 1000000 in
theorem rc_lt (n n' : Int) (s s' : ByteArray) (w : World)
    (GV : RowKit.Hid (∀ w, Calls Try.prog 99 #[(.agg #[.int .i64 1, .int .i64 n, .string s])] w fun e w' => e = .returned (.bool true) ∧ Below w.heap.size w w'))
    (GU : RowKit.Hid (∀ w, Calls Try.prog 99 #[(.agg #[.int .i64 1, .int .i64 n', .string s'])] w fun e w' => e = .returned (.bool true) ∧ Below w.heap.size w w')) (hn : n < n') :
    Calls Try.prog 40 #[(.agg #[.int .i64 1, .int .i64 n, .string s]), (.agg #[.int .i64 1, .int .i64 n', .string s'])] w fun e w' => e = .returned (.int .i64 (-1)) ∧ Below w.heap.size w w' := by
  have hX : Row ((w.alloc (.cells #[.int .i64 1, .int .i64 n, .string s] 81)).alloc (.cells #[.int .i64 1, .int .i64 n', .string s'] 81)) w.heap.size 81 [.int .i64 1, .int .i64 n, .string s] := (new_at rfl : Row (w.alloc (.cells #[.int .i64 1, .int .i64 n, .string s] 81)) w.heap.size 81 [.int .i64 1, .int .i64 n, .string s]).alloc _
  have hY : Row ((w.alloc (.cells #[.int .i64 1, .int .i64 n, .string s] 81)).alloc (.cells #[.int .i64 1, .int .i64 n', .string s'] 81)) (w.heap.size + 1) 81 [.int .i64 1, .int .i64 n', .string s'] := new_at (by simp)
  have hb : Below w.heap.size w ((w.alloc (.cells #[.int .i64 1, .int .i64 n, .string s] 81)).alloc (.cells #[.int .i64 1, .int .i64 n', .string s'] 81)) := ((Below.refl _ _).alloc (Nat.le_refl _) _).alloc (by simp) _
  have X := Lib.hid hX
  have Y := Lib.hid hY
  have B := Lib.hid hb
  clear hX hY hb
  have x0 := X.out.cell (i := 0) rfl
  have x1 := X.out.cell (i := 1) rfl
  have x2 := X.out.cell (i := 2) rfl
  have y0 := Y.out.cell (i := 0) rfl
  have y1 := Y.out.cell (i := 1) rfl
  have y2 := Y.out.cell (i := 2) rfl
  try simp only at x0 x1 x2 y0 y1 y2
  go_enter Try.func40, Try.ntmps40
  go_wp2_with fail
  clear x0 x1 x2 y0 y1 y2
  refine (GV.out _).mono ?_
  rintro e w1 ⟨rfl, h1⟩
  replace X := Lib.hid (X.out.below h1 X.out.lt)
  replace Y := Lib.hid (Y.out.below h1 Y.out.lt)
  replace B := Lib.hid (B.out.trans (h1.mono B.out.size))
  clear h1
  have x0 := X.out.cell (i := 0) rfl
  have x1 := X.out.cell (i := 1) rfl
  have x2 := X.out.cell (i := 2) rfl
  have y0 := Y.out.cell (i := 0) rfl
  have y1 := Y.out.cell (i := 1) rfl
  have y2 := Y.out.cell (i := 2) rfl
  try simp only at x0 x1 x2 y0 y1 y2
  go_wp2_with fail
  clear x0 x1 x2 y0 y1 y2
  refine (GU.out _).mono ?_
  rintro e w1 ⟨rfl, h1⟩
  replace X := Lib.hid (X.out.below h1 X.out.lt)
  replace Y := Lib.hid (Y.out.below h1 Y.out.lt)
  replace B := Lib.hid (B.out.trans (h1.mono B.out.size))
  clear h1
  have x0 := X.out.cell (i := 0) rfl
  have x1 := X.out.cell (i := 1) rfl
  have x2 := X.out.cell (i := 2) rfl
  have y0 := Y.out.cell (i := 0) rfl
  have y1 := Y.out.cell (i := 1) rfl
  have y2 := Y.out.cell (i := 2) rfl
  try simp only at x0 x1 x2 y0 y1 y2
  go_wp2_with fail
  go_ret
  exact ⟨rfl, B.out⟩

set_option maxHeartbeats 1000000 in
theorem rc_gt (n n' : Int) (s s' : ByteArray) (w : World)
    (GV : RowKit.Hid (∀ w, Calls Try.prog 99 #[(.agg #[.int .i64 1, .int .i64 n, .string s])] w fun e w' => e = .returned (.bool true) ∧ Below w.heap.size w w'))
    (GU : RowKit.Hid (∀ w, Calls Try.prog 99 #[(.agg #[.int .i64 1, .int .i64 n', .string s'])] w fun e w' => e = .returned (.bool true) ∧ Below w.heap.size w w')) (h0 : ¬ n < n') (hn : n > n') :
    Calls Try.prog 40 #[(.agg #[.int .i64 1, .int .i64 n, .string s]), (.agg #[.int .i64 1, .int .i64 n', .string s'])] w fun e w' => e = .returned (.int .i64 1) ∧ Below w.heap.size w w' := by
  have hX : Row ((w.alloc (.cells #[.int .i64 1, .int .i64 n, .string s] 81)).alloc (.cells #[.int .i64 1, .int .i64 n', .string s'] 81)) w.heap.size 81 [.int .i64 1, .int .i64 n, .string s] := (new_at rfl : Row (w.alloc (.cells #[.int .i64 1, .int .i64 n, .string s] 81)) w.heap.size 81 [.int .i64 1, .int .i64 n, .string s]).alloc _
  have hY : Row ((w.alloc (.cells #[.int .i64 1, .int .i64 n, .string s] 81)).alloc (.cells #[.int .i64 1, .int .i64 n', .string s'] 81)) (w.heap.size + 1) 81 [.int .i64 1, .int .i64 n', .string s'] := new_at (by simp)
  have hb : Below w.heap.size w ((w.alloc (.cells #[.int .i64 1, .int .i64 n, .string s] 81)).alloc (.cells #[.int .i64 1, .int .i64 n', .string s'] 81)) := ((Below.refl _ _).alloc (Nat.le_refl _) _).alloc (by simp) _
  have X := Lib.hid hX
  have Y := Lib.hid hY
  have B := Lib.hid hb
  clear hX hY hb
  have x0 := X.out.cell (i := 0) rfl
  have x1 := X.out.cell (i := 1) rfl
  have x2 := X.out.cell (i := 2) rfl
  have y0 := Y.out.cell (i := 0) rfl
  have y1 := Y.out.cell (i := 1) rfl
  have y2 := Y.out.cell (i := 2) rfl
  try simp only at x0 x1 x2 y0 y1 y2
  go_enter Try.func40, Try.ntmps40
  go_wp2_with fail
  clear x0 x1 x2 y0 y1 y2
  refine (GV.out _).mono ?_
  rintro e w1 ⟨rfl, h1⟩
  replace X := Lib.hid (X.out.below h1 X.out.lt)
  replace Y := Lib.hid (Y.out.below h1 Y.out.lt)
  replace B := Lib.hid (B.out.trans (h1.mono B.out.size))
  clear h1
  have x0 := X.out.cell (i := 0) rfl
  have x1 := X.out.cell (i := 1) rfl
  have x2 := X.out.cell (i := 2) rfl
  have y0 := Y.out.cell (i := 0) rfl
  have y1 := Y.out.cell (i := 1) rfl
  have y2 := Y.out.cell (i := 2) rfl
  try simp only at x0 x1 x2 y0 y1 y2
  go_wp2_with fail
  clear x0 x1 x2 y0 y1 y2
  refine (GU.out _).mono ?_
  rintro e w1 ⟨rfl, h1⟩
  replace X := Lib.hid (X.out.below h1 X.out.lt)
  replace Y := Lib.hid (Y.out.below h1 Y.out.lt)
  replace B := Lib.hid (B.out.trans (h1.mono B.out.size))
  clear h1
  have x0 := X.out.cell (i := 0) rfl
  have x1 := X.out.cell (i := 1) rfl
  have x2 := X.out.cell (i := 2) rfl
  have y0 := Y.out.cell (i := 0) rfl
  have y1 := Y.out.cell (i := 1) rfl
  have y2 := Y.out.cell (i := 2) rfl
  try simp only at x0 x1 x2 y0 y1 y2
  go_wp2_with fail
  go_ret
  exact ⟨rfl, B.out⟩

set_option maxHeartbeats 1000000 in
theorem rc_eq (n n' : Int) (s s' : ByteArray) (w : World)
    (GV : RowKit.Hid (∀ w, Calls Try.prog 99 #[(.agg #[.int .i64 1, .int .i64 n, .string s])] w fun e w' => e = .returned (.bool true) ∧ Below w.heap.size w w'))
    (GU : RowKit.Hid (∀ w, Calls Try.prog 99 #[(.agg #[.int .i64 1, .int .i64 n', .string s'])] w fun e w' => e = .returned (.bool true) ∧ Below w.heap.size w w')) (h0 : ¬ n < n') (hn : ¬ n > n') :
    Calls Try.prog 40 #[(.agg #[.int .i64 1, .int .i64 n, .string s]), (.agg #[.int .i64 1, .int .i64 n', .string s'])] w fun e w' => e = .returned (.int .i64 0) ∧ Below w.heap.size w w' := by
  have hX : Row ((w.alloc (.cells #[.int .i64 1, .int .i64 n, .string s] 81)).alloc (.cells #[.int .i64 1, .int .i64 n', .string s'] 81)) w.heap.size 81 [.int .i64 1, .int .i64 n, .string s] := (new_at rfl : Row (w.alloc (.cells #[.int .i64 1, .int .i64 n, .string s] 81)) w.heap.size 81 [.int .i64 1, .int .i64 n, .string s]).alloc _
  have hY : Row ((w.alloc (.cells #[.int .i64 1, .int .i64 n, .string s] 81)).alloc (.cells #[.int .i64 1, .int .i64 n', .string s'] 81)) (w.heap.size + 1) 81 [.int .i64 1, .int .i64 n', .string s'] := new_at (by simp)
  have hb : Below w.heap.size w ((w.alloc (.cells #[.int .i64 1, .int .i64 n, .string s] 81)).alloc (.cells #[.int .i64 1, .int .i64 n', .string s'] 81)) := ((Below.refl _ _).alloc (Nat.le_refl _) _).alloc (by simp) _
  have X := Lib.hid hX
  have Y := Lib.hid hY
  have B := Lib.hid hb
  clear hX hY hb
  have x0 := X.out.cell (i := 0) rfl
  have x1 := X.out.cell (i := 1) rfl
  have x2 := X.out.cell (i := 2) rfl
  have y0 := Y.out.cell (i := 0) rfl
  have y1 := Y.out.cell (i := 1) rfl
  have y2 := Y.out.cell (i := 2) rfl
  try simp only at x0 x1 x2 y0 y1 y2
  go_enter Try.func40, Try.ntmps40
  go_wp2_with fail
  clear x0 x1 x2 y0 y1 y2
  refine (GV.out _).mono ?_
  rintro e w1 ⟨rfl, h1⟩
  replace X := Lib.hid (X.out.below h1 X.out.lt)
  replace Y := Lib.hid (Y.out.below h1 Y.out.lt)
  replace B := Lib.hid (B.out.trans (h1.mono B.out.size))
  clear h1
  have x0 := X.out.cell (i := 0) rfl
  have x1 := X.out.cell (i := 1) rfl
  have x2 := X.out.cell (i := 2) rfl
  have y0 := Y.out.cell (i := 0) rfl
  have y1 := Y.out.cell (i := 1) rfl
  have y2 := Y.out.cell (i := 2) rfl
  try simp only at x0 x1 x2 y0 y1 y2
  go_wp2_with fail
  clear x0 x1 x2 y0 y1 y2
  refine (GU.out _).mono ?_
  rintro e w1 ⟨rfl, h1⟩
  replace X := Lib.hid (X.out.below h1 X.out.lt)
  replace Y := Lib.hid (Y.out.below h1 Y.out.lt)
  replace B := Lib.hid (B.out.trans (h1.mono B.out.size))
  clear h1
  have x0 := X.out.cell (i := 0) rfl
  have x1 := X.out.cell (i := 1) rfl
  have x2 := X.out.cell (i := 2) rfl
  have y0 := Y.out.cell (i := 0) rfl
  have y1 := Y.out.cell (i := 1) rfl
  have y2 := Y.out.cell (i := 2) rfl
  try simp only at x0 x1 x2 y0 y1 y2
  go_wp2_with fail
  go_ret
  exact ⟨rfl, B.out⟩

set_option maxHeartbeats 1000000 in
theorem rc_22 (g n n' : Int) (s s' : ByteArray) (w : World)
    (GV : RowKit.Hid (∀ w, Calls Try.prog 99 #[(.agg #[.int .i64 2, .int .i64 n, .string s])] w fun e w' => e = .returned (.bool true) ∧ Below w.heap.size w w'))
    (GU : RowKit.Hid (∀ w, Calls Try.prog 99 #[(.agg #[.int .i64 2, .int .i64 n', .string s'])] w fun e w' => e = .returned (.bool true) ∧ Below w.heap.size w w'))
    (TX : RowKit.Hid (∀ w, Calls Try.prog 39 #[.string s, .string s'] w fun e w' => e = .returned (.int .i64 g) ∧ Below w.heap.size w w')) :
    Calls Try.prog 40 #[(.agg #[.int .i64 2, .int .i64 n, .string s]), (.agg #[.int .i64 2, .int .i64 n', .string s'])] w fun e w' => e = .returned (.int .i64 g) ∧ Below w.heap.size w w' := by
  have hX : Row ((w.alloc (.cells #[.int .i64 2, .int .i64 n, .string s] 81)).alloc (.cells #[.int .i64 2, .int .i64 n', .string s'] 81)) w.heap.size 81 [.int .i64 2, .int .i64 n, .string s] := (new_at rfl : Row (w.alloc (.cells #[.int .i64 2, .int .i64 n, .string s] 81)) w.heap.size 81 [.int .i64 2, .int .i64 n, .string s]).alloc _
  have hY : Row ((w.alloc (.cells #[.int .i64 2, .int .i64 n, .string s] 81)).alloc (.cells #[.int .i64 2, .int .i64 n', .string s'] 81)) (w.heap.size + 1) 81 [.int .i64 2, .int .i64 n', .string s'] := new_at (by simp)
  have hb : Below w.heap.size w ((w.alloc (.cells #[.int .i64 2, .int .i64 n, .string s] 81)).alloc (.cells #[.int .i64 2, .int .i64 n', .string s'] 81)) := ((Below.refl _ _).alloc (Nat.le_refl _) _).alloc (by simp) _
  have X := Lib.hid hX
  have Y := Lib.hid hY
  have B := Lib.hid hb
  clear hX hY hb
  have x0 := X.out.cell (i := 0) rfl
  have x1 := X.out.cell (i := 1) rfl
  have x2 := X.out.cell (i := 2) rfl
  have y0 := Y.out.cell (i := 0) rfl
  have y1 := Y.out.cell (i := 1) rfl
  have y2 := Y.out.cell (i := 2) rfl
  try simp only at x0 x1 x2 y0 y1 y2
  go_enter Try.func40, Try.ntmps40
  go_wp2_with fail
  clear x0 x1 x2 y0 y1 y2
  refine (GV.out _).mono ?_
  rintro e w1 ⟨rfl, h1⟩
  replace X := Lib.hid (X.out.below h1 X.out.lt)
  replace Y := Lib.hid (Y.out.below h1 Y.out.lt)
  replace B := Lib.hid (B.out.trans (h1.mono B.out.size))
  clear h1
  have x0 := X.out.cell (i := 0) rfl
  have x1 := X.out.cell (i := 1) rfl
  have x2 := X.out.cell (i := 2) rfl
  have y0 := Y.out.cell (i := 0) rfl
  have y1 := Y.out.cell (i := 1) rfl
  have y2 := Y.out.cell (i := 2) rfl
  try simp only at x0 x1 x2 y0 y1 y2
  go_wp2_with fail
  clear x0 x1 x2 y0 y1 y2
  refine (GU.out _).mono ?_
  rintro e w1 ⟨rfl, h1⟩
  replace X := Lib.hid (X.out.below h1 X.out.lt)
  replace Y := Lib.hid (Y.out.below h1 Y.out.lt)
  replace B := Lib.hid (B.out.trans (h1.mono B.out.size))
  clear h1
  have x0 := X.out.cell (i := 0) rfl
  have x1 := X.out.cell (i := 1) rfl
  have x2 := X.out.cell (i := 2) rfl
  have y0 := Y.out.cell (i := 0) rfl
  have y1 := Y.out.cell (i := 1) rfl
  have y2 := Y.out.cell (i := 2) rfl
  try simp only at x0 x1 x2 y0 y1 y2
  go_wp2_with fail
  clear x0 x1 x2 y0 y1 y2
  refine (TX.out _).mono ?_
  rintro e w1 ⟨rfl, h1⟩
  replace X := Lib.hid (X.out.below h1 X.out.lt)
  replace Y := Lib.hid (Y.out.below h1 Y.out.lt)
  replace B := Lib.hid (B.out.trans (h1.mono B.out.size))
  clear h1
  have x0 := X.out.cell (i := 0) rfl
  have x1 := X.out.cell (i := 1) rfl
  have x2 := X.out.cell (i := 2) rfl
  have y0 := Y.out.cell (i := 0) rfl
  have y1 := Y.out.cell (i := 1) rfl
  have y2 := Y.out.cell (i := 2) rfl
  try simp only at x0 x1 x2 y0 y1 y2
  go_wp2_with fail
  go_ret
  exact ⟨rfl, B.out⟩

theorem refcompare_calls (v u : V) (w : World) : Calls Try.prog 40 #[v.val, u.val] w fun e w' => e = .returned (.int .i64 (cmpV v u)) ∧ Below w.heap.size w w' := by
  have gv := refgood_calls v
  have gu := refgood_calls u
  by_cases hgv : v.good = true
  · by_cases hgu : u.good = true
    · have e : cmpV v u = cmpG v u := by unfold cmpV; rw [if_pos ⟨hgv, hgu⟩]
      rw [e]
      have hv := (V.good_iff v).1 hgv
      have hu := (V.good_iff u).1 hgu
      rw [hgv] at gv
      rw [hgu] at gu
      clear e hgv hgu
      obtain ⟨k, n, s⟩ := v
      obtain ⟨k', n', s'⟩ := u
      simp only at hv hu
      rcases hv with ⟨rfl, h2⟩ | ⟨rfl, rfl, h3⟩ <;> rcases hu with ⟨rfl, g2⟩ | ⟨rfl, rfl, g3⟩
      · obtain rfl := size_zero h2
        obtain rfl := size_zero g2
        by_cases h0 : n < n'
        · have e : cmpG ⟨1, n, ⟨#[]⟩⟩ ⟨1, n', ⟨#[]⟩⟩ = -1 := by simp [cmpG, orL, Lib.compareInt, h0]
          rw [e]
          exact rc_lt n n' _ _ w gv gu h0
        · by_cases h1 : n > n'
          · have e : cmpG ⟨1, n, ⟨#[]⟩⟩ ⟨1, n', ⟨#[]⟩⟩ = 1 := by simp [cmpG, orL, Lib.compareInt, h0, h1]
            rw [e]
            exact rc_gt n n' _ _ w gv gu h0 h1
          · have e : cmpG ⟨1, n, ⟨#[]⟩⟩ ⟨1, n', ⟨#[]⟩⟩ = 0 := by simp [cmpG, orL, Lib.compareInt, h0, h1, cmpB]
            rw [e]
            exact rc_eq n n' _ _ w gv gu h0 h1
      · exact rc_12 n 0 _ _ w gv gu
      · exact rc_21 0 n' _ _ w gv gu
      · have e : cmpG ⟨2, 0, s⟩ ⟨2, 0, s'⟩ = cmpB s.data.toList s'.data.toList := orL_last _
        rw [e]
        exact rc_22 _ 0 0 s s' w gv gu (fun w => texts_calls s s' w (by omega) (by omega))
    · have e : cmpV v u = 0 := by unfold cmpV; rw [if_neg (fun h => hgu h.2)]
      rw [e]
      rw [hgv] at gv
      rw [(Bool.not_eq_true _).mp hgu] at gu
      exact rc_bad2 _ _ _ _ _ _ w gv gu
  · have e : cmpV v u = 0 := by unfold cmpV; rw [if_neg (fun h => hgv h.1)]
    rw [e]
    rw [(Bool.not_eq_true _).mp hgv] at gv
    exact rc_bad1 _ _ _ _ _ _ w gv
end Go.Proofs.Ytcfjooeagfollaa.Sign
