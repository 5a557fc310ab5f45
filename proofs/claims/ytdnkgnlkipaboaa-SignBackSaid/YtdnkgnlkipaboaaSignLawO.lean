/- The law SignOrder; what the document fixes by number. -/
import Derived.Test.YtdnkgnlkipaboaaSignMath
import Derived.Test.YtdnkgnlkipaboaaCod
namespace Go.Proofs.Ytdnkgnlkipaboaa.Sign
open Go.RowKit Go.Proofs.Ytdnkgnlkipaboaa.Mem Go.Proofs.Ytdnkgnlkipaboaa.Bytes Go.Proofs.Ytdnkgnlkipaboaa.Num
set_option linter.unusedSimpArgs false
set_option linter.unusedVariables false

theorem awake1 (w : World) : Calls Try.prog 14 #[.agg #[.int .i64 1, .int .i64 0, .string ⟨#[]⟩]] w fun e w' => e = .returned (.tuple #[.string ⟨#[1, 128, 0, 0, 0, 0, 0, 0, 0]⟩, .int .i64 0]) ∧ Below w.heap.size w w' := by
  have h := code_calls (⟨1, 0, ⟨#[]⟩⟩ : V) w ⟨by decide, by decide⟩
  rw [show codeOut (⟨1, 0, ⟨#[]⟩⟩ : V) = ([1, 128, 0, 0, 0, 0, 0, 0, 0], 0) from by kernel_rfl] at h
  exact h
theorem awake2 (w : World) : Calls Try.prog 14 #[.agg #[.int .i64 2, .int .i64 0, .string ⟨#[97]⟩]] w fun e w' => e = .returned (.tuple #[.string ⟨#[2, 97, 0, 0, 0, 0, 0, 0, 1]⟩, .int .i64 0]) ∧ Below w.heap.size w w' := by
  have h := code_calls (⟨2, 0, ⟨#[97]⟩⟩ : V) w ⟨by decide, by decide⟩
  rw [show codeOut (⟨2, 0, ⟨#[97]⟩⟩ : V) = ([2, 97, 0, 0, 0, 0, 0, 0, 1], 0) from by kernel_rfl] at h
  exact h
theorem awake3 (w : World) : Calls Try.prog 15 #[.string ⟨#[2, 97, 0, 0, 0, 0, 0, 0, 1]⟩] w fun e w' => e = .returned (.tuple #[.agg #[.int .i64 2, .int .i64 0, .string ⟨#[97]⟩], .int .i64 0]) ∧ Below w.heap.size w w' := by
  have h := read_calls ⟨#[2, 97, 0, 0, 0, 0, 0, 0, 1]⟩ w (by decide)
  have hr : readV (⟨#[2, 97, 0, 0, 0, 0, 0, 0, 1]⟩ : ByteArray).data.toList = some ⟨2, 0, ⟨#[97]⟩⟩ := (readV_iff _ _).2 ⟨rfl, ⟨by decide, by decide⟩, by kernel_rfl⟩
  rw [readOut_some hr] at h
  exact h
set_option maxHeartbeats 1000000 in
theorem awake_calls (w : World) : Calls Try.prog 7 #[] w fun e w' => e = .returned (.bool true) ∧ Below w.heap.size w w' := by
  go_enter Try.func7, Try.ntmps7
  go_wp2_with fail
  refine (awake1 _).mono ?_
  rintro e w1 ⟨rfl, hb1⟩
  go_wp2_with fail
  refine (awake2 _).mono ?_
  rintro e w2 ⟨rfl, hb2⟩
  go_wp2_with fail
  refine (awake3 _).mono ?_
  rintro e w3 ⟨rfl, hb3⟩
  have hb := (hb1.trans (hb2.mono hb1.size)).trans (hb3.mono (Nat.le_trans hb1.size hb2.size))
  clear hb1 hb2 hb3
  go_wp2_with fail
  go_ret
  exact ⟨rfl, hb.alloc hb.size _⟩

set_option maxHeartbeats 4000000 in
theorem order_walk (k n k' n' : Int) (s s' a b : ByteArray) (g : Int) (w : World)
    (GV : RowKit.Hid (∀ w, Calls Try.prog 13 #[(.agg #[.int .i64 k, .int .i64 n, .string s])] w fun e w' => e = .returned (.bool true) ∧ Below w.heap.size w w'))
    (GU : RowKit.Hid (∀ w, Calls Try.prog 13 #[(.agg #[.int .i64 k', .int .i64 n', .string s'])] w fun e w' => e = .returned (.bool true) ∧ Below w.heap.size w w'))
    (CV : RowKit.Hid (∀ w, Calls Try.prog 14 #[(.agg #[.int .i64 k, .int .i64 n, .string s])] w fun e w' => e = .returned (.tuple #[.string a, .int .i64 0]) ∧ Below w.heap.size w w'))
    (CU : RowKit.Hid (∀ w, Calls Try.prog 14 #[(.agg #[.int .i64 k', .int .i64 n', .string s'])] w fun e w' => e = .returned (.tuple #[.string b, .int .i64 0]) ∧ Below w.heap.size w w'))
    (TX : RowKit.Hid (∀ w, Calls Try.prog 21 #[.string a, .string b] w fun e w' => e = .returned (.int .i64 g) ∧ Below w.heap.size w w'))
    (C1 : RowKit.Hid (∀ w, Calls Try.prog 19 #[(.agg #[.int .i64 k, .int .i64 n, .string s]), (.agg #[.int .i64 k', .int .i64 n', .string s'])] w fun e w' => e = .returned (.int .i64 g) ∧ Below w.heap.size w w'))
    (C2 : RowKit.Hid (∀ w, Calls Try.prog 19 #[(.agg #[.int .i64 k', .int .i64 n', .string s']), (.agg #[.int .i64 k, .int .i64 n, .string s])] w fun e w' => e = .returned (.int .i64 (-g)) ∧ Below w.heap.size w w'))
    (sa : a.size = 9) (sb : b.size = 9) (hg : (g = 0 ∧ k = k' ∧ n = n' ∧ s = s') ∨ ((g = 1 ∨ g = -1) ∧ ((k == k') = false ∨ (k = k' ∧ (n == n') = false) ∨ (k = k' ∧ n = n' ∧ ¬ s.toList = s'.toList)))) :
    Calls Try.prog 6 #[(.agg #[.int .i64 k, .int .i64 n, .string s]), (.agg #[.int .i64 k', .int .i64 n', .string s'])] w fun e w' => e = .returned (.bool true) ∧ Below w.heap.size w w' := by
  have hX : Row ((w.alloc (.cells #[.int .i64 k, .int .i64 n, .string s] 25)).alloc (.cells #[.int .i64 k', .int .i64 n', .string s'] 25)) w.heap.size 25 [.int .i64 k, .int .i64 n, .string s] := (new_at rfl : Row (w.alloc (.cells #[.int .i64 k, .int .i64 n, .string s] 25)) w.heap.size 25 [.int .i64 k, .int .i64 n, .string s]).alloc _
  have hY : Row ((w.alloc (.cells #[.int .i64 k, .int .i64 n, .string s] 25)).alloc (.cells #[.int .i64 k', .int .i64 n', .string s'] 25)) (w.heap.size + 1) 25 [.int .i64 k', .int .i64 n', .string s'] := new_at (by simp)
  have hb : Below w.heap.size w ((w.alloc (.cells #[.int .i64 k, .int .i64 n, .string s] 25)).alloc (.cells #[.int .i64 k', .int .i64 n', .string s'] 25)) := ((Below.refl _ _).alloc (Nat.le_refl _) _).alloc (by simp) _
  have AW := Lib.hid awake_calls
  have X := Lib.hid hX
  have Y := Lib.hid hY
  have B := Lib.hid hb
  clear hX hY hb
  rcases hg with ⟨rfl, rfl, rfl, rfl⟩ | ⟨(rfl | rfl), (q | ⟨rfl, q⟩ | ⟨rfl, rfl, q⟩)⟩
  all_goals
    go_enter Try.func6, Try.ntmps6
    go_wp2_with fail
    refine (AW.out _).mono ?_
    rintro e w1 ⟨rfl, h1⟩
    replace X := Lib.hid (X.out.below h1 X.out.lt)
    replace Y := Lib.hid (Y.out.below h1 Y.out.lt)
    replace B := Lib.hid (B.out.trans (h1.mono B.out.size))
    clear h1
    have x0 := X.out.cell (i := 0) rfl
    have x1 := X.out.cell (i := 1) rfl
    have x2 := X.out.cell (i := 2) rfl
    have y0 := Y.out.cell (i := 0) rfl
    have y1 := Y.out.cell (i := 1) rfl
    have y2 := Y.out.cell (i := 2) rfl
    try simp only at x0 x1 x2 y0 y1 y2
    go_wp2_with fail
    clear x0 x1 x2 y0 y1 y2
    refine (GV.out _).mono ?_
    rintro e w1 ⟨rfl, h1⟩
    replace X := Lib.hid (X.out.below h1 X.out.lt)
    replace Y := Lib.hid (Y.out.below h1 Y.out.lt)
    replace B := Lib.hid (B.out.trans (h1.mono B.out.size))
    clear h1
    have x0 := X.out.cell (i := 0) rfl
    have x1 := X.out.cell (i := 1) rfl
    have x2 := X.out.cell (i := 2) rfl
    have y0 := Y.out.cell (i := 0) rfl
    have y1 := Y.out.cell (i := 1) rfl
    have y2 := Y.out.cell (i := 2) rfl
    try simp only at x0 x1 x2 y0 y1 y2
    go_wp2_with fail
    clear x0 x1 x2 y0 y1 y2
    refine (GU.out _).mono ?_
    rintro e w1 ⟨rfl, h1⟩
    replace X := Lib.hid (X.out.below h1 X.out.lt)
    replace Y := Lib.hid (Y.out.below h1 Y.out.lt)
    replace B := Lib.hid (B.out.trans (h1.mono B.out.size))
    clear h1
    have x0 := X.out.cell (i := 0) rfl
    have x1 := X.out.cell (i := 1) rfl
    have x2 := X.out.cell (i := 2) rfl
    have y0 := Y.out.cell (i := 0) rfl
    have y1 := Y.out.cell (i := 1) rfl
    have y2 := Y.out.cell (i := 2) rfl
    try simp only at x0 x1 x2 y0 y1 y2
    go_wp2_with fail
    clear x0 x1 x2 y0 y1 y2
    refine (CV.out _).mono ?_
    rintro e w1 ⟨rfl, h1⟩
    replace X := Lib.hid (X.out.below h1 X.out.lt)
    replace Y := Lib.hid (Y.out.below h1 Y.out.lt)
    replace B := Lib.hid (B.out.trans (h1.mono B.out.size))
    clear h1
    have x0 := X.out.cell (i := 0) rfl
    have x1 := X.out.cell (i := 1) rfl
    have x2 := X.out.cell (i := 2) rfl
    have y0 := Y.out.cell (i := 0) rfl
    have y1 := Y.out.cell (i := 1) rfl
    have y2 := Y.out.cell (i := 2) rfl
    try simp only at x0 x1 x2 y0 y1 y2
    go_wp2_with fail
    clear x0 x1 x2 y0 y1 y2
    refine (CU.out _).mono ?_
    rintro e w1 ⟨rfl, h1⟩
    replace X := Lib.hid (X.out.below h1 X.out.lt)
    replace Y := Lib.hid (Y.out.below h1 Y.out.lt)
    replace B := Lib.hid (B.out.trans (h1.mono B.out.size))
    clear h1
    have x0 := X.out.cell (i := 0) rfl
    have x1 := X.out.cell (i := 1) rfl
    have x2 := X.out.cell (i := 2) rfl
    have y0 := Y.out.cell (i := 0) rfl
    have y1 := Y.out.cell (i := 1) rfl
    have y2 := Y.out.cell (i := 2) rfl
    try simp only at x0 x1 x2 y0 y1 y2
    go_wp2_with fail
    clear x0 x1 x2 y0 y1 y2
    refine (TX.out _).mono ?_
    rintro e w1 ⟨rfl, h1⟩
    replace X := Lib.hid (X.out.below h1 X.out.lt)
    replace Y := Lib.hid (Y.out.below h1 Y.out.lt)
    replace B := Lib.hid (B.out.trans (h1.mono B.out.size))
    clear h1
    have x0 := X.out.cell (i := 0) rfl
    have x1 := X.out.cell (i := 1) rfl
    have x2 := X.out.cell (i := 2) rfl
    have y0 := Y.out.cell (i := 0) rfl
    have y1 := Y.out.cell (i := 1) rfl
    have y2 := Y.out.cell (i := 2) rfl
    try simp only at x0 x1 x2 y0 y1 y2
    go_wp2_with fail
    clear x0 x1 x2 y0 y1 y2
    refine (C1.out _).mono ?_
    rintro e w1 ⟨rfl, h1⟩
    replace X := Lib.hid (X.out.below h1 X.out.lt)
    replace Y := Lib.hid (Y.out.below h1 Y.out.lt)
    replace B := Lib.hid (B.out.trans (h1.mono B.out.size))
    clear h1
    have x0 := X.out.cell (i := 0) rfl
    have x1 := X.out.cell (i := 1) rfl
    have x2 := X.out.cell (i := 2) rfl
    have y0 := Y.out.cell (i := 0) rfl
    have y1 := Y.out.cell (i := 1) rfl
    have y2 := Y.out.cell (i := 2) rfl
    try simp only at x0 x1 x2 y0 y1 y2
    go_wp2_with fail
    clear x0 x1 x2 y0 y1 y2
    refine (C2.out _).mono ?_
    rintro e w1 ⟨rfl, h1⟩
    replace X := Lib.hid (X.out.below h1 X.out.lt)
    replace Y := Lib.hid (Y.out.below h1 Y.out.lt)
    replace B := Lib.hid (B.out.trans (h1.mono B.out.size))
    clear h1
    have x0 := X.out.cell (i := 0) rfl
    have x1 := X.out.cell (i := 1) rfl
    have x2 := X.out.cell (i := 2) rfl
    have y0 := Y.out.cell (i := 0) rfl
    have y1 := Y.out.cell (i := 1) rfl
    have y2 := Y.out.cell (i := 2) rfl
    try simp only at x0 x1 x2 y0 y1 y2
    go_wp2_with fail
    go_ret
    exact ⟨rfl, B.out⟩


set_option maxHeartbeats 1000000 in
theorem order_bad1 (k n k' n' : Int) (s s' : ByteArray) (w : World)
    (GV : RowKit.Hid (∀ w, Calls Try.prog 13 #[(.agg #[.int .i64 k, .int .i64 n, .string s])] w fun e w' => e = .returned (.bool false) ∧ Below w.heap.size w w')) :
    Calls Try.prog 6 #[(.agg #[.int .i64 k, .int .i64 n, .string s]), (.agg #[.int .i64 k', .int .i64 n', .string s'])] w fun e w' => e = .returned (.bool true) ∧ Below w.heap.size w w' := by
  have hX : Row ((w.alloc (.cells #[.int .i64 k, .int .i64 n, .string s] 25)).alloc (.cells #[.int .i64 k', .int .i64 n', .string s'] 25)) w.heap.size 25 [.int .i64 k, .int .i64 n, .string s] := (new_at rfl : Row (w.alloc (.cells #[.int .i64 k, .int .i64 n, .string s] 25)) w.heap.size 25 [.int .i64 k, .int .i64 n, .string s]).alloc _
  have hY : Row ((w.alloc (.cells #[.int .i64 k, .int .i64 n, .string s] 25)).alloc (.cells #[.int .i64 k', .int .i64 n', .string s'] 25)) (w.heap.size + 1) 25 [.int .i64 k', .int .i64 n', .string s'] := new_at (by simp)
  have hb : Below w.heap.size w ((w.alloc (.cells #[.int .i64 k, .int .i64 n, .string s] 25)).alloc (.cells #[.int .i64 k', .int .i64 n', .string s'] 25)) := ((Below.refl _ _).alloc (Nat.le_refl _) _).alloc (by simp) _
  have AW := Lib.hid awake_calls
  have X := Lib.hid hX
  have Y := Lib.hid hY
  have B := Lib.hid hb
  clear hX hY hb
  go_enter Try.func6, Try.ntmps6
  go_wp2_with fail
  refine (AW.out _).mono ?_
  rintro e w1 ⟨rfl, h1⟩
  replace X := Lib.hid (X.out.below h1 X.out.lt)
  replace Y := Lib.hid (Y.out.below h1 Y.out.lt)
  replace B := Lib.hid (B.out.trans (h1.mono B.out.size))
  clear h1
  have x0 := X.out.cell (i := 0) rfl
  have x1 := X.out.cell (i := 1) rfl
  have x2 := X.out.cell (i := 2) rfl
  have y0 := Y.out.cell (i := 0) rfl
  have y1 := Y.out.cell (i := 1) rfl
  have y2 := Y.out.cell (i := 2) rfl
  try simp only at x0 x1 x2 y0 y1 y2
  go_wp2_with fail
  clear x0 x1 x2 y0 y1 y2
  refine (GV.out _).mono ?_
  rintro e w1 ⟨rfl, h1⟩
  replace X := Lib.hid (X.out.below h1 X.out.lt)
  replace Y := Lib.hid (Y.out.below h1 Y.out.lt)
  replace B := Lib.hid (B.out.trans (h1.mono B.out.size))
  clear h1
  have x0 := X.out.cell (i := 0) rfl
  have x1 := X.out.cell (i := 1) rfl
  have x2 := X.out.cell (i := 2) rfl
  have y0 := Y.out.cell (i := 0) rfl
  have y1 := Y.out.cell (i := 1) rfl
  have y2 := Y.out.cell (i := 2) rfl
  try simp only at x0 x1 x2 y0 y1 y2
  go_wp2_with fail
  go_ret
  exact ⟨rfl, B.out⟩

set_option maxHeartbeats 1000000 in
theorem order_bad2 (k n k' n' : Int) (s s' : ByteArray) (w : World)
    (GV : RowKit.Hid (∀ w, Calls Try.prog 13 #[(.agg #[.int .i64 k, .int .i64 n, .string s])] w fun e w' => e = .returned (.bool true) ∧ Below w.heap.size w w'))
    (GU : RowKit.Hid (∀ w, Calls Try.prog 13 #[(.agg #[.int .i64 k', .int .i64 n', .string s'])] w fun e w' => e = .returned (.bool false) ∧ Below w.heap.size w w')) :
    Calls Try.prog 6 #[(.agg #[.int .i64 k, .int .i64 n, .string s]), (.agg #[.int .i64 k', .int .i64 n', .string s'])] w fun e w' => e = .returned (.bool true) ∧ Below w.heap.size w w' := by
  have hX : Row ((w.alloc (.cells #[.int .i64 k, .int .i64 n, .string s] 25)).alloc (.cells #[.int .i64 k', .int .i64 n', .string s'] 25)) w.heap.size 25 [.int .i64 k, .int .i64 n, .string s] := (new_at rfl : Row (w.alloc (.cells #[.int .i64 k, .int .i64 n, .string s] 25)) w.heap.size 25 [.int .i64 k, .int .i64 n, .string s]).alloc _
  have hY : Row ((w.alloc (.cells #[.int .i64 k, .int .i64 n, .string s] 25)).alloc (.cells #[.int .i64 k', .int .i64 n', .string s'] 25)) (w.heap.size + 1) 25 [.int .i64 k', .int .i64 n', .string s'] := new_at (by simp)
  have hb : Below w.heap.size w ((w.alloc (.cells #[.int .i64 k, .int .i64 n, .string s] 25)).alloc (.cells #[.int .i64 k', .int .i64 n', .string s'] 25)) := ((Below.refl _ _).alloc (Nat.le_refl _) _).alloc (by simp) _
  have AW := Lib.hid awake_calls
  have X := Lib.hid hX
  have Y := Lib.hid hY
  have B := Lib.hid hb
  clear hX hY hb
  go_enter Try.func6, Try.ntmps6
  go_wp2_with fail
  refine (AW.out _).mono ?_
  rintro e w1 ⟨rfl, h1⟩
  replace X := Lib.hid (X.out.below h1 X.out.lt)
  replace Y := Lib.hid (Y.out.below h1 Y.out.lt)
  replace B := Lib.hid (B.out.trans (h1.mono B.out.size))
  clear h1
  have x0 := X.out.cell (i := 0) rfl
  have x1 := X.out.cell (i := 1) rfl
  have x2 := X.out.cell (i := 2) rfl
  have y0 := Y.out.cell (i := 0) rfl
  have y1 := Y.out.cell (i := 1) rfl
  have y2 := Y.out.cell (i := 2) rfl
  try simp only at x0 x1 x2 y0 y1 y2
  go_wp2_with fail
  clear x0 x1 x2 y0 y1 y2
  refine (GV.out _).mono ?_
  rintro e w1 ⟨rfl, h1⟩
  replace X := Lib.hid (X.out.below h1 X.out.lt)
  replace Y := Lib.hid (Y.out.below h1 Y.out.lt)
  replace B := Lib.hid (B.out.trans (h1.mono B.out.size))
  clear h1
  have x0 := X.out.cell (i := 0) rfl
  have x1 := X.out.cell (i := 1) rfl
  have x2 := X.out.cell (i := 2) rfl
  have y0 := Y.out.cell (i := 0) rfl
  have y1 := Y.out.cell (i := 1) rfl
  have y2 := Y.out.cell (i := 2) rfl
  try simp only at x0 x1 x2 y0 y1 y2
  go_wp2_with fail
  clear x0 x1 x2 y0 y1 y2
  refine (GU.out _).mono ?_
  rintro e w1 ⟨rfl, h1⟩
  replace X := Lib.hid (X.out.below h1 X.out.lt)
  replace Y := Lib.hid (Y.out.below h1 Y.out.lt)
  replace B := Lib.hid (B.out.trans (h1.mono B.out.size))
  clear h1
  have x0 := X.out.cell (i := 0) rfl
  have x1 := X.out.cell (i := 1) rfl
  have x2 := X.out.cell (i := 2) rfl
  have y0 := Y.out.cell (i := 0) rfl
  have y1 := Y.out.cell (i := 1) rfl
  have y2 := Y.out.cell (i := 2) rfl
  try simp only at x0 x1 x2 y0 y1 y2
  go_wp2_with fail
  go_ret
  exact ⟨rfl, B.out⟩


theorem order_calls (v u : V) (w : World) (fv : v.fits) (fu : u.fits) : Calls Try.prog 6 #[v.val, u.val] w fun e w' => e = .returned (.bool true) ∧ Below w.heap.size w w' := by
  have gv := good_calls v
  have gu := good_calls u
  by_cases hgv : v.good = true
  · by_cases hgu : u.good = true
    · have cv := fun w => code_calls v w fv
      have cu := fun w => code_calls u w fu
      have ov : codeOut v = (v.code, 0) := by unfold codeOut; rw [if_pos hgv]
      have ou : codeOut u = (u.code, 0) := by unfold codeOut; rw [if_pos hgu]
      have c1 := compare_calls v u
      have c2 := compare_calls u v
      have lv := V.code_length hgv
      have lu := V.code_length hgu
      have tx := fun w => texts_calls (bs v.code) (bs u.code) w (by rw [bs_size, lv]; omega) (by rw [bs_size, lu]; omega)
      have e1 : cmpV v u = cmpB v.code u.code := by unfold cmpV; rw [if_pos ⟨hgv, hgu⟩, code_order hgv hgu fv fu]
      have e2 : cmpV u v = - cmpB v.code u.code := by unfold cmpV; rw [if_pos ⟨hgu, hgv⟩, cmpG_swap hgv hgu fv fu, code_order hgv hgu fv fu]
      have hinj := fun h => code_inj hgv hgu fv fu (cmpB_zero h)
      have h3 := cmpB_three v.code u.code
      have hself : v = u → cmpB v.code u.code = 0 := fun h => by rw [h, cmpB_self]
      rw [hgv] at gv
      rw [hgu] at gu
      rw [ov] at cv
      rw [ou] at cu
      rw [e1] at c1
      rw [e2] at c2
      simp only [bs_data] at tx
      obtain ⟨k, n, s⟩ := v
      obtain ⟨k', n', s'⟩ := u
      refine order_walk k n k' n' s s' _ _ (cmpB (V.code ⟨k, n, s⟩) (V.code ⟨k', n', s'⟩)) w gv gu cv cu tx c1 c2 (by rw [bs_size, lv]) (by rw [bs_size, lu]) ?_
      rcases h3 with h | h | h
      · refine .inr ⟨.inr h, ?_⟩
        by_cases hk : k = k'
        · by_cases hn : n = n'
          · refine .inr (.inr ⟨hk, hn, fun hs => ?_⟩)
            have := hself (by rw [hk, hn, Bytes.toList_inj.1 hs])
            omega
          · exact .inr (.inl ⟨hk, by simpa using hn⟩)
        · exact .inl (by simpa using hk)
      · have := hinj h
        simp only [V.mk.injEq] at this
        exact .inl ⟨h, this⟩
      · refine .inr ⟨.inl h, ?_⟩
        by_cases hk : k = k'
        · by_cases hn : n = n'
          · refine .inr (.inr ⟨hk, hn, fun hs => ?_⟩)
            have := hself (by rw [hk, hn, Bytes.toList_inj.1 hs])
            omega
          · exact .inr (.inl ⟨hk, by simpa using hn⟩)
        · exact .inl (by simpa using hk)
    · rw [hgv] at gv
      rw [(Bool.not_eq_true _).mp hgu] at gu
      exact order_bad2 _ _ _ _ _ _ w gv gu
  · rw [(Bool.not_eq_true _).mp hgv] at gv
    exact order_bad1 _ _ _ _ _ _ w gv

/-- A value that came in. -/
theorem val_of {w : World} {cs : List Value} {y : _} (h : (Cod.pair (Cod.int .i64) (Cod.pair (Cod.int .i64) (Cod.pair Cod.str Cod.unit))).R w cs y) : ∃ v : V, cs = v.cells ∧ v.fits ∧ v.s.size ≤ maxLen := by
  obtain ⟨c1, c2, rfl, ⟨rfl, _⟩, c3, c4, rfl, ⟨rfl, hn⟩, c5, c6, rfl, ⟨rfl, hs⟩, h6⟩ := h
  obtain rfl : c6 = [] := h6
  refine ⟨⟨y.1, y.2.1, y.2.2.1⟩, rfl, ?_, hs⟩
  simp [Lit.wf, IntKind.min, IntKind.max, IntKind.signed, IntKind.bits] at hn
  unfold V.fits
  simp only
  omega
theorem order_row (cs : List Value) (y : Int × Int × ByteArray × Unit) (ds : List Value) (z : Int × Int × ByteArray × Unit) (W : World) (h : (Cod.pair (Cod.int .i64) (Cod.pair (Cod.int .i64) (Cod.pair Cod.str Cod.unit))).R W cs y) (h2 : (Cod.pair (Cod.int .i64) (Cod.pair (Cod.int .i64) (Cod.pair Cod.str Cod.unit))).R W ds z) :
    Calls Try.prog 6 #[.agg cs.toArray, .agg ds.toArray] W fun e w' => e = .returned (.bool true) ∧ Below W.heap.size W w' := by
  obtain ⟨v, rfl, fv, _⟩ := val_of h
  obtain ⟨u, rfl, fu, _⟩ := val_of h2
  exact order_calls v u W fv fu
end Go.Proofs.Ytdnkgnlkipaboaa.Sign
