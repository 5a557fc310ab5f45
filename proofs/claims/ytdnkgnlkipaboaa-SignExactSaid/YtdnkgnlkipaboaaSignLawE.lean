/- The law SignExact. Printed by sign_exact.py -/
import Derived.Test.YtdnkgnlkipaboaaSignLawO
import Derived.Test.YtdnkgnlkipaboaaSignRefR
import Derived.Deep.RegionHeld3
namespace Go.Proofs.Ytdnkgnlkipaboaa.Sign
open Go.RowKit Go.Proofs.Ytdnkgnlkipaboaa.Mem Go.Proofs.Ytdnkgnlkipaboaa.Bytes Go.Proofs.Ytdnkgnlkipaboaa.Num
set_option linter.unusedSimpArgs false
set_option linter.unusedVariables false
theorem below_step {B : Nat} {w0 w w' : World} (h : Below B w0 w) (k : Below w.heap.size w w') (hB : B ≤ w0.heap.size) : Below B w0 w' := h.trans (k.mono (Nat.le_trans hB h.size))
theorem below_step' {B : Nat} {w0 w w' : World} (h : Below B w0 w) (k : Below w.drew.heap.size w.drew w') (hB : B ≤ w0.heap.size) : Below B w0 w' := h.trans (below_of_drew (k.mono (Nat.le_trans hB h.size)))

set_option maxHeartbeats 4000000 in
theorem exact_gi (k n k' n' k2 n2 : Int) (s s' s2 t c : ByteArray) (q : Int) (w : World)
    (RG : RowKit.Hid (∀ w, Calls Try.prog 16 #[(.agg #[.int .i64 k, .int .i64 n, .string s])] w fun e w' => e = .returned (.bool true) ∧ Below w.heap.size w w'))
    (CV : RowKit.Hid (∀ w, Calls Try.prog 14 #[(.agg #[.int .i64 k, .int .i64 n, .string s])] w fun e w' => e = .returned (.tuple #[.string c, .int .i64 0]) ∧ Below w.heap.size w w'))
    (GV : RowKit.Hid (∀ w, Calls Try.prog 13 #[(.agg #[.int .i64 k, .int .i64 n, .string s])] w fun e w' => e = .returned (.bool true) ∧ Below w.heap.size w w'))
    (RS : RowKit.Hid (∀ w, Calls Try.prog 15 #[.string t] w fun e w' => e = .returned (.tuple #[(.agg #[.int .i64 k2, .int .i64 n2, .string s2]), .int .i64 0]) ∧ Below w.heap.size w w'))
    (RR : RowKit.Hid (∀ w, Calls Try.prog 18 #[.string t] w fun e w' => e = .returned (.tuple #[(.agg #[.int .i64 k2, .int .i64 n2, .string s2]), .bool true]) ∧ Below w.heap.size w w'))
    (C1 : RowKit.Hid (∀ w, Calls Try.prog 19 #[(.agg #[.int .i64 k, .int .i64 n, .string s]), (.agg #[.int .i64 k', .int .i64 n', .string s'])] w fun e w' => e = .returned (.int .i64 q) ∧ Below w.heap.size w w'))
    (C2 : RowKit.Hid (∀ w, Calls Try.prog 20 #[(.agg #[.int .i64 k, .int .i64 n, .string s]), (.agg #[.int .i64 k', .int .i64 n', .string s'])] w fun e w' => e = .returned (.int .i64 q) ∧ Below w.heap.size w w'))
    (RC : RowKit.Hid (∀ w, Calls Try.prog 17 #[(.agg #[.int .i64 k, .int .i64 n, .string s])] w fun e w' => e = .returned (.string c) ∧ Below w.heap.size w w'))
    (ht : t.size ≤ 100) (hs : s.size ≤ 100) (hs' : s'.size ≤ 100) :
    Calls Try.prog 5 #[(.agg #[.int .i64 k, .int .i64 n, .string s]), (.agg #[.int .i64 k', .int .i64 n', .string s']), .string t] w fun e w' => e = .returned (.bool true) ∧ Below w.heap.size w w' := by
  have hX : Row ((w.alloc (.cells #[.int .i64 k, .int .i64 n, .string s] 25)).alloc (.cells #[.int .i64 k', .int .i64 n', .string s'] 25)) w.heap.size 25 [.int .i64 k, .int .i64 n, .string s] := (new_at rfl : Row (w.alloc (.cells #[.int .i64 k, .int .i64 n, .string s] 25)) w.heap.size 25 [.int .i64 k, .int .i64 n, .string s]).alloc _
  have hY : Row ((w.alloc (.cells #[.int .i64 k, .int .i64 n, .string s] 25)).alloc (.cells #[.int .i64 k', .int .i64 n', .string s'] 25)) (w.heap.size + 1) 25 [.int .i64 k', .int .i64 n', .string s'] := new_at (by simp)
  have hb : Below w.heap.size w ((w.alloc (.cells #[.int .i64 k, .int .i64 n, .string s] 25)).alloc (.cells #[.int .i64 k', .int .i64 n', .string s'] 25)) := ((Below.refl _ _).alloc (Nat.le_refl _) _).alloc (by simp) _
  have AW := Lib.hid awake_calls
  have X := Lib.hid hX
  have Y := Lib.hid hY
  have B := Lib.hid hb
  clear hX hY hb
  have ht' : ¬ (t.size : Int) > 100 := by omega
  have hs2 : ¬ (s.size : Int) > 100 := by omega
  have hs2' : ¬ (s'.size : Int) > 100 := by omega
  go_enter Try.func5, Try.ntmps5
  go_wp2_with fail
  refine (AW.out _).mono ?_
  rintro e w1 ⟨rfl, h1⟩
  replace X := Lib.hid (X.out.below h1 X.out.lt)
  replace Y := Lib.hid (Y.out.below h1 Y.out.lt)
  replace B := Lib.hid (B.out.trans (h1.mono B.out.size))
  clear h1
  have x0 := X.out.cell (i := 0) rfl
  have x1 := X.out.cell (i := 1) rfl
  have x2 := X.out.cell (i := 2) rfl
  have y0 := Y.out.cell (i := 0) rfl
  have y1 := Y.out.cell (i := 1) rfl
  have y2 := Y.out.cell (i := 2) rfl
  try simp only at x0 x1 x2 y0 y1 y2
  go_wp2_with fail
  clear x0 x1 x2 y0 y1 y2
  refine (RG.out _).mono ?_
  rintro e w1 ⟨rfl, h1⟩
  replace X := Lib.hid (X.out.below h1 X.out.lt)
  replace Y := Lib.hid (Y.out.below h1 Y.out.lt)
  replace B := Lib.hid (B.out.trans (h1.mono B.out.size))
  clear h1
  have x0 := X.out.cell (i := 0) rfl
  have x1 := X.out.cell (i := 1) rfl
  have x2 := X.out.cell (i := 2) rfl
  have y0 := Y.out.cell (i := 0) rfl
  have y1 := Y.out.cell (i := 1) rfl
  have y2 := Y.out.cell (i := 2) rfl
  try simp only at x0 x1 x2 y0 y1 y2
  go_wp2_with fail
  clear x0 x1 x2 y0 y1 y2
  refine (CV.out _).mono ?_
  rintro e w1 ⟨rfl, h1⟩
  replace X := Lib.hid (X.out.below h1 X.out.lt)
  replace Y := Lib.hid (Y.out.below h1 Y.out.lt)
  replace B := Lib.hid (B.out.trans (h1.mono B.out.size))
  clear h1
  have x0 := X.out.cell (i := 0) rfl
  have x1 := X.out.cell (i := 1) rfl
  have x2 := X.out.cell (i := 2) rfl
  have y0 := Y.out.cell (i := 0) rfl
  have y1 := Y.out.cell (i := 1) rfl
  have y2 := Y.out.cell (i := 2) rfl
  try simp only at x0 x1 x2 y0 y1 y2
  go_wp2_with fail
  clear x0 x1 x2 y0 y1 y2
  refine (GV.out _).mono ?_
  rintro e w1 ⟨rfl, h1⟩
  replace X := Lib.hid (X.out.below h1 X.out.lt)
  replace Y := Lib.hid (Y.out.below h1 Y.out.lt)
  replace B := Lib.hid (B.out.trans (h1.mono B.out.size))
  clear h1
  have x0 := X.out.cell (i := 0) rfl
  have x1 := X.out.cell (i := 1) rfl
  have x2 := X.out.cell (i := 2) rfl
  have y0 := Y.out.cell (i := 0) rfl
  have y1 := Y.out.cell (i := 1) rfl
  have y2 := Y.out.cell (i := 2) rfl
  try simp only at x0 x1 x2 y0 y1 y2
  go_wp2_with fail
  clear x0 x1 x2 y0 y1 y2
  refine (RC.out _).mono ?_
  rintro e w4 ⟨rfl, h1⟩
  replace X := Lib.hid (X.out.below h1 X.out.lt)
  replace Y := Lib.hid (Y.out.below h1 Y.out.lt)
  replace B := Lib.hid (B.out.trans (h1.mono B.out.size))
  clear h1
  have x0 := X.out.cell (i := 0) rfl
  have x1 := X.out.cell (i := 1) rfl
  have x2 := X.out.cell (i := 2) rfl
  have y0 := Y.out.cell (i := 0) rfl
  have y1 := Y.out.cell (i := 1) rfl
  have y2 := Y.out.cell (i := 2) rfl
  try simp only at x0 x1 x2 y0 y1 y2
  go_wp2_with fail
  clear x0 x1 x2 y0 y1 y2
  refine (RS.out _).mono ?_
  rintro e w5 ⟨rfl, h1⟩
  replace X := Lib.hid (X.out.below h1 X.out.lt)
  replace Y := Lib.hid (Y.out.below h1 Y.out.lt)
  replace B := Lib.hid (B.out.trans (h1.mono B.out.size))
  clear h1
  have hZ : Row (w5.alloc (.cells #[.int .i64 k2, .int .i64 n2, .string s2] 25)) w5.heap.size 25 [.int .i64 k2, .int .i64 n2, .string s2] := new_at rfl
  have Z := Lib.hid hZ
  replace X := Lib.hid (X.out.alloc (.cells #[.int .i64 k2, .int .i64 n2, .string s2] 25))
  replace Y := Lib.hid (Y.out.alloc (.cells #[.int .i64 k2, .int .i64 n2, .string s2] 25))
  replace B := Lib.hid (B.out.alloc B.out.size (.cells #[.int .i64 k2, .int .i64 n2, .string s2] 25))
  clear hZ
  go_wp2_with fail
  refine (RR.out _).mono ?_
  rintro e w6 ⟨rfl, h1⟩
  replace X := Lib.hid (X.out.below h1 X.out.lt)
  replace Y := Lib.hid (Y.out.below h1 Y.out.lt)
  replace Z := Lib.hid (Z.out.below h1 Z.out.lt)
  replace B := Lib.hid (B.out.trans (h1.mono B.out.size))
  clear h1
  have hU : Row (w6.alloc (.cells #[.int .i64 k2, .int .i64 n2, .string s2] 25)) w6.heap.size 25 [.int .i64 k2, .int .i64 n2, .string s2] := new_at rfl
  have U := Lib.hid hU
  replace X := Lib.hid (X.out.alloc (.cells #[.int .i64 k2, .int .i64 n2, .string s2] 25))
  replace Y := Lib.hid (Y.out.alloc (.cells #[.int .i64 k2, .int .i64 n2, .string s2] 25))
  replace Z := Lib.hid (Z.out.alloc (.cells #[.int .i64 k2, .int .i64 n2, .string s2] 25))
  replace B := Lib.hid (B.out.alloc B.out.size (.cells #[.int .i64 k2, .int .i64 n2, .string s2] 25))
  clear hU
  have x0 := X.out.cell (i := 0) rfl
  have x1 := X.out.cell (i := 1) rfl
  have x2 := X.out.cell (i := 2) rfl
  have y0 := Y.out.cell (i := 0) rfl
  have y1 := Y.out.cell (i := 1) rfl
  have y2 := Y.out.cell (i := 2) rfl
  have z0 := Z.out.cell (i := 0) rfl
  have z1 := Z.out.cell (i := 1) rfl
  have z2 := Z.out.cell (i := 2) rfl
  have u0 := U.out.cell (i := 0) rfl
  have u1 := U.out.cell (i := 1) rfl
  have u2 := U.out.cell (i := 2) rfl
  try simp only at x0 x1 x2 y0 y1 y2 z0 z1 z2 u0 u1 u2
  go_wp2_with fail
  clear x0 x1 x2 y0 y1 y2 z0 z1 z2 u0 u1 u2
  generalize w6.alloc (.cells #[.int .i64 k2, .int .i64 n2, .string s2] 25) = w7 at *
  have hlx := X.out.lt
  have hly := Y.out.lt
  have hbb := Below.refl w7.heap.size w7
  have hle : w7.heap.size ≤ w7.heap.size := Nat.le_refl _
  have x0 := X.out.cell (i := 0) rfl
  have x1 := X.out.cell (i := 1) rfl
  have x2 := X.out.cell (i := 2) rfl
  have y0 := Y.out.cell (i := 0) rfl
  have y1 := Y.out.cell (i := 1) rfl
  have y2 := Y.out.cell (i := 2) rfl
  try simp only at x0 x1 x2 y0 y1 y2
  go_region_held3 (fun w' => w'.cell? ⟨w.heap.size, 0, none⟩ = some (.int .i64 k) ∧ w'.cell? ⟨w.heap.size, 1, none⟩ = some (.int .i64 n) ∧ w'.cell? ⟨w.heap.size, 2, none⟩ = some (.string s) ∧ w'.cell? ⟨w.heap.size + 1, 0, none⟩ = some (.int .i64 k') ∧ w'.cell? ⟨w.heap.size + 1, 1, none⟩ = some (.int .i64 n') ∧ w'.cell? ⟨w.heap.size + 1, 2, none⟩ = some (.string s'))
    (first
      | exact ⟨(X.out.below hbb hlx).cell rfl, (X.out.below hbb hlx).cell rfl, (X.out.below hbb hlx).cell rfl, (Y.out.below hbb hly).cell rfl, (Y.out.below hbb hly).cell rfl, (Y.out.below hbb hly).cell rfl⟩
      | go_keep)
    (first
      | (go_at_call 19
         refine (C1.out _).mono ?_
         rintro e wy ⟨rfl, hb⟩
         replace hbb := (by first | exact below_step hbb hb hle | exact below_step' hbb hb hle)
         clear hb)
      | (go_at_call 20
         refine (C2.out _).mono ?_
         rintro e wy ⟨rfl, hb⟩
         replace hbb := (by first | exact below_step hbb hb hle | exact below_step' hbb hb hle)
         clear hb))
  all_goals
    go_wp2_with fail
    go_ret
    exact ⟨by simp, B.out.trans (hbb.mono B.out.size)⟩

set_option maxHeartbeats 4000000 in
theorem exact_gn (k n k' n' : Int) (s s' t c : ByteArray) (q : Int) (w : World)
    (RG : RowKit.Hid (∀ w, Calls Try.prog 16 #[(.agg #[.int .i64 k, .int .i64 n, .string s])] w fun e w' => e = .returned (.bool true) ∧ Below w.heap.size w w'))
    (CV : RowKit.Hid (∀ w, Calls Try.prog 14 #[(.agg #[.int .i64 k, .int .i64 n, .string s])] w fun e w' => e = .returned (.tuple #[.string c, .int .i64 0]) ∧ Below w.heap.size w w'))
    (GV : RowKit.Hid (∀ w, Calls Try.prog 13 #[(.agg #[.int .i64 k, .int .i64 n, .string s])] w fun e w' => e = .returned (.bool true) ∧ Below w.heap.size w w'))
    (RS : RowKit.Hid (∀ w, Calls Try.prog 15 #[.string t] w fun e w' => e = .returned (.tuple #[(.agg #[.int .i64 0, .int .i64 0, .string ⟨#[]⟩]), .int .i64 3]) ∧ Below w.heap.size w w'))
    (RR : RowKit.Hid (∀ w, Calls Try.prog 18 #[.string t] w fun e w' => e = .returned (.tuple #[(.agg #[.int .i64 0, .int .i64 0, .string ⟨#[]⟩]), .bool false]) ∧ Below w.heap.size w w'))
    (C1 : RowKit.Hid (∀ w, Calls Try.prog 19 #[(.agg #[.int .i64 k, .int .i64 n, .string s]), (.agg #[.int .i64 k', .int .i64 n', .string s'])] w fun e w' => e = .returned (.int .i64 q) ∧ Below w.heap.size w w'))
    (C2 : RowKit.Hid (∀ w, Calls Try.prog 20 #[(.agg #[.int .i64 k, .int .i64 n, .string s]), (.agg #[.int .i64 k', .int .i64 n', .string s'])] w fun e w' => e = .returned (.int .i64 q) ∧ Below w.heap.size w w'))
    (RC : RowKit.Hid (∀ w, Calls Try.prog 17 #[(.agg #[.int .i64 k, .int .i64 n, .string s])] w fun e w' => e = .returned (.string c) ∧ Below w.heap.size w w'))
    (ht : t.size ≤ 100) (hs : s.size ≤ 100) (hs' : s'.size ≤ 100) :
    Calls Try.prog 5 #[(.agg #[.int .i64 k, .int .i64 n, .string s]), (.agg #[.int .i64 k', .int .i64 n', .string s']), .string t] w fun e w' => e = .returned (.bool true) ∧ Below w.heap.size w w' := by
  have hX : Row ((w.alloc (.cells #[.int .i64 k, .int .i64 n, .string s] 25)).alloc (.cells #[.int .i64 k', .int .i64 n', .string s'] 25)) w.heap.size 25 [.int .i64 k, .int .i64 n, .string s] := (new_at rfl : Row (w.alloc (.cells #[.int .i64 k, .int .i64 n, .string s] 25)) w.heap.size 25 [.int .i64 k, .int .i64 n, .string s]).alloc _
  have hY : Row ((w.alloc (.cells #[.int .i64 k, .int .i64 n, .string s] 25)).alloc (.cells #[.int .i64 k', .int .i64 n', .string s'] 25)) (w.heap.size + 1) 25 [.int .i64 k', .int .i64 n', .string s'] := new_at (by simp)
  have hb : Below w.heap.size w ((w.alloc (.cells #[.int .i64 k, .int .i64 n, .string s] 25)).alloc (.cells #[.int .i64 k', .int .i64 n', .string s'] 25)) := ((Below.refl _ _).alloc (Nat.le_refl _) _).alloc (by simp) _
  have AW := Lib.hid awake_calls
  have X := Lib.hid hX
  have Y := Lib.hid hY
  have B := Lib.hid hb
  clear hX hY hb
  have ht' : ¬ (t.size : Int) > 100 := by omega
  have hs2 : ¬ (s.size : Int) > 100 := by omega
  have hs2' : ¬ (s'.size : Int) > 100 := by omega
  go_enter Try.func5, Try.ntmps5
  go_wp2_with fail
  refine (AW.out _).mono ?_
  rintro e w1 ⟨rfl, h1⟩
  replace X := Lib.hid (X.out.below h1 X.out.lt)
  replace Y := Lib.hid (Y.out.below h1 Y.out.lt)
  replace B := Lib.hid (B.out.trans (h1.mono B.out.size))
  clear h1
  have x0 := X.out.cell (i := 0) rfl
  have x1 := X.out.cell (i := 1) rfl
  have x2 := X.out.cell (i := 2) rfl
  have y0 := Y.out.cell (i := 0) rfl
  have y1 := Y.out.cell (i := 1) rfl
  have y2 := Y.out.cell (i := 2) rfl
  try simp only at x0 x1 x2 y0 y1 y2
  go_wp2_with fail
  clear x0 x1 x2 y0 y1 y2
  refine (RG.out _).mono ?_
  rintro e w1 ⟨rfl, h1⟩
  replace X := Lib.hid (X.out.below h1 X.out.lt)
  replace Y := Lib.hid (Y.out.below h1 Y.out.lt)
  replace B := Lib.hid (B.out.trans (h1.mono B.out.size))
  clear h1
  have x0 := X.out.cell (i := 0) rfl
  have x1 := X.out.cell (i := 1) rfl
  have x2 := X.out.cell (i := 2) rfl
  have y0 := Y.out.cell (i := 0) rfl
  have y1 := Y.out.cell (i := 1) rfl
  have y2 := Y.out.cell (i := 2) rfl
  try simp only at x0 x1 x2 y0 y1 y2
  go_wp2_with fail
  clear x0 x1 x2 y0 y1 y2
  refine (CV.out _).mono ?_
  rintro e w1 ⟨rfl, h1⟩
  replace X := Lib.hid (X.out.below h1 X.out.lt)
  replace Y := Lib.hid (Y.out.below h1 Y.out.lt)
  replace B := Lib.hid (B.out.trans (h1.mono B.out.size))
  clear h1
  have x0 := X.out.cell (i := 0) rfl
  have x1 := X.out.cell (i := 1) rfl
  have x2 := X.out.cell (i := 2) rfl
  have y0 := Y.out.cell (i := 0) rfl
  have y1 := Y.out.cell (i := 1) rfl
  have y2 := Y.out.cell (i := 2) rfl
  try simp only at x0 x1 x2 y0 y1 y2
  go_wp2_with fail
  clear x0 x1 x2 y0 y1 y2
  refine (GV.out _).mono ?_
  rintro e w1 ⟨rfl, h1⟩
  replace X := Lib.hid (X.out.below h1 X.out.lt)
  replace Y := Lib.hid (Y.out.below h1 Y.out.lt)
  replace B := Lib.hid (B.out.trans (h1.mono B.out.size))
  clear h1
  have x0 := X.out.cell (i := 0) rfl
  have x1 := X.out.cell (i := 1) rfl
  have x2 := X.out.cell (i := 2) rfl
  have y0 := Y.out.cell (i := 0) rfl
  have y1 := Y.out.cell (i := 1) rfl
  have y2 := Y.out.cell (i := 2) rfl
  try simp only at x0 x1 x2 y0 y1 y2
  go_wp2_with fail
  clear x0 x1 x2 y0 y1 y2
  refine (RC.out _).mono ?_
  rintro e w4 ⟨rfl, h1⟩
  replace X := Lib.hid (X.out.below h1 X.out.lt)
  replace Y := Lib.hid (Y.out.below h1 Y.out.lt)
  replace B := Lib.hid (B.out.trans (h1.mono B.out.size))
  clear h1
  have x0 := X.out.cell (i := 0) rfl
  have x1 := X.out.cell (i := 1) rfl
  have x2 := X.out.cell (i := 2) rfl
  have y0 := Y.out.cell (i := 0) rfl
  have y1 := Y.out.cell (i := 1) rfl
  have y2 := Y.out.cell (i := 2) rfl
  try simp only at x0 x1 x2 y0 y1 y2
  go_wp2_with fail
  clear x0 x1 x2 y0 y1 y2
  refine (RS.out _).mono ?_
  rintro e w5 ⟨rfl, h1⟩
  replace X := Lib.hid (X.out.below h1 X.out.lt)
  replace Y := Lib.hid (Y.out.below h1 Y.out.lt)
  replace B := Lib.hid (B.out.trans (h1.mono B.out.size))
  clear h1
  have hZ : Row (w5.alloc (.cells #[.int .i64 0, .int .i64 0, .string ⟨#[]⟩] 25)) w5.heap.size 25 [.int .i64 0, .int .i64 0, .string ⟨#[]⟩] := new_at rfl
  have Z := Lib.hid hZ
  replace X := Lib.hid (X.out.alloc (.cells #[.int .i64 0, .int .i64 0, .string ⟨#[]⟩] 25))
  replace Y := Lib.hid (Y.out.alloc (.cells #[.int .i64 0, .int .i64 0, .string ⟨#[]⟩] 25))
  replace B := Lib.hid (B.out.alloc B.out.size (.cells #[.int .i64 0, .int .i64 0, .string ⟨#[]⟩] 25))
  clear hZ
  go_wp2_with fail
  refine (RR.out _).mono ?_
  rintro e w6 ⟨rfl, h1⟩
  replace X := Lib.hid (X.out.below h1 X.out.lt)
  replace Y := Lib.hid (Y.out.below h1 Y.out.lt)
  replace Z := Lib.hid (Z.out.below h1 Z.out.lt)
  replace B := Lib.hid (B.out.trans (h1.mono B.out.size))
  clear h1
  have hU : Row (w6.alloc (.cells #[.int .i64 0, .int .i64 0, .string ⟨#[]⟩] 25)) w6.heap.size 25 [.int .i64 0, .int .i64 0, .string ⟨#[]⟩] := new_at rfl
  have U := Lib.hid hU
  replace X := Lib.hid (X.out.alloc (.cells #[.int .i64 0, .int .i64 0, .string ⟨#[]⟩] 25))
  replace Y := Lib.hid (Y.out.alloc (.cells #[.int .i64 0, .int .i64 0, .string ⟨#[]⟩] 25))
  replace Z := Lib.hid (Z.out.alloc (.cells #[.int .i64 0, .int .i64 0, .string ⟨#[]⟩] 25))
  replace B := Lib.hid (B.out.alloc B.out.size (.cells #[.int .i64 0, .int .i64 0, .string ⟨#[]⟩] 25))
  clear hU
  have x0 := X.out.cell (i := 0) rfl
  have x1 := X.out.cell (i := 1) rfl
  have x2 := X.out.cell (i := 2) rfl
  have y0 := Y.out.cell (i := 0) rfl
  have y1 := Y.out.cell (i := 1) rfl
  have y2 := Y.out.cell (i := 2) rfl
  have z0 := Z.out.cell (i := 0) rfl
  have z1 := Z.out.cell (i := 1) rfl
  have z2 := Z.out.cell (i := 2) rfl
  have u0 := U.out.cell (i := 0) rfl
  have u1 := U.out.cell (i := 1) rfl
  have u2 := U.out.cell (i := 2) rfl
  try simp only at x0 x1 x2 y0 y1 y2 z0 z1 z2 u0 u1 u2
  go_wp2_with fail
  clear x0 x1 x2 y0 y1 y2 z0 z1 z2 u0 u1 u2
  generalize w6.alloc (.cells #[.int .i64 0, .int .i64 0, .string ⟨#[]⟩] 25) = w7 at *
  have hlx := X.out.lt
  have hly := Y.out.lt
  have hbb := Below.refl w7.heap.size w7
  have hle : w7.heap.size ≤ w7.heap.size := Nat.le_refl _
  have x0 := X.out.cell (i := 0) rfl
  have x1 := X.out.cell (i := 1) rfl
  have x2 := X.out.cell (i := 2) rfl
  have y0 := Y.out.cell (i := 0) rfl
  have y1 := Y.out.cell (i := 1) rfl
  have y2 := Y.out.cell (i := 2) rfl
  try simp only at x0 x1 x2 y0 y1 y2
  go_region_held3 (fun w' => w'.cell? ⟨w.heap.size, 0, none⟩ = some (.int .i64 k) ∧ w'.cell? ⟨w.heap.size, 1, none⟩ = some (.int .i64 n) ∧ w'.cell? ⟨w.heap.size, 2, none⟩ = some (.string s) ∧ w'.cell? ⟨w.heap.size + 1, 0, none⟩ = some (.int .i64 k') ∧ w'.cell? ⟨w.heap.size + 1, 1, none⟩ = some (.int .i64 n') ∧ w'.cell? ⟨w.heap.size + 1, 2, none⟩ = some (.string s'))
    (first
      | exact ⟨(X.out.below hbb hlx).cell rfl, (X.out.below hbb hlx).cell rfl, (X.out.below hbb hlx).cell rfl, (Y.out.below hbb hly).cell rfl, (Y.out.below hbb hly).cell rfl, (Y.out.below hbb hly).cell rfl⟩
      | go_keep)
    (first
      | (go_at_call 19
         refine (C1.out _).mono ?_
         rintro e wy ⟨rfl, hb⟩
         replace hbb := (by first | exact below_step hbb hb hle | exact below_step' hbb hb hle)
         clear hb)
      | (go_at_call 20
         refine (C2.out _).mono ?_
         rintro e wy ⟨rfl, hb⟩
         replace hbb := (by first | exact below_step hbb hb hle | exact below_step' hbb hb hle)
         clear hb))
  all_goals
    go_wp2_with fail
    go_ret
    exact ⟨by simp, B.out.trans (hbb.mono B.out.size)⟩

set_option maxHeartbeats 4000000 in
theorem exact_bi (k n k' n' k2 n2 : Int) (s s' s2 t : ByteArray) (q : Int) (w : World)
    (RG : RowKit.Hid (∀ w, Calls Try.prog 16 #[(.agg #[.int .i64 k, .int .i64 n, .string s])] w fun e w' => e = .returned (.bool false) ∧ Below w.heap.size w w'))
    (CV : RowKit.Hid (∀ w, Calls Try.prog 14 #[(.agg #[.int .i64 k, .int .i64 n, .string s])] w fun e w' => e = .returned (.tuple #[.string ⟨#[]⟩, .int .i64 1]) ∧ Below w.heap.size w w'))
    (GV : RowKit.Hid (∀ w, Calls Try.prog 13 #[(.agg #[.int .i64 k, .int .i64 n, .string s])] w fun e w' => e = .returned (.bool false) ∧ Below w.heap.size w w'))
    (RS : RowKit.Hid (∀ w, Calls Try.prog 15 #[.string t] w fun e w' => e = .returned (.tuple #[(.agg #[.int .i64 k2, .int .i64 n2, .string s2]), .int .i64 0]) ∧ Below w.heap.size w w'))
    (RR : RowKit.Hid (∀ w, Calls Try.prog 18 #[.string t] w fun e w' => e = .returned (.tuple #[(.agg #[.int .i64 k2, .int .i64 n2, .string s2]), .bool true]) ∧ Below w.heap.size w w'))
    (C1 : RowKit.Hid (∀ w, Calls Try.prog 19 #[(.agg #[.int .i64 k, .int .i64 n, .string s]), (.agg #[.int .i64 k', .int .i64 n', .string s'])] w fun e w' => e = .returned (.int .i64 q) ∧ Below w.heap.size w w'))
    (C2 : RowKit.Hid (∀ w, Calls Try.prog 20 #[(.agg #[.int .i64 k, .int .i64 n, .string s]), (.agg #[.int .i64 k', .int .i64 n', .string s'])] w fun e w' => e = .returned (.int .i64 q) ∧ Below w.heap.size w w'))
    (ht : t.size ≤ 100) (hs : s.size ≤ 100) (hs' : s'.size ≤ 100) :
    Calls Try.prog 5 #[(.agg #[.int .i64 k, .int .i64 n, .string s]), (.agg #[.int .i64 k', .int .i64 n', .string s']), .string t] w fun e w' => e = .returned (.bool true) ∧ Below w.heap.size w w' := by
  have hX : Row ((w.alloc (.cells #[.int .i64 k, .int .i64 n, .string s] 25)).alloc (.cells #[.int .i64 k', .int .i64 n', .string s'] 25)) w.heap.size 25 [.int .i64 k, .int .i64 n, .string s] := (new_at rfl : Row (w.alloc (.cells #[.int .i64 k, .int .i64 n, .string s] 25)) w.heap.size 25 [.int .i64 k, .int .i64 n, .string s]).alloc _
  have hY : Row ((w.alloc (.cells #[.int .i64 k, .int .i64 n, .string s] 25)).alloc (.cells #[.int .i64 k', .int .i64 n', .string s'] 25)) (w.heap.size + 1) 25 [.int .i64 k', .int .i64 n', .string s'] := new_at (by simp)
  have hb : Below w.heap.size w ((w.alloc (.cells #[.int .i64 k, .int .i64 n, .string s] 25)).alloc (.cells #[.int .i64 k', .int .i64 n', .string s'] 25)) := ((Below.refl _ _).alloc (Nat.le_refl _) _).alloc (by simp) _
  have AW := Lib.hid awake_calls
  have X := Lib.hid hX
  have Y := Lib.hid hY
  have B := Lib.hid hb
  clear hX hY hb
  have ht' : ¬ (t.size : Int) > 100 := by omega
  have hs2 : ¬ (s.size : Int) > 100 := by omega
  have hs2' : ¬ (s'.size : Int) > 100 := by omega
  go_enter Try.func5, Try.ntmps5
  go_wp2_with fail
  refine (AW.out _).mono ?_
  rintro e w1 ⟨rfl, h1⟩
  replace X := Lib.hid (X.out.below h1 X.out.lt)
  replace Y := Lib.hid (Y.out.below h1 Y.out.lt)
  replace B := Lib.hid (B.out.trans (h1.mono B.out.size))
  clear h1
  have x0 := X.out.cell (i := 0) rfl
  have x1 := X.out.cell (i := 1) rfl
  have x2 := X.out.cell (i := 2) rfl
  have y0 := Y.out.cell (i := 0) rfl
  have y1 := Y.out.cell (i := 1) rfl
  have y2 := Y.out.cell (i := 2) rfl
  try simp only at x0 x1 x2 y0 y1 y2
  go_wp2_with fail
  clear x0 x1 x2 y0 y1 y2
  refine (RG.out _).mono ?_
  rintro e w1 ⟨rfl, h1⟩
  replace X := Lib.hid (X.out.below h1 X.out.lt)
  replace Y := Lib.hid (Y.out.below h1 Y.out.lt)
  replace B := Lib.hid (B.out.trans (h1.mono B.out.size))
  clear h1
  have x0 := X.out.cell (i := 0) rfl
  have x1 := X.out.cell (i := 1) rfl
  have x2 := X.out.cell (i := 2) rfl
  have y0 := Y.out.cell (i := 0) rfl
  have y1 := Y.out.cell (i := 1) rfl
  have y2 := Y.out.cell (i := 2) rfl
  try simp only at x0 x1 x2 y0 y1 y2
  go_wp2_with fail
  clear x0 x1 x2 y0 y1 y2
  refine (CV.out _).mono ?_
  rintro e w1 ⟨rfl, h1⟩
  replace X := Lib.hid (X.out.below h1 X.out.lt)
  replace Y := Lib.hid (Y.out.below h1 Y.out.lt)
  replace B := Lib.hid (B.out.trans (h1.mono B.out.size))
  clear h1
  have x0 := X.out.cell (i := 0) rfl
  have x1 := X.out.cell (i := 1) rfl
  have x2 := X.out.cell (i := 2) rfl
  have y0 := Y.out.cell (i := 0) rfl
  have y1 := Y.out.cell (i := 1) rfl
  have y2 := Y.out.cell (i := 2) rfl
  try simp only at x0 x1 x2 y0 y1 y2
  go_wp2_with fail
  clear x0 x1 x2 y0 y1 y2
  refine (GV.out _).mono ?_
  rintro e w1 ⟨rfl, h1⟩
  replace X := Lib.hid (X.out.below h1 X.out.lt)
  replace Y := Lib.hid (Y.out.below h1 Y.out.lt)
  replace B := Lib.hid (B.out.trans (h1.mono B.out.size))
  clear h1
  have x0 := X.out.cell (i := 0) rfl
  have x1 := X.out.cell (i := 1) rfl
  have x2 := X.out.cell (i := 2) rfl
  have y0 := Y.out.cell (i := 0) rfl
  have y1 := Y.out.cell (i := 1) rfl
  have y2 := Y.out.cell (i := 2) rfl
  try simp only at x0 x1 x2 y0 y1 y2
  go_wp2_with fail
  clear x0 x1 x2 y0 y1 y2
  refine (RS.out _).mono ?_
  rintro e w5 ⟨rfl, h1⟩
  replace X := Lib.hid (X.out.below h1 X.out.lt)
  replace Y := Lib.hid (Y.out.below h1 Y.out.lt)
  replace B := Lib.hid (B.out.trans (h1.mono B.out.size))
  clear h1
  have hZ : Row (w5.alloc (.cells #[.int .i64 k2, .int .i64 n2, .string s2] 25)) w5.heap.size 25 [.int .i64 k2, .int .i64 n2, .string s2] := new_at rfl
  have Z := Lib.hid hZ
  replace X := Lib.hid (X.out.alloc (.cells #[.int .i64 k2, .int .i64 n2, .string s2] 25))
  replace Y := Lib.hid (Y.out.alloc (.cells #[.int .i64 k2, .int .i64 n2, .string s2] 25))
  replace B := Lib.hid (B.out.alloc B.out.size (.cells #[.int .i64 k2, .int .i64 n2, .string s2] 25))
  clear hZ
  go_wp2_with fail
  refine (RR.out _).mono ?_
  rintro e w6 ⟨rfl, h1⟩
  replace X := Lib.hid (X.out.below h1 X.out.lt)
  replace Y := Lib.hid (Y.out.below h1 Y.out.lt)
  replace Z := Lib.hid (Z.out.below h1 Z.out.lt)
  replace B := Lib.hid (B.out.trans (h1.mono B.out.size))
  clear h1
  have hU : Row (w6.alloc (.cells #[.int .i64 k2, .int .i64 n2, .string s2] 25)) w6.heap.size 25 [.int .i64 k2, .int .i64 n2, .string s2] := new_at rfl
  have U := Lib.hid hU
  replace X := Lib.hid (X.out.alloc (.cells #[.int .i64 k2, .int .i64 n2, .string s2] 25))
  replace Y := Lib.hid (Y.out.alloc (.cells #[.int .i64 k2, .int .i64 n2, .string s2] 25))
  replace Z := Lib.hid (Z.out.alloc (.cells #[.int .i64 k2, .int .i64 n2, .string s2] 25))
  replace B := Lib.hid (B.out.alloc B.out.size (.cells #[.int .i64 k2, .int .i64 n2, .string s2] 25))
  clear hU
  have x0 := X.out.cell (i := 0) rfl
  have x1 := X.out.cell (i := 1) rfl
  have x2 := X.out.cell (i := 2) rfl
  have y0 := Y.out.cell (i := 0) rfl
  have y1 := Y.out.cell (i := 1) rfl
  have y2 := Y.out.cell (i := 2) rfl
  have z0 := Z.out.cell (i := 0) rfl
  have z1 := Z.out.cell (i := 1) rfl
  have z2 := Z.out.cell (i := 2) rfl
  have u0 := U.out.cell (i := 0) rfl
  have u1 := U.out.cell (i := 1) rfl
  have u2 := U.out.cell (i := 2) rfl
  try simp only at x0 x1 x2 y0 y1 y2 z0 z1 z2 u0 u1 u2
  go_wp2_with fail
  clear x0 x1 x2 y0 y1 y2 z0 z1 z2 u0 u1 u2
  generalize w6.alloc (.cells #[.int .i64 k2, .int .i64 n2, .string s2] 25) = w7 at *
  have hlx := X.out.lt
  have hly := Y.out.lt
  have hbb := Below.refl w7.heap.size w7
  have hle : w7.heap.size ≤ w7.heap.size := Nat.le_refl _
  have x0 := X.out.cell (i := 0) rfl
  have x1 := X.out.cell (i := 1) rfl
  have x2 := X.out.cell (i := 2) rfl
  have y0 := Y.out.cell (i := 0) rfl
  have y1 := Y.out.cell (i := 1) rfl
  have y2 := Y.out.cell (i := 2) rfl
  try simp only at x0 x1 x2 y0 y1 y2
  go_region_held3 (fun w' => w'.cell? ⟨w.heap.size, 0, none⟩ = some (.int .i64 k) ∧ w'.cell? ⟨w.heap.size, 1, none⟩ = some (.int .i64 n) ∧ w'.cell? ⟨w.heap.size, 2, none⟩ = some (.string s) ∧ w'.cell? ⟨w.heap.size + 1, 0, none⟩ = some (.int .i64 k') ∧ w'.cell? ⟨w.heap.size + 1, 1, none⟩ = some (.int .i64 n') ∧ w'.cell? ⟨w.heap.size + 1, 2, none⟩ = some (.string s'))
    (first
      | exact ⟨(X.out.below hbb hlx).cell rfl, (X.out.below hbb hlx).cell rfl, (X.out.below hbb hlx).cell rfl, (Y.out.below hbb hly).cell rfl, (Y.out.below hbb hly).cell rfl, (Y.out.below hbb hly).cell rfl⟩
      | go_keep)
    (first
      | (go_at_call 19
         refine (C1.out _).mono ?_
         rintro e wy ⟨rfl, hb⟩
         replace hbb := (by first | exact below_step hbb hb hle | exact below_step' hbb hb hle)
         clear hb)
      | (go_at_call 20
         refine (C2.out _).mono ?_
         rintro e wy ⟨rfl, hb⟩
         replace hbb := (by first | exact below_step hbb hb hle | exact below_step' hbb hb hle)
         clear hb))
  all_goals
    go_wp2_with fail
    go_ret
    exact ⟨by simp, B.out.trans (hbb.mono B.out.size)⟩

set_option maxHeartbeats 4000000 in
theorem exact_bn (k n k' n' : Int) (s s' t : ByteArray) (q : Int) (w : World)
    (RG : RowKit.Hid (∀ w, Calls Try.prog 16 #[(.agg #[.int .i64 k, .int .i64 n, .string s])] w fun e w' => e = .returned (.bool false) ∧ Below w.heap.size w w'))
    (CV : RowKit.Hid (∀ w, Calls Try.prog 14 #[(.agg #[.int .i64 k, .int .i64 n, .string s])] w fun e w' => e = .returned (.tuple #[.string ⟨#[]⟩, .int .i64 1]) ∧ Below w.heap.size w w'))
    (GV : RowKit.Hid (∀ w, Calls Try.prog 13 #[(.agg #[.int .i64 k, .int .i64 n, .string s])] w fun e w' => e = .returned (.bool false) ∧ Below w.heap.size w w'))
    (RS : RowKit.Hid (∀ w, Calls Try.prog 15 #[.string t] w fun e w' => e = .returned (.tuple #[(.agg #[.int .i64 0, .int .i64 0, .string ⟨#[]⟩]), .int .i64 3]) ∧ Below w.heap.size w w'))
    (RR : RowKit.Hid (∀ w, Calls Try.prog 18 #[.string t] w fun e w' => e = .returned (.tuple #[(.agg #[.int .i64 0, .int .i64 0, .string ⟨#[]⟩]), .bool false]) ∧ Below w.heap.size w w'))
    (C1 : RowKit.Hid (∀ w, Calls Try.prog 19 #[(.agg #[.int .i64 k, .int .i64 n, .string s]), (.agg #[.int .i64 k', .int .i64 n', .string s'])] w fun e w' => e = .returned (.int .i64 q) ∧ Below w.heap.size w w'))
    (C2 : RowKit.Hid (∀ w, Calls Try.prog 20 #[(.agg #[.int .i64 k, .int .i64 n, .string s]), (.agg #[.int .i64 k', .int .i64 n', .string s'])] w fun e w' => e = .returned (.int .i64 q) ∧ Below w.heap.size w w'))
    (ht : t.size ≤ 100) (hs : s.size ≤ 100) (hs' : s'.size ≤ 100) :
    Calls Try.prog 5 #[(.agg #[.int .i64 k, .int .i64 n, .string s]), (.agg #[.int .i64 k', .int .i64 n', .string s']), .string t] w fun e w' => e = .returned (.bool true) ∧ Below w.heap.size w w' := by
  have hX : Row ((w.alloc (.cells #[.int .i64 k, .int .i64 n, .string s] 25)).alloc (.cells #[.int .i64 k', .int .i64 n', .string s'] 25)) w.heap.size 25 [.int .i64 k, .int .i64 n, .string s] := (new_at rfl : Row (w.alloc (.cells #[.int .i64 k, .int .i64 n, .string s] 25)) w.heap.size 25 [.int .i64 k, .int .i64 n, .string s]).alloc _
  have hY : Row ((w.alloc (.cells #[.int .i64 k, .int .i64 n, .string s] 25)).alloc (.cells #[.int .i64 k', .int .i64 n', .string s'] 25)) (w.heap.size + 1) 25 [.int .i64 k', .int .i64 n', .string s'] := new_at (by simp)
  have hb : Below w.heap.size w ((w.alloc (.cells #[.int .i64 k, .int .i64 n, .string s] 25)).alloc (.cells #[.int .i64 k', .int .i64 n', .string s'] 25)) := ((Below.refl _ _).alloc (Nat.le_refl _) _).alloc (by simp) _
  have AW := Lib.hid awake_calls
  have X := Lib.hid hX
  have Y := Lib.hid hY
  have B := Lib.hid hb
  clear hX hY hb
  have ht' : ¬ (t.size : Int) > 100 := by omega
  have hs2 : ¬ (s.size : Int) > 100 := by omega
  have hs2' : ¬ (s'.size : Int) > 100 := by omega
  go_enter Try.func5, Try.ntmps5
  go_wp2_with fail
  refine (AW.out _).mono ?_
  rintro e w1 ⟨rfl, h1⟩
  replace X := Lib.hid (X.out.below h1 X.out.lt)
  replace Y := Lib.hid (Y.out.below h1 Y.out.lt)
  replace B := Lib.hid (B.out.trans (h1.mono B.out.size))
  clear h1
  have x0 := X.out.cell (i := 0) rfl
  have x1 := X.out.cell (i := 1) rfl
  have x2 := X.out.cell (i := 2) rfl
  have y0 := Y.out.cell (i := 0) rfl
  have y1 := Y.out.cell (i := 1) rfl
  have y2 := Y.out.cell (i := 2) rfl
  try simp only at x0 x1 x2 y0 y1 y2
  go_wp2_with fail
  clear x0 x1 x2 y0 y1 y2
  refine (RG.out _).mono ?_
  rintro e w1 ⟨rfl, h1⟩
  replace X := Lib.hid (X.out.below h1 X.out.lt)
  replace Y := Lib.hid (Y.out.below h1 Y.out.lt)
  replace B := Lib.hid (B.out.trans (h1.mono B.out.size))
  clear h1
  have x0 := X.out.cell (i := 0) rfl
  have x1 := X.out.cell (i := 1) rfl
  have x2 := X.out.cell (i := 2) rfl
  have y0 := Y.out.cell (i := 0) rfl
  have y1 := Y.out.cell (i := 1) rfl
  have y2 := Y.out.cell (i := 2) rfl
  try simp only at x0 x1 x2 y0 y1 y2
  go_wp2_with fail
  clear x0 x1 x2 y0 y1 y2
  refine (CV.out _).mono ?_
  rintro e w1 ⟨rfl, h1⟩
  replace X := Lib.hid (X.out.below h1 X.out.lt)
  replace Y := Lib.hid (Y.out.below h1 Y.out.lt)
  replace B := Lib.hid (B.out.trans (h1.mono B.out.size))
  clear h1
  have x0 := X.out.cell (i := 0) rfl
  have x1 := X.out.cell (i := 1) rfl
  have x2 := X.out.cell (i := 2) rfl
  have y0 := Y.out.cell (i := 0) rfl
  have y1 := Y.out.cell (i := 1) rfl
  have y2 := Y.out.cell (i := 2) rfl
  try simp only at x0 x1 x2 y0 y1 y2
  go_wp2_with fail
  clear x0 x1 x2 y0 y1 y2
  refine (GV.out _).mono ?_
  rintro e w1 ⟨rfl, h1⟩
  replace X := Lib.hid (X.out.below h1 X.out.lt)
  replace Y := Lib.hid (Y.out.below h1 Y.out.lt)
  replace B := Lib.hid (B.out.trans (h1.mono B.out.size))
  clear h1
  have x0 := X.out.cell (i := 0) rfl
  have x1 := X.out.cell (i := 1) rfl
  have x2 := X.out.cell (i := 2) rfl
  have y0 := Y.out.cell (i := 0) rfl
  have y1 := Y.out.cell (i := 1) rfl
  have y2 := Y.out.cell (i := 2) rfl
  try simp only at x0 x1 x2 y0 y1 y2
  go_wp2_with fail
  clear x0 x1 x2 y0 y1 y2
  refine (RS.out _).mono ?_
  rintro e w5 ⟨rfl, h1⟩
  replace X := Lib.hid (X.out.below h1 X.out.lt)
  replace Y := Lib.hid (Y.out.below h1 Y.out.lt)
  replace B := Lib.hid (B.out.trans (h1.mono B.out.size))
  clear h1
  have hZ : Row (w5.alloc (.cells #[.int .i64 0, .int .i64 0, .string ⟨#[]⟩] 25)) w5.heap.size 25 [.int .i64 0, .int .i64 0, .string ⟨#[]⟩] := new_at rfl
  have Z := Lib.hid hZ
  replace X := Lib.hid (X.out.alloc (.cells #[.int .i64 0, .int .i64 0, .string ⟨#[]⟩] 25))
  replace Y := Lib.hid (Y.out.alloc (.cells #[.int .i64 0, .int .i64 0, .string ⟨#[]⟩] 25))
  replace B := Lib.hid (B.out.alloc B.out.size (.cells #[.int .i64 0, .int .i64 0, .string ⟨#[]⟩] 25))
  clear hZ
  go_wp2_with fail
  refine (RR.out _).mono ?_
  rintro e w6 ⟨rfl, h1⟩
  replace X := Lib.hid (X.out.below h1 X.out.lt)
  replace Y := Lib.hid (Y.out.below h1 Y.out.lt)
  replace Z := Lib.hid (Z.out.below h1 Z.out.lt)
  replace B := Lib.hid (B.out.trans (h1.mono B.out.size))
  clear h1
  have hU : Row (w6.alloc (.cells #[.int .i64 0, .int .i64 0, .string ⟨#[]⟩] 25)) w6.heap.size 25 [.int .i64 0, .int .i64 0, .string ⟨#[]⟩] := new_at rfl
  have U := Lib.hid hU
  replace X := Lib.hid (X.out.alloc (.cells #[.int .i64 0, .int .i64 0, .string ⟨#[]⟩] 25))
  replace Y := Lib.hid (Y.out.alloc (.cells #[.int .i64 0, .int .i64 0, .string ⟨#[]⟩] 25))
  replace Z := Lib.hid (Z.out.alloc (.cells #[.int .i64 0, .int .i64 0, .string ⟨#[]⟩] 25))
  replace B := Lib.hid (B.out.alloc B.out.size (.cells #[.int .i64 0, .int .i64 0, .string ⟨#[]⟩] 25))
  clear hU
  have x0 := X.out.cell (i := 0) rfl
  have x1 := X.out.cell (i := 1) rfl
  have x2 := X.out.cell (i := 2) rfl
  have y0 := Y.out.cell (i := 0) rfl
  have y1 := Y.out.cell (i := 1) rfl
  have y2 := Y.out.cell (i := 2) rfl
  have z0 := Z.out.cell (i := 0) rfl
  have z1 := Z.out.cell (i := 1) rfl
  have z2 := Z.out.cell (i := 2) rfl
  have u0 := U.out.cell (i := 0) rfl
  have u1 := U.out.cell (i := 1) rfl
  have u2 := U.out.cell (i := 2) rfl
  try simp only at x0 x1 x2 y0 y1 y2 z0 z1 z2 u0 u1 u2
  go_wp2_with fail
  clear x0 x1 x2 y0 y1 y2 z0 z1 z2 u0 u1 u2
  generalize w6.alloc (.cells #[.int .i64 0, .int .i64 0, .string ⟨#[]⟩] 25) = w7 at *
  have hlx := X.out.lt
  have hly := Y.out.lt
  have hbb := Below.refl w7.heap.size w7
  have hle : w7.heap.size ≤ w7.heap.size := Nat.le_refl _
  have x0 := X.out.cell (i := 0) rfl
  have x1 := X.out.cell (i := 1) rfl
  have x2 := X.out.cell (i := 2) rfl
  have y0 := Y.out.cell (i := 0) rfl
  have y1 := Y.out.cell (i := 1) rfl
  have y2 := Y.out.cell (i := 2) rfl
  try simp only at x0 x1 x2 y0 y1 y2
  go_region_held3 (fun w' => w'.cell? ⟨w.heap.size, 0, none⟩ = some (.int .i64 k) ∧ w'.cell? ⟨w.heap.size, 1, none⟩ = some (.int .i64 n) ∧ w'.cell? ⟨w.heap.size, 2, none⟩ = some (.string s) ∧ w'.cell? ⟨w.heap.size + 1, 0, none⟩ = some (.int .i64 k') ∧ w'.cell? ⟨w.heap.size + 1, 1, none⟩ = some (.int .i64 n') ∧ w'.cell? ⟨w.heap.size + 1, 2, none⟩ = some (.string s'))
    (first
      | exact ⟨(X.out.below hbb hlx).cell rfl, (X.out.below hbb hlx).cell rfl, (X.out.below hbb hlx).cell rfl, (Y.out.below hbb hly).cell rfl, (Y.out.below hbb hly).cell rfl, (Y.out.below hbb hly).cell rfl⟩
      | go_keep)
    (first
      | (go_at_call 19
         refine (C1.out _).mono ?_
         rintro e wy ⟨rfl, hb⟩
         replace hbb := (by first | exact below_step hbb hb hle | exact below_step' hbb hb hle)
         clear hb)
      | (go_at_call 20
         refine (C2.out _).mono ?_
         rintro e wy ⟨rfl, hb⟩
         replace hbb := (by first | exact below_step hbb hb hle | exact below_step' hbb hb hle)
         clear hb))
  all_goals
    go_wp2_with fail
    go_ret
    exact ⟨by simp, B.out.trans (hbb.mono B.out.size)⟩

set_option maxHeartbeats 4000000 in
theorem exact_big (k n k' n' : Int) (s s' t : ByteArray) (w : World) (h : (t.size : Int) > 100 ∨ (¬ (t.size : Int) > 100 ∧ (s.size : Int) > 100) ∨ (¬ (t.size : Int) > 100 ∧ ¬ (s.size : Int) > 100 ∧ (s'.size : Int) > 100)) :
    Calls Try.prog 5 #[(.agg #[.int .i64 k, .int .i64 n, .string s]), (.agg #[.int .i64 k', .int .i64 n', .string s']), .string t] w fun e w' => e = .returned (.bool true) ∧ Below w.heap.size w w' := by
  have hX : Row ((w.alloc (.cells #[.int .i64 k, .int .i64 n, .string s] 25)).alloc (.cells #[.int .i64 k', .int .i64 n', .string s'] 25)) w.heap.size 25 [.int .i64 k, .int .i64 n, .string s] := (new_at rfl : Row (w.alloc (.cells #[.int .i64 k, .int .i64 n, .string s] 25)) w.heap.size 25 [.int .i64 k, .int .i64 n, .string s]).alloc _
  have hY : Row ((w.alloc (.cells #[.int .i64 k, .int .i64 n, .string s] 25)).alloc (.cells #[.int .i64 k', .int .i64 n', .string s'] 25)) (w.heap.size + 1) 25 [.int .i64 k', .int .i64 n', .string s'] := new_at (by simp)
  have hb : Below w.heap.size w ((w.alloc (.cells #[.int .i64 k, .int .i64 n, .string s] 25)).alloc (.cells #[.int .i64 k', .int .i64 n', .string s'] 25)) := ((Below.refl _ _).alloc (Nat.le_refl _) _).alloc (by simp) _
  have AW := Lib.hid awake_calls
  have X := Lib.hid hX
  have Y := Lib.hid hY
  have B := Lib.hid hb
  clear hX hY hb
  rcases h with h | ⟨h, h'⟩ | ⟨h, h', h''⟩
  all_goals
    go_enter Try.func5, Try.ntmps5
    go_wp2_with fail
    refine (AW.out _).mono ?_
    rintro e w1 ⟨rfl, h1⟩
    replace X := Lib.hid (X.out.below h1 X.out.lt)
    replace Y := Lib.hid (Y.out.below h1 Y.out.lt)
    replace B := Lib.hid (B.out.trans (h1.mono B.out.size))
    clear h1
    have x0 := X.out.cell (i := 0) rfl
    have x1 := X.out.cell (i := 1) rfl
    have x2 := X.out.cell (i := 2) rfl
    have y0 := Y.out.cell (i := 0) rfl
    have y1 := Y.out.cell (i := 1) rfl
    have y2 := Y.out.cell (i := 2) rfl
    try simp only at x0 x1 x2 y0 y1 y2
    go_wp2_with fail
    go_ret
    exact ⟨rfl, B.out⟩

theorem exact_calls (v u : V) (t : ByteArray) (w : World) (fv : v.fits) (fu : u.fits) (ht : t.size ≤ 140737488351232) : Calls Try.prog 5 #[v.val, u.val, .string t] w fun e w' => e = .returned (.bool true) ∧ Below w.heap.size w w' := by
  by_cases hsz : t.size ≤ 100 ∧ v.s.size ≤ 100 ∧ u.s.size ≤ 100
  · obtain ⟨h1, h2, h3⟩ := hsz
    have rg := refgood_calls v
    have cv := fun w => code_calls v w fv
    have gv := good_calls v
    have rs := fun w => read_calls t w (by omega)
    have rr := fun w => refread_calls t w (by omega)
    have c1 := compare_calls v u
    have c2 := refcompare_calls v u
    by_cases hg : v.good = true
    · have rc := fun w => refcode_calls v hg fv w
      have ov : codeOut v = (v.code, 0) := by unfold codeOut; rw [if_pos hg]
      rw [hg] at rg gv
      rw [ov] at cv
      cases hr : readV t.data.toList with
      | none =>
        rw [readOut_none hr] at rs
        rw [refreadOut_none hr] at rr
        exact exact_gn _ _ _ _ _ _ _ _ _ w rg cv gv rs rr c1 c2 rc h1 h2 h3
      | some x =>
        rw [readOut_some hr] at rs
        rw [refreadOut_some hr] at rr
        exact exact_gi _ _ _ _ _ _ _ _ _ _ _ _ w rg cv gv rs rr c1 c2 rc h1 h2 h3
    · rw [Bool.not_eq_true] at hg
      have ov : codeOut v = ([], 1) := by unfold codeOut; rw [hg]; rfl
      rw [hg] at rg gv
      rw [ov] at cv
      cases hr : readV t.data.toList with
      | none =>
        rw [readOut_none hr] at rs
        rw [refreadOut_none hr] at rr
        exact exact_bn _ _ _ _ _ _ _ _ w rg cv gv rs rr c1 c2 h1 h2 h3
      | some x =>
        rw [readOut_some hr] at rs
        rw [refreadOut_some hr] at rr
        exact exact_bi _ _ _ _ _ _ _ _ _ _ _ w rg cv gv rs rr c1 c2 h1 h2 h3
  · exact exact_big _ _ _ _ _ _ _ w (by omega)
theorem exact_row (cs : List Value) (y : Int × Int × ByteArray × Unit) (ds : List Value) (z : Int × Int × ByteArray × Unit) (t : ByteArray) (W : World) (h : (Cod.pair (Cod.int .i64) (Cod.pair (Cod.int .i64) (Cod.pair Cod.str Cod.unit))).R W cs y) (h2 : (Cod.pair (Cod.int .i64) (Cod.pair (Cod.int .i64) (Cod.pair Cod.str Cod.unit))).R W ds z) (ht : t.size ≤ 140737488351232) :
    Calls Try.prog 5 #[.agg cs.toArray, .agg ds.toArray, .string t] W fun e w' => e = .returned (.bool true) ∧ Below W.heap.size W w' := by
  obtain ⟨v, rfl, fv, _⟩ := val_of h
  obtain ⟨u, rfl, fu, _⟩ := val_of h2
  exact exact_calls v u t W fv fu ht
end Go.Proofs.Ytdnkgnlkipaboaa.Sign
