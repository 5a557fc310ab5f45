/- The law NodeExact. Printed by node_exact.py -/
import Derived.Test.YtebmalmciakhcaaNodeLawL
import Derived.Test.YtebmalmciakhcaaNodeRefR
import Derived.Test.YtebmalmciakhcaaNodeSame
namespace Go.Proofs.Ytebmalmciakhcaa.Node
open Go.RowKit Go.Proofs.Ytebmalmciakhcaa.Mem Go.Proofs.Ytebmalmciakhcaa.Bytes Go.Proofs.Ytebmalmciakhcaa.Ord
set_option linter.unusedSimpArgs false
set_option linter.unusedVariables false

set_option maxHeartbeats 8000000 in
set_option maxRecDepth 8000 in
theorem exact_fits (t l st : Int) (h : Bool) (hi : ByteArray) (r : Int) (es : List Ent) (a : Option Addr) (cap : Nat) (s T : ByteArray) (Z : Nat) (w : World) (hs : s.size ≤ 140737488351232) (hZ : Z ≤ 252)
    (hGR : ∀ w1, Below w.heap.size w w1 → Calls Try.prog 9 #[.agg #[.int .i64 t, .int .i64 l, .int .i64 st, .bool h, .string hi, .int .i64 r, .slice a es.length cap]] w1 fun e w' => GreatPost ⟨t, l, st, h, hi, r, es⟩ e ∧ Below w1.heap.size w1 w')
    (hRG : ∀ w1, Small ⟨t, l, st, h, hi, r, es⟩ → Below w.heap.size w w1 → Calls Try.prog 10 #[.agg #[.int .i64 t, .int .i64 l, .int .i64 st, .bool h, .string hi, .int .i64 r, .slice a es.length cap]] w1 fun e w' => e = .returned (.bool true) ∧ Below w1.heap.size w1 w')
    (hRS : ∀ w1, Small ⟨t, l, st, h, hi, r, es⟩ → Below w.heap.size w w1 → Calls Try.prog 11 #[.agg #[.int .i64 t, .int .i64 l, .int .i64 st, .bool h, .string hi, .int .i64 r, .slice a es.length cap]] w1 fun e w' => e = .returned (.int .i64 (Z : Int)) ∧ Below w1.heap.size w1 w')
    (hS : ∀ w1, Small ⟨t, l, st, h, hi, r, es⟩ → Below w.heap.size w w1 → Calls Try.prog 15 #[.agg #[.int .i64 t, .int .i64 l, .int .i64 st, .bool h, .string hi, .int .i64 r, .slice a es.length cap]] w1 fun e w' => e = .returned (.int .i64 (Z : Int)) ∧ Below w1.heap.size w1 w')
    (hB : ∀ w1, Below w.heap.size w w1 → Calls Try.prog 12 #[.agg #[.int .i64 t, .int .i64 l, .int .i64 st, .bool h, .string hi, .int .i64 r, .slice a es.length cap]] w1 fun e w' => e = .returned (.tuple #[(.string T), .int .i64 0]) ∧ Below w1.heap.size w1 w')
    (hG : ∀ w1, Below w.heap.size w w1 → Calls Try.prog 13 #[.agg #[.int .i64 t, .int .i64 l, .int .i64 st, .bool h, .string hi, .int .i64 r, .slice a es.length cap]] w1 fun e w' => e = .returned (.bool true) ∧ Below w1.heap.size w1 w')
    (hF : ∀ w1, Below w.heap.size w w1 → Calls Try.prog 14 #[.agg #[.int .i64 t, .int .i64 l, .int .i64 st, .bool h, .string hi, .int .i64 r, .slice a es.length cap]] w1 fun e w' => e = .returned (.bool true) ∧ Below w1.heap.size w1 w')
    (hRB : ∀ w1, Below w.heap.size w w1 → Calls Try.prog 16 #[.agg #[.int .i64 t, .int .i64 l, .int .i64 st, .bool h, .string hi, .int .i64 r, .slice a es.length cap]] w1 fun e w' => e = .returned (.string T) ∧ Below w1.heap.size w1 w') :
    Calls Try.prog 3 #[.agg #[.int .i64 t, .int .i64 l, .int .i64 st, .bool h, .string hi, .int .i64 r, .slice a es.length cap], .string s] w fun e w' => e = .returned (.bool true) ∧ Below w.heap.size w w' := by
  have hX : Row (w.alloc (.cells #[.int .i64 t, .int .i64 l, .int .i64 st, .bool h, .string hi, .int .i64 r, .slice a es.length cap] 24)) w.heap.size 24 [.int .i64 t, .int .i64 l, .int .i64 st, .bool h, .string hi, .int .i64 r, .slice a es.length cap] := new_at rfl
  have hb : Below w.heap.size w (w.alloc (.cells #[.int .i64 t, .int .i64 l, .int .i64 st, .bool h, .string hi, .int .i64 r, .slice a es.length cap] 24)) := (Below.refl _ _).alloc (Nat.le_refl _) _
  have X := Lib.hid hX
  have B := Lib.hid hb
  have AW := Lib.hid awake_calls
  have GR := Lib.hid hGR
  have RG := Lib.hid hRG
  have RS := Lib.hid hRS
  have SZ := Lib.hid hS
  have BY := Lib.hid hB
  have GD := Lib.hid hG
  have FT := Lib.hid hF
  have RB := Lib.hid hRB
  clear hX hb hGR hRG hRS hS hB hG hF hRB
  go_enter Try.func3, Try.ntmps3
  go_wp2_with fail
  refine (AW.out _).mono ?_
  rintro e wz ⟨rfl, k⟩
  replace X := Lib.hid (X.out.below k X.out.lt)
  replace B := Lib.hid (B.out.trans (k.mono B.out.size))
  clear k
  have x0 := X.out.cell (i := 0) rfl
  have x1 := X.out.cell (i := 1) rfl
  have x2 := X.out.cell (i := 2) rfl
  have x3 := X.out.cell (i := 3) rfl
  have x4 := X.out.cell (i := 4) rfl
  have x5 := X.out.cell (i := 5) rfl
  have x6 := X.out.cell (i := 6) rfl
  go_wp2_with fail
  clear x0 x1 x2 x3 x4 x5 x6
  refine (GR.out _ B.out).mono ?_
  rintro e wz ⟨⟨bb, rfl, hsm⟩, k⟩
  replace X := Lib.hid (X.out.below k X.out.lt)
  replace B := Lib.hid (B.out.trans (k.mono B.out.size))
  clear k
  cases bb
  rotate_left 1
  · go_wp2_with fail
    go_ret
    exact ⟨rfl, B.out⟩
  by_cases hbig : (s.size : Int) > 512
  · go_wp2_with fail
    go_ret
    exact ⟨rfl, B.out⟩
  have SM := Lib.hid (hsm rfl)
  clear hsm
  have x0 := X.out.cell (i := 0) rfl
  have x1 := X.out.cell (i := 1) rfl
  have x2 := X.out.cell (i := 2) rfl
  have x3 := X.out.cell (i := 3) rfl
  have x4 := X.out.cell (i := 4) rfl
  have x5 := X.out.cell (i := 5) rfl
  have x6 := X.out.cell (i := 6) rfl
  go_wp2_with fail
  clear x0 x1 x2 x3 x4 x5 x6
  refine (RG.out _ SM.out B.out).mono ?_
  rintro e wz ⟨rfl, k⟩
  replace X := Lib.hid (X.out.below k X.out.lt)
  replace B := Lib.hid (B.out.trans (k.mono B.out.size))
  clear k
  have z252 : (Z : Int) ≤ 252 := by omega
  have x0 := X.out.cell (i := 0) rfl
  have x1 := X.out.cell (i := 1) rfl
  have x2 := X.out.cell (i := 2) rfl
  have x3 := X.out.cell (i := 3) rfl
  have x4 := X.out.cell (i := 4) rfl
  have x5 := X.out.cell (i := 5) rfl
  have x6 := X.out.cell (i := 6) rfl
  go_wp2_with fail
  clear x0 x1 x2 x3 x4 x5 x6
  refine (RS.out _ SM.out B.out).mono ?_
  rintro e wz ⟨rfl, k⟩
  replace X := Lib.hid (X.out.below k X.out.lt)
  replace B := Lib.hid (B.out.trans (k.mono B.out.size))
  clear k
  have x0 := X.out.cell (i := 0) rfl
  have x1 := X.out.cell (i := 1) rfl
  have x2 := X.out.cell (i := 2) rfl
  have x3 := X.out.cell (i := 3) rfl
  have x4 := X.out.cell (i := 4) rfl
  have x5 := X.out.cell (i := 5) rfl
  have x6 := X.out.cell (i := 6) rfl
  go_wp2_with fail
  clear x0 x1 x2 x3 x4 x5 x6
  refine (BY.out _ B.out).mono ?_
  rintro e wz ⟨rfl, k⟩
  replace X := Lib.hid (X.out.below k X.out.lt)
  replace B := Lib.hid (B.out.trans (k.mono B.out.size))
  clear k
  go_wp2_with fail
  have X := Lib.hid X.out.drew
  have B := Lib.hid B.out.drew
  refine Reg.start (fun w' => w'.cell? ⟨w.heap.size, 0, none⟩ = some (.int .i64 t) ∧ w'.cell? ⟨w.heap.size, 1, none⟩ = some (.int .i64 l) ∧ w'.cell? ⟨w.heap.size, 2, none⟩ = some (.int .i64 st) ∧ w'.cell? ⟨w.heap.size, 3, none⟩ = some (.bool h) ∧ w'.cell? ⟨w.heap.size, 4, none⟩ = some (.string hi) ∧ w'.cell? ⟨w.heap.size, 5, none⟩ = some (.int .i64 r) ∧ w'.cell? ⟨w.heap.size, 6, none⟩ = some (.slice a es.length cap)) (fun i => false) (by kernel_rfl) ⟨X.out.cell rfl, X.out.cell rfl, X.out.cell rfl, X.out.cell rfl, X.out.cell rfl, X.out.cell rfl, X.out.cell rfl⟩ (fun hHeld => ?_)
  generalize wz.drew = wd at *
  refine Reg.takeI 0 (v := ?_) rfl (by kernel_rfl) (by kernel_rfl) (by kernel_rfl) (by kernel_rfl) (fun _ _ _ h => h) (by rfl) ?_ hHeld ?_
  rotate_left 1
  · (intro w hSw; (try dsimp only at hSw); go_simp; try with_reducible rfl)
  try simp only [Act.put, List.setIfInBounds_toArray, List.set_cons_zero, List.set_cons_succ]
  refine Reg.takeI 2 (v := ?_) rfl (by kernel_rfl) (by kernel_rfl) (by kernel_rfl) (by kernel_rfl) (fun _ _ _ h => h) (by rfl) ?_ hHeld ?_
  rotate_left 1
  · (intro w hSw; (try dsimp only at hSw); go_simp; try with_reducible rfl)
  try simp only [Act.put, List.setIfInBounds_toArray, List.set_cons_zero, List.set_cons_succ]
  refine Reg.oneI 1 rfl (by kernel_rfl) (by rfl) (fun K hK => ?_)
  go_simp
  go_at_call 13
  refine (GD.out _ B.out).mono ?_
  rintro e wz1 ⟨rfl, k⟩
  replace X := Lib.hid (X.out.below k X.out.lt)
  replace B := Lib.hid (B.out.trans (k.mono B.out.size))
  clear k
  go_wp2_with fail
  refine hK.out _ _ (fun _ => ⟨X.out.cell rfl, X.out.cell rfl, X.out.cell rfl, X.out.cell rfl, X.out.cell rfl, X.out.cell rfl, X.out.cell rfl⟩) (fun hHeld => ?_)
  replace hHeld := hHeld (by first | rfl | trivial)
  clear hK K
  try simp only [Act.put, List.setIfInBounds_toArray, List.set_cons_zero, List.set_cons_succ]
  refine Reg.takeI 3 (v := ?_) rfl (by kernel_rfl) (by kernel_rfl) (by kernel_rfl) (by kernel_rfl) (fun _ _ _ h => h) (by rfl) ?_ hHeld ?_
  rotate_left 1
  · (intro w hSw; (try dsimp only at hSw); go_simp; try with_reducible rfl)
  try simp only [Act.put, List.setIfInBounds_toArray, List.set_cons_zero, List.set_cons_succ]
  refine Reg.takeI 4 (v := ?_) rfl (by kernel_rfl) (by kernel_rfl) (by kernel_rfl) (by kernel_rfl) (fun _ _ _ h => h) (by rfl) ?_ hHeld ?_
  rotate_left 1
  · (intro w hSw; (try dsimp only at hSw); go_simp; try with_reducible rfl)
  try simp only [Act.put, List.setIfInBounds_toArray, List.set_cons_zero, List.set_cons_succ]
  refine Reg.takeI 5 (v := ?_) rfl (by kernel_rfl) (by kernel_rfl) (by kernel_rfl) (by kernel_rfl) (fun _ _ _ h => h) (by rfl) ?_ hHeld ?_
  rotate_left 1
  · (intro w hSw; (try dsimp only at hSw); go_simp; try with_reducible rfl)
  try simp only [Act.put, List.setIfInBounds_toArray, List.set_cons_zero, List.set_cons_succ]
  refine Reg.takeI 7 (v := ?_) rfl (by kernel_rfl) (by kernel_rfl) (by kernel_rfl) (by kernel_rfl) (fun _ _ _ h => h) (by rfl) ?_ hHeld ?_
  rotate_left 1
  · (intro w hSw; (try dsimp only at hSw); go_simp; try with_reducible rfl)
  try simp only [Act.put, List.setIfInBounds_toArray, List.set_cons_zero, List.set_cons_succ]
  refine Reg.oneI 6 rfl (by kernel_rfl) (by rfl) (fun K hK => ?_)
  go_simp
  go_at_call 14
  refine (FT.out _ B.out).mono ?_
  rintro e wz6 ⟨rfl, k⟩
  replace X := Lib.hid (X.out.below k X.out.lt)
  replace B := Lib.hid (B.out.trans (k.mono B.out.size))
  clear k
  go_wp2_with fail
  refine hK.out _ _ (fun _ => ⟨X.out.cell rfl, X.out.cell rfl, X.out.cell rfl, X.out.cell rfl, X.out.cell rfl, X.out.cell rfl, X.out.cell rfl⟩) (fun hHeld => ?_)
  replace hHeld := hHeld (by first | rfl | trivial)
  clear hK K
  try simp only [Act.put, List.setIfInBounds_toArray, List.set_cons_zero, List.set_cons_succ]
  refine Reg.takeI 8 (v := ?_) rfl (by kernel_rfl) (by kernel_rfl) (by kernel_rfl) (by kernel_rfl) (fun _ _ _ h => h) (by rfl) ?_ hHeld ?_
  rotate_left 1
  · (intro w hSw; (try dsimp only at hSw); go_simp; try with_reducible rfl)
  try simp only [Act.put, List.setIfInBounds_toArray, List.set_cons_zero, List.set_cons_succ]
  refine Reg.takeI 9 (v := ?_) rfl (by kernel_rfl) (by kernel_rfl) (by kernel_rfl) (by kernel_rfl) (fun _ _ _ h => h) (by rfl) ?_ hHeld ?_
  rotate_left 1
  · (intro w hSw; (try dsimp only at hSw); go_simp; try with_reducible rfl)
  try simp only [Act.put, List.setIfInBounds_toArray, List.set_cons_zero, List.set_cons_succ]
  refine Reg.takeI 10 (v := ?_) rfl (by kernel_rfl) (by kernel_rfl) (by kernel_rfl) (by kernel_rfl) (fun _ _ _ h => h) (by rfl) ?_ hHeld ?_
  rotate_left 1
  · (intro w hSw; (try dsimp only at hSw); go_simp; try with_reducible rfl)
  try simp only [Act.put, List.setIfInBounds_toArray, List.set_cons_zero, List.set_cons_succ]
  refine Reg.takeI 11 (v := ?_) rfl (by kernel_rfl) (by kernel_rfl) (by kernel_rfl) (by kernel_rfl) (fun _ _ _ h => h) (by rfl) ?_ hHeld ?_
  rotate_left 1
  · (intro w hSw; (try dsimp only at hSw); go_simp; try with_reducible rfl)
  try simp only [Act.put, List.setIfInBounds_toArray, List.set_cons_zero, List.set_cons_succ]
  refine Reg.takeI 13 (v := ?_) rfl (by kernel_rfl) (by kernel_rfl) (by kernel_rfl) (by kernel_rfl) (fun _ _ _ h => h) (by rfl) ?_ hHeld ?_
  rotate_left 1
  · (intro w hSw; (try dsimp only at hSw); go_simp; try with_reducible rfl)
  try simp only [Act.put, List.setIfInBounds_toArray, List.set_cons_zero, List.set_cons_succ]
  refine Reg.oneI 12 rfl (by kernel_rfl) (by rfl) (fun K hK => ?_)
  go_simp
  go_at_call 15
  refine (SZ.out _ SM.out B.out).mono ?_
  rintro e wz12 ⟨rfl, k⟩
  replace X := Lib.hid (X.out.below k X.out.lt)
  replace B := Lib.hid (B.out.trans (k.mono B.out.size))
  clear k
  go_wp2_with fail
  refine hK.out _ _ (fun _ => ⟨X.out.cell rfl, X.out.cell rfl, X.out.cell rfl, X.out.cell rfl, X.out.cell rfl, X.out.cell rfl, X.out.cell rfl⟩) (fun hHeld => ?_)
  replace hHeld := hHeld (by first | rfl | trivial)
  clear hK K
  try simp only [Act.put, List.setIfInBounds_toArray, List.set_cons_zero, List.set_cons_succ]
  refine Reg.oneI 14 rfl (by kernel_rfl) (by rfl) (fun K hK => ?_)
  go_simp
  go_at_call 11
  refine (RS.out _ SM.out B.out).mono ?_
  rintro e wz14 ⟨rfl, k⟩
  replace X := Lib.hid (X.out.below k X.out.lt)
  replace B := Lib.hid (B.out.trans (k.mono B.out.size))
  clear k
  go_wp2_with fail
  refine hK.out _ _ (fun _ => ⟨X.out.cell rfl, X.out.cell rfl, X.out.cell rfl, X.out.cell rfl, X.out.cell rfl, X.out.cell rfl, X.out.cell rfl⟩) (fun hHeld => ?_)
  replace hHeld := hHeld (by first | rfl | trivial)
  clear hK K
  try simp only [Act.put, List.setIfInBounds_toArray, List.set_cons_zero, List.set_cons_succ]
  refine Reg.takeI 15 (v := ?_) rfl (by kernel_rfl) (by kernel_rfl) (by kernel_rfl) (by kernel_rfl) (fun _ _ _ h => h) (by rfl) ?_ hHeld ?_
  rotate_left 1
  · (intro w hSw; (try dsimp only at hSw); go_simp; try with_reducible rfl)
  try simp only [Act.put, List.setIfInBounds_toArray, List.set_cons_zero, List.set_cons_succ]
  refine Reg.takeI 16 (v := ?_) rfl (by kernel_rfl) (by kernel_rfl) (by kernel_rfl) (by kernel_rfl) (fun _ _ _ h => h) (by rfl) ?_ hHeld ?_
  rotate_left 1
  · (intro w hSw; (try dsimp only at hSw); go_simp; try with_reducible rfl)
  try simp only [Act.put, List.setIfInBounds_toArray, List.set_cons_zero, List.set_cons_succ]
  refine Reg.doneI (by kernel_rfl) ?_
  have x0 := X.out.cell (i := 0) rfl
  have x1 := X.out.cell (i := 1) rfl
  have x2 := X.out.cell (i := 2) rfl
  have x3 := X.out.cell (i := 3) rfl
  have x4 := X.out.cell (i := 4) rfl
  have x5 := X.out.cell (i := 5) rfl
  have x6 := X.out.cell (i := 6) rfl
  go_wp2_with fail
  clear x0 x1 x2 x3 x4 x5 x6
  refine (RB.out _ B.out).mono ?_
  rintro e wz ⟨rfl, k⟩
  replace X := Lib.hid (X.out.below k X.out.lt)
  replace B := Lib.hid (B.out.trans (k.mono B.out.size))
  clear k
  have RC := Lib.hid (fun w1 => read_calls s w1 (by omega))
  have RR := Lib.hid (fun w1 => refread_calls s w1 (by omega))
  cases hr : nRead s.data.toList with
  | none =>
    rw [hr] at RC RR
    clear hr
    go_wp2_with fail
    refine (RC.out _).mono ?_
    rintro e w5 ⟨rfl, k⟩
    have Y := Lib.hid (new_at rfl : Row (w5.alloc (.cells #[.int .i64 0, .int .i64 0, .int .i64 0, .bool false, .string ⟨#[]⟩, .int .i64 0, .slice none 0 0] 24)) w5.heap.size 24 [.int .i64 0, .int .i64 0, .int .i64 0, .bool false, .string ⟨#[]⟩, .int .i64 0, .slice none 0 0])
    have B5 := B.out.trans (k.mono B.out.size)
    have B := Lib.hid (B5.alloc B5.size (.cells #[.int .i64 0, .int .i64 0, .int .i64 0, .bool false, .string ⟨#[]⟩, .int .i64 0, .slice none 0 0] 24))
    clear k B5
    go_wp2_with fail
    refine (RR.out _).mono ?_
    rintro e w6 ⟨rfl, k⟩
    have Y := Lib.hid ((Y.out.below k Y.out.lt).alloc (.cells #[.int .i64 0, .int .i64 0, .int .i64 0, .bool false, .string ⟨#[]⟩, .int .i64 0, .slice none 0 0] 24))
    have B6 := B.out.trans (k.mono B.out.size)
    have B := Lib.hid (B6.alloc B6.size (.cells #[.int .i64 0, .int .i64 0, .int .i64 0, .bool false, .string ⟨#[]⟩, .int .i64 0, .slice none 0 0] 24))
    clear k B6
    have SC := Lib.hid (fun w1 => refsame_calls noN noN none none 0 0 w1 (Es.nil _ _) (Es.nil _ _) (Nat.zero_le _) (Nat.zero_le _))
    rw [same_self] at SC
    replace SC : RowKit.Hid (∀ w1, Calls Try.prog 19 #[.agg #[.int .i64 0, .int .i64 0, .int .i64 0, .bool false, .string ⟨#[]⟩, .int .i64 0, .slice none 0 0], .agg #[.int .i64 0, .int .i64 0, .int .i64 0, .bool false, .string ⟨#[]⟩, .int .i64 0, .slice none 0 0]] w1 fun e w' => e = .returned (.bool true) ∧ Below w1.heap.size w1 w') := SC
    have y0 := Y.out.cell (i := 0) rfl
    have y1 := Y.out.cell (i := 1) rfl
    have y2 := Y.out.cell (i := 2) rfl
    have y3 := Y.out.cell (i := 3) rfl
    have y4 := Y.out.cell (i := 4) rfl
    have y5 := Y.out.cell (i := 5) rfl
    have y6 := Y.out.cell (i := 6) rfl
    go_wp2_with fail
    refine (SC.out _).mono ?_
    rintro e w7 ⟨rfl, k⟩
    have B := Lib.hid (B.out.trans (k.mono B.out.size))
    clear k y0 y1 y2 y3 y4 y5 y6
    go_wp2_with fail
    go_ret
    exact ⟨rfl, B.out⟩
  | some m =>
    rw [hr] at RC RR
    have LEN := Lib.hid (show m.list.length ≤ 9223372036854775807 from by have := (good_nums (fits_good ((nRead_iff _ _).1 hr).1).1).2.2.2.2.1; omega)
    clear hr
    obtain ⟨t2, l2, st2, h2, hi2, r2, es2⟩ := m
    go_wp2_with fail
    refine (RC.out _).mono ?_
    rintro e w5 ⟨a1, c1, rfl, hE1, k⟩
    show _
    have Y := Lib.hid (new_at rfl : Row (w5.alloc (.cells #[.int .i64 t2, .int .i64 l2, .int .i64 st2, .bool h2, .string hi2, .int .i64 r2, .slice a1 es2.length c1] 24)) w5.heap.size 24 [.int .i64 t2, .int .i64 l2, .int .i64 st2, .bool h2, .string hi2, .int .i64 r2, .slice a1 es2.length c1])
    have B5 := B.out.trans (k.mono B.out.size)
    have B := Lib.hid (B5.alloc B5.size (.cells #[.int .i64 t2, .int .i64 l2, .int .i64 st2, .bool h2, .string hi2, .int .i64 r2, .slice a1 es2.length c1] 24))
    have E1 := Lib.hid (hE1.keep ((Below.refl _ _).alloc (Nat.le_refl _) (.cells #[.int .i64 t2, .int .i64 l2, .int .i64 st2, .bool h2, .string hi2, .int .i64 r2, .slice a1 es2.length c1] 24)))
    have hv1 : (Value.agg (Nd.cells ⟨t2, l2, st2, h2, hi2, r2, es2⟩ (.slice a1 es2.length c1)).toArray) = .agg #[.int .i64 t2, .int .i64 l2, .int .i64 st2, .bool h2, .string hi2, .int .i64 r2, .slice a1 es2.length c1] := rfl
    simp only [hv1]
    clear k B5 hE1 hv1
    go_wp2_with fail
    refine (RR.out _).mono ?_
    rintro e w6 ⟨a2, c2, rfl, hE2, k⟩
    have Y := Lib.hid ((Y.out.below k Y.out.lt).alloc (.cells #[.int .i64 t2, .int .i64 l2, .int .i64 st2, .bool h2, .string hi2, .int .i64 r2, .slice a2 es2.length c2] 24))
    have V := Lib.hid (new_at rfl : Row (w6.alloc (.cells #[.int .i64 t2, .int .i64 l2, .int .i64 st2, .bool h2, .string hi2, .int .i64 r2, .slice a2 es2.length c2] 24)) w6.heap.size 24 [.int .i64 t2, .int .i64 l2, .int .i64 st2, .bool h2, .string hi2, .int .i64 r2, .slice a2 es2.length c2])
    have B6 := B.out.trans (k.mono B.out.size)
    have B := Lib.hid (B6.alloc B6.size (.cells #[.int .i64 t2, .int .i64 l2, .int .i64 st2, .bool h2, .string hi2, .int .i64 r2, .slice a2 es2.length c2] 24))
    have E2 := Lib.hid (hE2.keep ((Below.refl _ _).alloc (Nat.le_refl _) (.cells #[.int .i64 t2, .int .i64 l2, .int .i64 st2, .bool h2, .string hi2, .int .i64 r2, .slice a2 es2.length c2] 24)))
    have E1 := Lib.hid ((E1.out.keep k).keep ((Below.refl _ _).alloc (Nat.le_refl _) (.cells #[.int .i64 t2, .int .i64 l2, .int .i64 st2, .bool h2, .string hi2, .int .i64 r2, .slice a2 es2.length c2] 24)))
    have hv2 : (Value.agg (Nd.cells ⟨t2, l2, st2, h2, hi2, r2, es2⟩ (.slice a2 es2.length c2)).toArray) = .agg #[.int .i64 t2, .int .i64 l2, .int .i64 st2, .bool h2, .string hi2, .int .i64 r2, .slice a2 es2.length c2] := rfl
    simp only [hv2]
    clear k B6 hE2 hv2
    have hle : es2.length ≤ 9223372036854775807 := LEN.out
    have SC := Lib.hid (refsame_calls ⟨t2, l2, st2, h2, hi2, r2, es2⟩ ⟨t2, l2, st2, h2, hi2, r2, es2⟩ a1 a2 c1 c2 _ E1.out E2.out hle hle)
    rw [same_self] at SC
    clear hle
    have y0 := Y.out.cell (i := 0) rfl
    have v0 := V.out.cell (i := 0) rfl
    have y1 := Y.out.cell (i := 1) rfl
    have v1 := V.out.cell (i := 1) rfl
    have y2 := Y.out.cell (i := 2) rfl
    have v2 := V.out.cell (i := 2) rfl
    have y3 := Y.out.cell (i := 3) rfl
    have v3 := V.out.cell (i := 3) rfl
    have y4 := Y.out.cell (i := 4) rfl
    have v4 := V.out.cell (i := 4) rfl
    have y5 := Y.out.cell (i := 5) rfl
    have v5 := V.out.cell (i := 5) rfl
    have y6 := Y.out.cell (i := 6) rfl
    have v6 := V.out.cell (i := 6) rfl
    go_wp2_with fail
    refine SC.out.mono ?_
    rintro e w7 ⟨rfl, k⟩
    have B := Lib.hid (B.out.trans (k.mono B.out.size))
    clear k y0 y1 y2 y3 y4 y5 y6 v0 v1 v2 v3 v4 v5 v6
    go_wp2_with fail
    go_ret
    exact ⟨rfl, B.out⟩

set_option maxHeartbeats 8000000 in
set_option maxRecDepth 8000 in
theorem exact_full (t l st : Int) (h : Bool) (hi : ByteArray) (r : Int) (es : List Ent) (a : Option Addr) (cap : Nat) (s T : ByteArray) (Z : Nat) (w : World) (hs : s.size ≤ 140737488351232) (hZ : ¬ Z ≤ 252)
    (hGR : ∀ w1, Below w.heap.size w w1 → Calls Try.prog 9 #[.agg #[.int .i64 t, .int .i64 l, .int .i64 st, .bool h, .string hi, .int .i64 r, .slice a es.length cap]] w1 fun e w' => GreatPost ⟨t, l, st, h, hi, r, es⟩ e ∧ Below w1.heap.size w1 w')
    (hRG : ∀ w1, Small ⟨t, l, st, h, hi, r, es⟩ → Below w.heap.size w w1 → Calls Try.prog 10 #[.agg #[.int .i64 t, .int .i64 l, .int .i64 st, .bool h, .string hi, .int .i64 r, .slice a es.length cap]] w1 fun e w' => e = .returned (.bool true) ∧ Below w1.heap.size w1 w')
    (hRS : ∀ w1, Small ⟨t, l, st, h, hi, r, es⟩ → Below w.heap.size w w1 → Calls Try.prog 11 #[.agg #[.int .i64 t, .int .i64 l, .int .i64 st, .bool h, .string hi, .int .i64 r, .slice a es.length cap]] w1 fun e w' => e = .returned (.int .i64 (Z : Int)) ∧ Below w1.heap.size w1 w')
    (hS : ∀ w1, Small ⟨t, l, st, h, hi, r, es⟩ → Below w.heap.size w w1 → Calls Try.prog 15 #[.agg #[.int .i64 t, .int .i64 l, .int .i64 st, .bool h, .string hi, .int .i64 r, .slice a es.length cap]] w1 fun e w' => e = .returned (.int .i64 (Z : Int)) ∧ Below w1.heap.size w1 w')
    (hB : ∀ w1, Below w.heap.size w w1 → Calls Try.prog 12 #[.agg #[.int .i64 t, .int .i64 l, .int .i64 st, .bool h, .string hi, .int .i64 r, .slice a es.length cap]] w1 fun e w' => e = .returned (.tuple #[.string ⟨#[]⟩, .int .i64 5]) ∧ Below w1.heap.size w1 w')
    (hG : ∀ w1, Below w.heap.size w w1 → Calls Try.prog 13 #[.agg #[.int .i64 t, .int .i64 l, .int .i64 st, .bool h, .string hi, .int .i64 r, .slice a es.length cap]] w1 fun e w' => e = .returned (.bool true) ∧ Below w1.heap.size w1 w')
    (hF : ∀ w1, Below w.heap.size w w1 → Calls Try.prog 14 #[.agg #[.int .i64 t, .int .i64 l, .int .i64 st, .bool h, .string hi, .int .i64 r, .slice a es.length cap]] w1 fun e w' => e = .returned (.bool false) ∧ Below w1.heap.size w1 w')
    (hRB : True) :
    Calls Try.prog 3 #[.agg #[.int .i64 t, .int .i64 l, .int .i64 st, .bool h, .string hi, .int .i64 r, .slice a es.length cap], .string s] w fun e w' => e = .returned (.bool true) ∧ Below w.heap.size w w' := by
  have hX : Row (w.alloc (.cells #[.int .i64 t, .int .i64 l, .int .i64 st, .bool h, .string hi, .int .i64 r, .slice a es.length cap] 24)) w.heap.size 24 [.int .i64 t, .int .i64 l, .int .i64 st, .bool h, .string hi, .int .i64 r, .slice a es.length cap] := new_at rfl
  have hb : Below w.heap.size w (w.alloc (.cells #[.int .i64 t, .int .i64 l, .int .i64 st, .bool h, .string hi, .int .i64 r, .slice a es.length cap] 24)) := (Below.refl _ _).alloc (Nat.le_refl _) _
  have X := Lib.hid hX
  have B := Lib.hid hb
  have AW := Lib.hid awake_calls
  have GR := Lib.hid hGR
  have RG := Lib.hid hRG
  have RS := Lib.hid hRS
  have SZ := Lib.hid hS
  have BY := Lib.hid hB
  have GD := Lib.hid hG
  have FT := Lib.hid hF
  have RB := Lib.hid hRB
  clear hX hb hGR hRG hRS hS hB hG hF hRB
  go_enter Try.func3, Try.ntmps3
  go_wp2_with fail
  refine (AW.out _).mono ?_
  rintro e wz ⟨rfl, k⟩
  replace X := Lib.hid (X.out.below k X.out.lt)
  replace B := Lib.hid (B.out.trans (k.mono B.out.size))
  clear k
  have x0 := X.out.cell (i := 0) rfl
  have x1 := X.out.cell (i := 1) rfl
  have x2 := X.out.cell (i := 2) rfl
  have x3 := X.out.cell (i := 3) rfl
  have x4 := X.out.cell (i := 4) rfl
  have x5 := X.out.cell (i := 5) rfl
  have x6 := X.out.cell (i := 6) rfl
  go_wp2_with fail
  clear x0 x1 x2 x3 x4 x5 x6
  refine (GR.out _ B.out).mono ?_
  rintro e wz ⟨⟨bb, rfl, hsm⟩, k⟩
  replace X := Lib.hid (X.out.below k X.out.lt)
  replace B := Lib.hid (B.out.trans (k.mono B.out.size))
  clear k
  cases bb
  rotate_left 1
  · go_wp2_with fail
    go_ret
    exact ⟨rfl, B.out⟩
  by_cases hbig : (s.size : Int) > 512
  · go_wp2_with fail
    go_ret
    exact ⟨rfl, B.out⟩
  have SM := Lib.hid (hsm rfl)
  clear hsm
  have x0 := X.out.cell (i := 0) rfl
  have x1 := X.out.cell (i := 1) rfl
  have x2 := X.out.cell (i := 2) rfl
  have x3 := X.out.cell (i := 3) rfl
  have x4 := X.out.cell (i := 4) rfl
  have x5 := X.out.cell (i := 5) rfl
  have x6 := X.out.cell (i := 6) rfl
  go_wp2_with fail
  clear x0 x1 x2 x3 x4 x5 x6
  refine (RG.out _ SM.out B.out).mono ?_
  rintro e wz ⟨rfl, k⟩
  replace X := Lib.hid (X.out.below k X.out.lt)
  replace B := Lib.hid (B.out.trans (k.mono B.out.size))
  clear k
  have z252 : ¬ (Z : Int) ≤ 252 := by omega
  have z252d : decide ((Z : Int) ≤ 252) = false := by simp; omega
  have x0 := X.out.cell (i := 0) rfl
  have x1 := X.out.cell (i := 1) rfl
  have x2 := X.out.cell (i := 2) rfl
  have x3 := X.out.cell (i := 3) rfl
  have x4 := X.out.cell (i := 4) rfl
  have x5 := X.out.cell (i := 5) rfl
  have x6 := X.out.cell (i := 6) rfl
  go_wp2_with fail
  clear x0 x1 x2 x3 x4 x5 x6
  refine (RS.out _ SM.out B.out).mono ?_
  rintro e wz ⟨rfl, k⟩
  replace X := Lib.hid (X.out.below k X.out.lt)
  replace B := Lib.hid (B.out.trans (k.mono B.out.size))
  clear k
  have x0 := X.out.cell (i := 0) rfl
  have x1 := X.out.cell (i := 1) rfl
  have x2 := X.out.cell (i := 2) rfl
  have x3 := X.out.cell (i := 3) rfl
  have x4 := X.out.cell (i := 4) rfl
  have x5 := X.out.cell (i := 5) rfl
  have x6 := X.out.cell (i := 6) rfl
  go_wp2_with fail
  clear x0 x1 x2 x3 x4 x5 x6
  refine (BY.out _ B.out).mono ?_
  rintro e wz ⟨rfl, k⟩
  replace X := Lib.hid (X.out.below k X.out.lt)
  replace B := Lib.hid (B.out.trans (k.mono B.out.size))
  clear k
  go_wp2_with fail
  have X := Lib.hid X.out.drew
  have B := Lib.hid B.out.drew
  refine Reg.start (fun w' => w'.cell? ⟨w.heap.size, 0, none⟩ = some (.int .i64 t) ∧ w'.cell? ⟨w.heap.size, 1, none⟩ = some (.int .i64 l) ∧ w'.cell? ⟨w.heap.size, 2, none⟩ = some (.int .i64 st) ∧ w'.cell? ⟨w.heap.size, 3, none⟩ = some (.bool h) ∧ w'.cell? ⟨w.heap.size, 4, none⟩ = some (.string hi) ∧ w'.cell? ⟨w.heap.size, 5, none⟩ = some (.int .i64 r) ∧ w'.cell? ⟨w.heap.size, 6, none⟩ = some (.slice a es.length cap)) (fun i => false) (by kernel_rfl) ⟨X.out.cell rfl, X.out.cell rfl, X.out.cell rfl, X.out.cell rfl, X.out.cell rfl, X.out.cell rfl, X.out.cell rfl⟩ (fun hHeld => ?_)
  generalize wz.drew = wd at *
  refine Reg.takeI 0 (v := ?_) rfl (by kernel_rfl) (by kernel_rfl) (by kernel_rfl) (by kernel_rfl) (fun _ _ _ h => h) (by rfl) ?_ hHeld ?_
  rotate_left 1
  · (intro w hSw; (try dsimp only at hSw); go_simp; try with_reducible rfl)
  try simp only [Act.put, List.setIfInBounds_toArray, List.set_cons_zero, List.set_cons_succ]
  refine Reg.takeI 2 (v := ?_) rfl (by kernel_rfl) (by kernel_rfl) (by kernel_rfl) (by kernel_rfl) (fun _ _ _ h => h) (by rfl) ?_ hHeld ?_
  rotate_left 1
  · (intro w hSw; (try dsimp only at hSw); go_simp; try with_reducible rfl)
  try simp only [Act.put, List.setIfInBounds_toArray, List.set_cons_zero, List.set_cons_succ]
  refine Reg.oneI 1 rfl (by kernel_rfl) (by rfl) (fun K hK => ?_)
  go_simp
  go_at_call 13
  refine (GD.out _ B.out).mono ?_
  rintro e wz1 ⟨rfl, k⟩
  replace X := Lib.hid (X.out.below k X.out.lt)
  replace B := Lib.hid (B.out.trans (k.mono B.out.size))
  clear k
  go_wp2_with fail
  refine hK.out _ _ (fun _ => ⟨X.out.cell rfl, X.out.cell rfl, X.out.cell rfl, X.out.cell rfl, X.out.cell rfl, X.out.cell rfl, X.out.cell rfl⟩) (fun hHeld => ?_)
  replace hHeld := hHeld (by first | rfl | trivial)
  clear hK K
  try simp only [Act.put, List.setIfInBounds_toArray, List.set_cons_zero, List.set_cons_succ]
  refine Reg.takeI 3 (v := ?_) rfl (by kernel_rfl) (by kernel_rfl) (by kernel_rfl) (by kernel_rfl) (fun _ _ _ h => h) (by rfl) ?_ hHeld ?_
  rotate_left 1
  · (intro w hSw; (try dsimp only at hSw); go_simp; try with_reducible rfl)
  try simp only [Act.put, List.setIfInBounds_toArray, List.set_cons_zero, List.set_cons_succ]
  refine Reg.takeI 4 (v := ?_) rfl (by kernel_rfl) (by kernel_rfl) (by kernel_rfl) (by kernel_rfl) (fun _ _ _ h => h) (by rfl) ?_ hHeld ?_
  rotate_left 1
  · (intro w hSw; (try dsimp only at hSw); go_simp; try with_reducible rfl)
  try simp only [Act.put, List.setIfInBounds_toArray, List.set_cons_zero, List.set_cons_succ]
  refine Reg.takeI 5 (v := ?_) rfl (by kernel_rfl) (by kernel_rfl) (by kernel_rfl) (by kernel_rfl) (fun _ _ _ h => h) (by rfl) ?_ hHeld ?_
  rotate_left 1
  · (intro w hSw; (try dsimp only at hSw); go_simp; try with_reducible rfl)
  try simp only [Act.put, List.setIfInBounds_toArray, List.set_cons_zero, List.set_cons_succ]
  refine Reg.takeI 7 (v := ?_) rfl (by kernel_rfl) (by kernel_rfl) (by kernel_rfl) (by kernel_rfl) (fun _ _ _ h => h) (by rfl) ?_ hHeld ?_
  rotate_left 1
  · (intro w hSw; (try dsimp only at hSw); go_simp; try with_reducible rfl)
  try simp only [Act.put, List.setIfInBounds_toArray, List.set_cons_zero, List.set_cons_succ]
  refine Reg.oneI 6 rfl (by kernel_rfl) (by rfl) (fun K hK => ?_)
  go_simp
  go_at_call 14
  refine (FT.out _ B.out).mono ?_
  rintro e wz6 ⟨rfl, k⟩
  replace X := Lib.hid (X.out.below k X.out.lt)
  replace B := Lib.hid (B.out.trans (k.mono B.out.size))
  clear k
  go_wp2_with fail
  refine hK.out _ _ (fun _ => ⟨X.out.cell rfl, X.out.cell rfl, X.out.cell rfl, X.out.cell rfl, X.out.cell rfl, X.out.cell rfl, X.out.cell rfl⟩) (fun hHeld => ?_)
  replace hHeld := hHeld (by first | rfl | trivial)
  clear hK K
  try simp only [Act.put, List.setIfInBounds_toArray, List.set_cons_zero, List.set_cons_succ]
  refine Reg.takeI 8 (v := ?_) rfl (by kernel_rfl) (by kernel_rfl) (by kernel_rfl) (by kernel_rfl) (fun _ _ _ h => h) (by rfl) ?_ hHeld ?_
  rotate_left 1
  · (intro w hSw; (try dsimp only at hSw); go_simp; try with_reducible rfl)
  try simp only [Act.put, List.setIfInBounds_toArray, List.set_cons_zero, List.set_cons_succ]
  refine Reg.takeI 9 (v := ?_) rfl (by kernel_rfl) (by kernel_rfl) (by kernel_rfl) (by kernel_rfl) (fun _ _ _ h => h) (by rfl) ?_ hHeld ?_
  rotate_left 1
  · (intro w hSw; (try dsimp only at hSw); go_simp; try with_reducible rfl)
  try simp only [Act.put, List.setIfInBounds_toArray, List.set_cons_zero, List.set_cons_succ]
  refine Reg.takeI 10 (v := ?_) rfl (by kernel_rfl) (by kernel_rfl) (by kernel_rfl) (by kernel_rfl) (fun _ _ _ h => h) (by rfl) ?_ hHeld ?_
  rotate_left 1
  · (intro w hSw; (try dsimp only at hSw); go_simp; try with_reducible rfl)
  try simp only [Act.put, List.setIfInBounds_toArray, List.set_cons_zero, List.set_cons_succ]
  refine Reg.takeI 11 (v := ?_) rfl (by kernel_rfl) (by kernel_rfl) (by kernel_rfl) (by kernel_rfl) (fun _ _ _ h => h) (by rfl) ?_ hHeld ?_
  rotate_left 1
  · (intro w hSw; (try dsimp only at hSw); go_simp; try with_reducible rfl)
  try simp only [Act.put, List.setIfInBounds_toArray, List.set_cons_zero, List.set_cons_succ]
  refine Reg.takeI 13 (v := ?_) rfl (by kernel_rfl) (by kernel_rfl) (by kernel_rfl) (by kernel_rfl) (fun _ _ _ h => h) (by rfl) ?_ hHeld ?_
  rotate_left 1
  · (intro w hSw; (try dsimp only at hSw); go_simp; try with_reducible rfl)
  try simp only [Act.put, List.setIfInBounds_toArray, List.set_cons_zero, List.set_cons_succ]
  refine Reg.oneI 12 rfl (by kernel_rfl) (by rfl) (fun K hK => ?_)
  go_simp
  go_at_call 15
  refine (SZ.out _ SM.out B.out).mono ?_
  rintro e wz12 ⟨rfl, k⟩
  replace X := Lib.hid (X.out.below k X.out.lt)
  replace B := Lib.hid (B.out.trans (k.mono B.out.size))
  clear k
  go_wp2_with fail
  refine hK.out _ _ (fun _ => ⟨X.out.cell rfl, X.out.cell rfl, X.out.cell rfl, X.out.cell rfl, X.out.cell rfl, X.out.cell rfl, X.out.cell rfl⟩) (fun hHeld => ?_)
  replace hHeld := hHeld (by first | rfl | trivial)
  clear hK K
  try simp only [Act.put, List.setIfInBounds_toArray, List.set_cons_zero, List.set_cons_succ]
  refine Reg.oneI 14 rfl (by kernel_rfl) (by rfl) (fun K hK => ?_)
  go_simp
  go_at_call 11
  refine (RS.out _ SM.out B.out).mono ?_
  rintro e wz14 ⟨rfl, k⟩
  replace X := Lib.hid (X.out.below k X.out.lt)
  replace B := Lib.hid (B.out.trans (k.mono B.out.size))
  clear k
  go_wp2_with fail
  refine hK.out _ _ (fun _ => ⟨X.out.cell rfl, X.out.cell rfl, X.out.cell rfl, X.out.cell rfl, X.out.cell rfl, X.out.cell rfl, X.out.cell rfl⟩) (fun hHeld => ?_)
  replace hHeld := hHeld (by first | rfl | trivial)
  clear hK K
  try simp only [Act.put, List.setIfInBounds_toArray, List.set_cons_zero, List.set_cons_succ]
  refine Reg.takeI 15 (v := ?_) rfl (by kernel_rfl) (by kernel_rfl) (by kernel_rfl) (by kernel_rfl) (fun _ _ _ h => h) (by rfl) ?_ hHeld ?_
  rotate_left 1
  · (intro w hSw; (try dsimp only at hSw); go_simp; try with_reducible rfl)
  try simp only [Act.put, List.setIfInBounds_toArray, List.set_cons_zero, List.set_cons_succ]
  refine Reg.takeI 16 (v := ?_) rfl (by kernel_rfl) (by kernel_rfl) (by kernel_rfl) (by kernel_rfl) (fun _ _ _ h => h) (by rfl) ?_ hHeld ?_
  rotate_left 1
  · (intro w hSw; (try dsimp only at hSw); go_simp; try with_reducible rfl)
  try simp only [Act.put, List.setIfInBounds_toArray, List.set_cons_zero, List.set_cons_succ]
  refine Reg.doneI (by kernel_rfl) ?_
  have RC := Lib.hid (fun w1 => read_calls s w1 (by omega))
  have RR := Lib.hid (fun w1 => refread_calls s w1 (by omega))
  cases hr : nRead s.data.toList with
  | none =>
    rw [hr] at RC RR
    clear hr
    go_wp2_with fail
    refine (RC.out _).mono ?_
    rintro e w5 ⟨rfl, k⟩
    have Y := Lib.hid (new_at rfl : Row (w5.alloc (.cells #[.int .i64 0, .int .i64 0, .int .i64 0, .bool false, .string ⟨#[]⟩, .int .i64 0, .slice none 0 0] 24)) w5.heap.size 24 [.int .i64 0, .int .i64 0, .int .i64 0, .bool false, .string ⟨#[]⟩, .int .i64 0, .slice none 0 0])
    have B5 := B.out.trans (k.mono B.out.size)
    have B := Lib.hid (B5.alloc B5.size (.cells #[.int .i64 0, .int .i64 0, .int .i64 0, .bool false, .string ⟨#[]⟩, .int .i64 0, .slice none 0 0] 24))
    clear k B5
    go_wp2_with fail
    refine (RR.out _).mono ?_
    rintro e w6 ⟨rfl, k⟩
    have Y := Lib.hid ((Y.out.below k Y.out.lt).alloc (.cells #[.int .i64 0, .int .i64 0, .int .i64 0, .bool false, .string ⟨#[]⟩, .int .i64 0, .slice none 0 0] 24))
    have B6 := B.out.trans (k.mono B.out.size)
    have B := Lib.hid (B6.alloc B6.size (.cells #[.int .i64 0, .int .i64 0, .int .i64 0, .bool false, .string ⟨#[]⟩, .int .i64 0, .slice none 0 0] 24))
    clear k B6
    have SC := Lib.hid (fun w1 => refsame_calls noN noN none none 0 0 w1 (Es.nil _ _) (Es.nil _ _) (Nat.zero_le _) (Nat.zero_le _))
    rw [same_self] at SC
    replace SC : RowKit.Hid (∀ w1, Calls Try.prog 19 #[.agg #[.int .i64 0, .int .i64 0, .int .i64 0, .bool false, .string ⟨#[]⟩, .int .i64 0, .slice none 0 0], .agg #[.int .i64 0, .int .i64 0, .int .i64 0, .bool false, .string ⟨#[]⟩, .int .i64 0, .slice none 0 0]] w1 fun e w' => e = .returned (.bool true) ∧ Below w1.heap.size w1 w') := SC
    have y0 := Y.out.cell (i := 0) rfl
    have y1 := Y.out.cell (i := 1) rfl
    have y2 := Y.out.cell (i := 2) rfl
    have y3 := Y.out.cell (i := 3) rfl
    have y4 := Y.out.cell (i := 4) rfl
    have y5 := Y.out.cell (i := 5) rfl
    have y6 := Y.out.cell (i := 6) rfl
    go_wp2_with fail
    refine (SC.out _).mono ?_
    rintro e w7 ⟨rfl, k⟩
    have B := Lib.hid (B.out.trans (k.mono B.out.size))
    clear k y0 y1 y2 y3 y4 y5 y6
    go_wp2_with fail
    go_ret
    exact ⟨rfl, B.out⟩
  | some m =>
    rw [hr] at RC RR
    have LEN := Lib.hid (show m.list.length ≤ 9223372036854775807 from by have := (good_nums (fits_good ((nRead_iff _ _).1 hr).1).1).2.2.2.2.1; omega)
    clear hr
    obtain ⟨t2, l2, st2, h2, hi2, r2, es2⟩ := m
    go_wp2_with fail
    refine (RC.out _).mono ?_
    rintro e w5 ⟨a1, c1, rfl, hE1, k⟩
    show _
    have Y := Lib.hid (new_at rfl : Row (w5.alloc (.cells #[.int .i64 t2, .int .i64 l2, .int .i64 st2, .bool h2, .string hi2, .int .i64 r2, .slice a1 es2.length c1] 24)) w5.heap.size 24 [.int .i64 t2, .int .i64 l2, .int .i64 st2, .bool h2, .string hi2, .int .i64 r2, .slice a1 es2.length c1])
    have B5 := B.out.trans (k.mono B.out.size)
    have B := Lib.hid (B5.alloc B5.size (.cells #[.int .i64 t2, .int .i64 l2, .int .i64 st2, .bool h2, .string hi2, .int .i64 r2, .slice a1 es2.length c1] 24))
    have E1 := Lib.hid (hE1.keep ((Below.refl _ _).alloc (Nat.le_refl _) (.cells #[.int .i64 t2, .int .i64 l2, .int .i64 st2, .bool h2, .string hi2, .int .i64 r2, .slice a1 es2.length c1] 24)))
    have hv1 : (Value.agg (Nd.cells ⟨t2, l2, st2, h2, hi2, r2, es2⟩ (.slice a1 es2.length c1)).toArray) = .agg #[.int .i64 t2, .int .i64 l2, .int .i64 st2, .bool h2, .string hi2, .int .i64 r2, .slice a1 es2.length c1] := rfl
    simp only [hv1]
    clear k B5 hE1 hv1
    go_wp2_with fail
    refine (RR.out _).mono ?_
    rintro e w6 ⟨a2, c2, rfl, hE2, k⟩
    have Y := Lib.hid ((Y.out.below k Y.out.lt).alloc (.cells #[.int .i64 t2, .int .i64 l2, .int .i64 st2, .bool h2, .string hi2, .int .i64 r2, .slice a2 es2.length c2] 24))
    have V := Lib.hid (new_at rfl : Row (w6.alloc (.cells #[.int .i64 t2, .int .i64 l2, .int .i64 st2, .bool h2, .string hi2, .int .i64 r2, .slice a2 es2.length c2] 24)) w6.heap.size 24 [.int .i64 t2, .int .i64 l2, .int .i64 st2, .bool h2, .string hi2, .int .i64 r2, .slice a2 es2.length c2])
    have B6 := B.out.trans (k.mono B.out.size)
    have B := Lib.hid (B6.alloc B6.size (.cells #[.int .i64 t2, .int .i64 l2, .int .i64 st2, .bool h2, .string hi2, .int .i64 r2, .slice a2 es2.length c2] 24))
    have E2 := Lib.hid (hE2.keep ((Below.refl _ _).alloc (Nat.le_refl _) (.cells #[.int .i64 t2, .int .i64 l2, .int .i64 st2, .bool h2, .string hi2, .int .i64 r2, .slice a2 es2.length c2] 24)))
    have E1 := Lib.hid ((E1.out.keep k).keep ((Below.refl _ _).alloc (Nat.le_refl _) (.cells #[.int .i64 t2, .int .i64 l2, .int .i64 st2, .bool h2, .string hi2, .int .i64 r2, .slice a2 es2.length c2] 24)))
    have hv2 : (Value.agg (Nd.cells ⟨t2, l2, st2, h2, hi2, r2, es2⟩ (.slice a2 es2.length c2)).toArray) = .agg #[.int .i64 t2, .int .i64 l2, .int .i64 st2, .bool h2, .string hi2, .int .i64 r2, .slice a2 es2.length c2] := rfl
    simp only [hv2]
    clear k B6 hE2 hv2
    have hle : es2.length ≤ 9223372036854775807 := LEN.out
    have SC := Lib.hid (refsame_calls ⟨t2, l2, st2, h2, hi2, r2, es2⟩ ⟨t2, l2, st2, h2, hi2, r2, es2⟩ a1 a2 c1 c2 _ E1.out E2.out hle hle)
    rw [same_self] at SC
    clear hle
    have y0 := Y.out.cell (i := 0) rfl
    have v0 := V.out.cell (i := 0) rfl
    have y1 := Y.out.cell (i := 1) rfl
    have v1 := V.out.cell (i := 1) rfl
    have y2 := Y.out.cell (i := 2) rfl
    have v2 := V.out.cell (i := 2) rfl
    have y3 := Y.out.cell (i := 3) rfl
    have v3 := V.out.cell (i := 3) rfl
    have y4 := Y.out.cell (i := 4) rfl
    have v4 := V.out.cell (i := 4) rfl
    have y5 := Y.out.cell (i := 5) rfl
    have v5 := V.out.cell (i := 5) rfl
    have y6 := Y.out.cell (i := 6) rfl
    have v6 := V.out.cell (i := 6) rfl
    go_wp2_with fail
    refine SC.out.mono ?_
    rintro e w7 ⟨rfl, k⟩
    have B := Lib.hid (B.out.trans (k.mono B.out.size))
    clear k y0 y1 y2 y3 y4 y5 y6 v0 v1 v2 v3 v4 v5 v6
    go_wp2_with fail
    go_ret
    exact ⟨rfl, B.out⟩

set_option maxHeartbeats 8000000 in
set_option maxRecDepth 8000 in
theorem exact_bad (t l st : Int) (h : Bool) (hi : ByteArray) (r : Int) (es : List Ent) (a : Option Addr) (cap : Nat) (s T : ByteArray) (Z : Nat) (w : World) (hs : s.size ≤ 140737488351232) (hZ : True)
    (hGR : ∀ w1, Below w.heap.size w w1 → Calls Try.prog 9 #[.agg #[.int .i64 t, .int .i64 l, .int .i64 st, .bool h, .string hi, .int .i64 r, .slice a es.length cap]] w1 fun e w' => GreatPost ⟨t, l, st, h, hi, r, es⟩ e ∧ Below w1.heap.size w1 w')
    (hRG : ∀ w1, Small ⟨t, l, st, h, hi, r, es⟩ → Below w.heap.size w w1 → Calls Try.prog 10 #[.agg #[.int .i64 t, .int .i64 l, .int .i64 st, .bool h, .string hi, .int .i64 r, .slice a es.length cap]] w1 fun e w' => e = .returned (.bool false) ∧ Below w1.heap.size w1 w')
    (hRS : ∀ w1, Small ⟨t, l, st, h, hi, r, es⟩ → Below w.heap.size w w1 → Calls Try.prog 11 #[.agg #[.int .i64 t, .int .i64 l, .int .i64 st, .bool h, .string hi, .int .i64 r, .slice a es.length cap]] w1 fun e w' => e = .returned (.int .i64 (Z : Int)) ∧ Below w1.heap.size w1 w')
    (hS : ∀ w1, Small ⟨t, l, st, h, hi, r, es⟩ → Below w.heap.size w w1 → Calls Try.prog 15 #[.agg #[.int .i64 t, .int .i64 l, .int .i64 st, .bool h, .string hi, .int .i64 r, .slice a es.length cap]] w1 fun e w' => e = .returned (.int .i64 (Z : Int)) ∧ Below w1.heap.size w1 w')
    (hB : ∀ w1, Below w.heap.size w w1 → Calls Try.prog 12 #[.agg #[.int .i64 t, .int .i64 l, .int .i64 st, .bool h, .string hi, .int .i64 r, .slice a es.length cap]] w1 fun e w' => e = .returned (.tuple #[.string ⟨#[]⟩, .int .i64 1]) ∧ Below w1.heap.size w1 w')
    (hG : ∀ w1, Below w.heap.size w w1 → Calls Try.prog 13 #[.agg #[.int .i64 t, .int .i64 l, .int .i64 st, .bool h, .string hi, .int .i64 r, .slice a es.length cap]] w1 fun e w' => e = .returned (.bool false) ∧ Below w1.heap.size w1 w')
    (hF : ∀ w1, Below w.heap.size w w1 → Calls Try.prog 14 #[.agg #[.int .i64 t, .int .i64 l, .int .i64 st, .bool h, .string hi, .int .i64 r, .slice a es.length cap]] w1 fun e w' => e = .returned (.bool false) ∧ Below w1.heap.size w1 w')
    (hRB : True) :
    Calls Try.prog 3 #[.agg #[.int .i64 t, .int .i64 l, .int .i64 st, .bool h, .string hi, .int .i64 r, .slice a es.length cap], .string s] w fun e w' => e = .returned (.bool true) ∧ Below w.heap.size w w' := by
  have hX : Row (w.alloc (.cells #[.int .i64 t, .int .i64 l, .int .i64 st, .bool h, .string hi, .int .i64 r, .slice a es.length cap] 24)) w.heap.size 24 [.int .i64 t, .int .i64 l, .int .i64 st, .bool h, .string hi, .int .i64 r, .slice a es.length cap] := new_at rfl
  have hb : Below w.heap.size w (w.alloc (.cells #[.int .i64 t, .int .i64 l, .int .i64 st, .bool h, .string hi, .int .i64 r, .slice a es.length cap] 24)) := (Below.refl _ _).alloc (Nat.le_refl _) _
  have X := Lib.hid hX
  have B := Lib.hid hb
  have AW := Lib.hid awake_calls
  have GR := Lib.hid hGR
  have RG := Lib.hid hRG
  have RS := Lib.hid hRS
  have SZ := Lib.hid hS
  have BY := Lib.hid hB
  have GD := Lib.hid hG
  have FT := Lib.hid hF
  have RB := Lib.hid hRB
  clear hX hb hGR hRG hRS hS hB hG hF hRB
  go_enter Try.func3, Try.ntmps3
  go_wp2_with fail
  refine (AW.out _).mono ?_
  rintro e wz ⟨rfl, k⟩
  replace X := Lib.hid (X.out.below k X.out.lt)
  replace B := Lib.hid (B.out.trans (k.mono B.out.size))
  clear k
  have x0 := X.out.cell (i := 0) rfl
  have x1 := X.out.cell (i := 1) rfl
  have x2 := X.out.cell (i := 2) rfl
  have x3 := X.out.cell (i := 3) rfl
  have x4 := X.out.cell (i := 4) rfl
  have x5 := X.out.cell (i := 5) rfl
  have x6 := X.out.cell (i := 6) rfl
  go_wp2_with fail
  clear x0 x1 x2 x3 x4 x5 x6
  refine (GR.out _ B.out).mono ?_
  rintro e wz ⟨⟨bb, rfl, hsm⟩, k⟩
  replace X := Lib.hid (X.out.below k X.out.lt)
  replace B := Lib.hid (B.out.trans (k.mono B.out.size))
  clear k
  cases bb
  rotate_left 1
  · go_wp2_with fail
    go_ret
    exact ⟨rfl, B.out⟩
  by_cases hbig : (s.size : Int) > 512
  · go_wp2_with fail
    go_ret
    exact ⟨rfl, B.out⟩
  have SM := Lib.hid (hsm rfl)
  clear hsm
  have x0 := X.out.cell (i := 0) rfl
  have x1 := X.out.cell (i := 1) rfl
  have x2 := X.out.cell (i := 2) rfl
  have x3 := X.out.cell (i := 3) rfl
  have x4 := X.out.cell (i := 4) rfl
  have x5 := X.out.cell (i := 5) rfl
  have x6 := X.out.cell (i := 6) rfl
  go_wp2_with fail
  clear x0 x1 x2 x3 x4 x5 x6
  refine (RG.out _ SM.out B.out).mono ?_
  rintro e wz ⟨rfl, k⟩
  replace X := Lib.hid (X.out.below k X.out.lt)
  replace B := Lib.hid (B.out.trans (k.mono B.out.size))
  clear k
  have x0 := X.out.cell (i := 0) rfl
  have x1 := X.out.cell (i := 1) rfl
  have x2 := X.out.cell (i := 2) rfl
  have x3 := X.out.cell (i := 3) rfl
  have x4 := X.out.cell (i := 4) rfl
  have x5 := X.out.cell (i := 5) rfl
  have x6 := X.out.cell (i := 6) rfl
  go_wp2_with fail
  clear x0 x1 x2 x3 x4 x5 x6
  refine (BY.out _ B.out).mono ?_
  rintro e wz ⟨rfl, k⟩
  replace X := Lib.hid (X.out.below k X.out.lt)
  replace B := Lib.hid (B.out.trans (k.mono B.out.size))
  clear k
  go_wp2_with fail
  have X := Lib.hid X.out.drew
  have B := Lib.hid B.out.drew
  refine Reg.start (fun w' => w'.cell? ⟨w.heap.size, 0, none⟩ = some (.int .i64 t) ∧ w'.cell? ⟨w.heap.size, 1, none⟩ = some (.int .i64 l) ∧ w'.cell? ⟨w.heap.size, 2, none⟩ = some (.int .i64 st) ∧ w'.cell? ⟨w.heap.size, 3, none⟩ = some (.bool h) ∧ w'.cell? ⟨w.heap.size, 4, none⟩ = some (.string hi) ∧ w'.cell? ⟨w.heap.size, 5, none⟩ = some (.int .i64 r) ∧ w'.cell? ⟨w.heap.size, 6, none⟩ = some (.slice a es.length cap)) (fun i => false) (by kernel_rfl) ⟨X.out.cell rfl, X.out.cell rfl, X.out.cell rfl, X.out.cell rfl, X.out.cell rfl, X.out.cell rfl, X.out.cell rfl⟩ (fun hHeld => ?_)
  generalize wz.drew = wd at *
  refine Reg.takeI 0 (v := ?_) rfl (by kernel_rfl) (by kernel_rfl) (by kernel_rfl) (by kernel_rfl) (fun _ _ _ h => h) (by rfl) ?_ hHeld ?_
  rotate_left 1
  · (intro w hSw; (try dsimp only at hSw); go_simp; try with_reducible rfl)
  try simp only [Act.put, List.setIfInBounds_toArray, List.set_cons_zero, List.set_cons_succ]
  refine Reg.takeI 2 (v := ?_) rfl (by kernel_rfl) (by kernel_rfl) (by kernel_rfl) (by kernel_rfl) (fun _ _ _ h => h) (by rfl) ?_ hHeld ?_
  rotate_left 1
  · (intro w hSw; (try dsimp only at hSw); go_simp; try with_reducible rfl)
  try simp only [Act.put, List.setIfInBounds_toArray, List.set_cons_zero, List.set_cons_succ]
  refine Reg.oneI 1 rfl (by kernel_rfl) (by rfl) (fun K hK => ?_)
  go_simp
  go_at_call 13
  refine (GD.out _ B.out).mono ?_
  rintro e wz1 ⟨rfl, k⟩
  replace X := Lib.hid (X.out.below k X.out.lt)
  replace B := Lib.hid (B.out.trans (k.mono B.out.size))
  clear k
  go_wp2_with fail
  refine hK.out _ _ (fun _ => ⟨X.out.cell rfl, X.out.cell rfl, X.out.cell rfl, X.out.cell rfl, X.out.cell rfl, X.out.cell rfl, X.out.cell rfl⟩) (fun hHeld => ?_)
  replace hHeld := hHeld (by first | rfl | trivial)
  clear hK K
  try simp only [Act.put, List.setIfInBounds_toArray, List.set_cons_zero, List.set_cons_succ]
  refine Reg.takeI 3 (v := ?_) rfl (by kernel_rfl) (by kernel_rfl) (by kernel_rfl) (by kernel_rfl) (fun _ _ _ h => h) (by rfl) ?_ hHeld ?_
  rotate_left 1
  · (intro w hSw; (try dsimp only at hSw); go_simp; try with_reducible rfl)
  try simp only [Act.put, List.setIfInBounds_toArray, List.set_cons_zero, List.set_cons_succ]
  refine Reg.takeI 4 (v := ?_) rfl (by kernel_rfl) (by kernel_rfl) (by kernel_rfl) (by kernel_rfl) (fun _ _ _ h => h) (by rfl) ?_ hHeld ?_
  rotate_left 1
  · (intro w hSw; (try dsimp only at hSw); go_simp; try with_reducible rfl)
  try simp only [Act.put, List.setIfInBounds_toArray, List.set_cons_zero, List.set_cons_succ]
  refine Reg.takeI 5 (v := ?_) rfl (by kernel_rfl) (by kernel_rfl) (by kernel_rfl) (by kernel_rfl) (fun _ _ _ h => h) (by rfl) ?_ hHeld ?_
  rotate_left 1
  · (intro w hSw; (try dsimp only at hSw); go_simp; try with_reducible rfl)
  try simp only [Act.put, List.setIfInBounds_toArray, List.set_cons_zero, List.set_cons_succ]
  refine Reg.takeI 7 (v := ?_) rfl (by kernel_rfl) (by kernel_rfl) (by kernel_rfl) (by kernel_rfl) (fun _ _ _ h => h) (by rfl) ?_ hHeld ?_
  rotate_left 1
  · (intro w hSw; (try dsimp only at hSw); go_simp; try with_reducible rfl)
  try simp only [Act.put, List.setIfInBounds_toArray, List.set_cons_zero, List.set_cons_succ]
  refine Reg.oneI 6 rfl (by kernel_rfl) (by rfl) (fun K hK => ?_)
  go_simp
  go_at_call 14
  refine (FT.out _ B.out).mono ?_
  rintro e wz6 ⟨rfl, k⟩
  replace X := Lib.hid (X.out.below k X.out.lt)
  replace B := Lib.hid (B.out.trans (k.mono B.out.size))
  clear k
  go_wp2_with fail
  refine hK.out _ _ (fun _ => ⟨X.out.cell rfl, X.out.cell rfl, X.out.cell rfl, X.out.cell rfl, X.out.cell rfl, X.out.cell rfl, X.out.cell rfl⟩) (fun hHeld => ?_)
  replace hHeld := hHeld (by first | rfl | trivial)
  clear hK K
  try simp only [Act.put, List.setIfInBounds_toArray, List.set_cons_zero, List.set_cons_succ]
  refine Reg.takeI 8 (v := ?_) rfl (by kernel_rfl) (by kernel_rfl) (by kernel_rfl) (by kernel_rfl) (fun _ _ _ h => h) (by rfl) ?_ hHeld ?_
  rotate_left 1
  · (intro w hSw; (try dsimp only at hSw); go_simp; try with_reducible rfl)
  try simp only [Act.put, List.setIfInBounds_toArray, List.set_cons_zero, List.set_cons_succ]
  refine Reg.takeI 9 (v := ?_) rfl (by kernel_rfl) (by kernel_rfl) (by kernel_rfl) (by kernel_rfl) (fun _ _ _ h => h) (by rfl) ?_ hHeld ?_
  rotate_left 1
  · (intro w hSw; (try dsimp only at hSw); go_simp; try with_reducible rfl)
  try simp only [Act.put, List.setIfInBounds_toArray, List.set_cons_zero, List.set_cons_succ]
  refine Reg.takeI 10 (v := ?_) rfl (by kernel_rfl) (by kernel_rfl) (by kernel_rfl) (by kernel_rfl) (fun _ _ _ h => h) (by rfl) ?_ hHeld ?_
  rotate_left 1
  · (intro w hSw; (try dsimp only at hSw); go_simp; try with_reducible rfl)
  try simp only [Act.put, List.setIfInBounds_toArray, List.set_cons_zero, List.set_cons_succ]
  refine Reg.takeI 11 (v := ?_) rfl (by kernel_rfl) (by kernel_rfl) (by kernel_rfl) (by kernel_rfl) (fun _ _ _ h => h) (by rfl) ?_ hHeld ?_
  rotate_left 1
  · (intro w hSw; (try dsimp only at hSw); go_simp; try with_reducible rfl)
  try simp only [Act.put, List.setIfInBounds_toArray, List.set_cons_zero, List.set_cons_succ]
  refine Reg.takeI 13 (v := ?_) rfl (by kernel_rfl) (by kernel_rfl) (by kernel_rfl) (by kernel_rfl) (fun _ _ _ h => h) (by rfl) ?_ hHeld ?_
  rotate_left 1
  · (intro w hSw; (try dsimp only at hSw); go_simp; try with_reducible rfl)
  try simp only [Act.put, List.setIfInBounds_toArray, List.set_cons_zero, List.set_cons_succ]
  refine Reg.oneI 12 rfl (by kernel_rfl) (by rfl) (fun K hK => ?_)
  go_simp
  go_at_call 15
  refine (SZ.out _ SM.out B.out).mono ?_
  rintro e wz12 ⟨rfl, k⟩
  replace X := Lib.hid (X.out.below k X.out.lt)
  replace B := Lib.hid (B.out.trans (k.mono B.out.size))
  clear k
  go_wp2_with fail
  refine hK.out _ _ (fun _ => ⟨X.out.cell rfl, X.out.cell rfl, X.out.cell rfl, X.out.cell rfl, X.out.cell rfl, X.out.cell rfl, X.out.cell rfl⟩) (fun hHeld => ?_)
  replace hHeld := hHeld (by first | rfl | trivial)
  clear hK K
  try simp only [Act.put, List.setIfInBounds_toArray, List.set_cons_zero, List.set_cons_succ]
  refine Reg.oneI 14 rfl (by kernel_rfl) (by rfl) (fun K hK => ?_)
  go_simp
  go_at_call 11
  refine (RS.out _ SM.out B.out).mono ?_
  rintro e wz14 ⟨rfl, k⟩
  replace X := Lib.hid (X.out.below k X.out.lt)
  replace B := Lib.hid (B.out.trans (k.mono B.out.size))
  clear k
  go_wp2_with fail
  refine hK.out _ _ (fun _ => ⟨X.out.cell rfl, X.out.cell rfl, X.out.cell rfl, X.out.cell rfl, X.out.cell rfl, X.out.cell rfl, X.out.cell rfl⟩) (fun hHeld => ?_)
  replace hHeld := hHeld (by first | rfl | trivial)
  clear hK K
  try simp only [Act.put, List.setIfInBounds_toArray, List.set_cons_zero, List.set_cons_succ]
  refine Reg.takeI 15 (v := ?_) rfl (by kernel_rfl) (by kernel_rfl) (by kernel_rfl) (by kernel_rfl) (fun _ _ _ h => h) (by rfl) ?_ hHeld ?_
  rotate_left 1
  · (intro w hSw; (try dsimp only at hSw); go_simp; try with_reducible rfl)
  try simp only [Act.put, List.setIfInBounds_toArray, List.set_cons_zero, List.set_cons_succ]
  refine Reg.takeI 16 (v := ?_) rfl (by kernel_rfl) (by kernel_rfl) (by kernel_rfl) (by kernel_rfl) (fun _ _ _ h => h) (by rfl) ?_ hHeld ?_
  rotate_left 1
  · (intro w hSw; (try dsimp only at hSw); go_simp; try with_reducible rfl)
  try simp only [Act.put, List.setIfInBounds_toArray, List.set_cons_zero, List.set_cons_succ]
  refine Reg.doneI (by kernel_rfl) ?_
  have RC := Lib.hid (fun w1 => read_calls s w1 (by omega))
  have RR := Lib.hid (fun w1 => refread_calls s w1 (by omega))
  cases hr : nRead s.data.toList with
  | none =>
    rw [hr] at RC RR
    clear hr
    go_wp2_with fail
    refine (RC.out _).mono ?_
    rintro e w5 ⟨rfl, k⟩
    have Y := Lib.hid (new_at rfl : Row (w5.alloc (.cells #[.int .i64 0, .int .i64 0, .int .i64 0, .bool false, .string ⟨#[]⟩, .int .i64 0, .slice none 0 0] 24)) w5.heap.size 24 [.int .i64 0, .int .i64 0, .int .i64 0, .bool false, .string ⟨#[]⟩, .int .i64 0, .slice none 0 0])
    have B5 := B.out.trans (k.mono B.out.size)
    have B := Lib.hid (B5.alloc B5.size (.cells #[.int .i64 0, .int .i64 0, .int .i64 0, .bool false, .string ⟨#[]⟩, .int .i64 0, .slice none 0 0] 24))
    clear k B5
    go_wp2_with fail
    refine (RR.out _).mono ?_
    rintro e w6 ⟨rfl, k⟩
    have Y := Lib.hid ((Y.out.below k Y.out.lt).alloc (.cells #[.int .i64 0, .int .i64 0, .int .i64 0, .bool false, .string ⟨#[]⟩, .int .i64 0, .slice none 0 0] 24))
    have B6 := B.out.trans (k.mono B.out.size)
    have B := Lib.hid (B6.alloc B6.size (.cells #[.int .i64 0, .int .i64 0, .int .i64 0, .bool false, .string ⟨#[]⟩, .int .i64 0, .slice none 0 0] 24))
    clear k B6
    have SC := Lib.hid (fun w1 => refsame_calls noN noN none none 0 0 w1 (Es.nil _ _) (Es.nil _ _) (Nat.zero_le _) (Nat.zero_le _))
    rw [same_self] at SC
    replace SC : RowKit.Hid (∀ w1, Calls Try.prog 19 #[.agg #[.int .i64 0, .int .i64 0, .int .i64 0, .bool false, .string ⟨#[]⟩, .int .i64 0, .slice none 0 0], .agg #[.int .i64 0, .int .i64 0, .int .i64 0, .bool false, .string ⟨#[]⟩, .int .i64 0, .slice none 0 0]] w1 fun e w' => e = .returned (.bool true) ∧ Below w1.heap.size w1 w') := SC
    have y0 := Y.out.cell (i := 0) rfl
    have y1 := Y.out.cell (i := 1) rfl
    have y2 := Y.out.cell (i := 2) rfl
    have y3 := Y.out.cell (i := 3) rfl
    have y4 := Y.out.cell (i := 4) rfl
    have y5 := Y.out.cell (i := 5) rfl
    have y6 := Y.out.cell (i := 6) rfl
    go_wp2_with fail
    refine (SC.out _).mono ?_
    rintro e w7 ⟨rfl, k⟩
    have B := Lib.hid (B.out.trans (k.mono B.out.size))
    clear k y0 y1 y2 y3 y4 y5 y6
    go_wp2_with fail
    go_ret
    exact ⟨rfl, B.out⟩
  | some m =>
    rw [hr] at RC RR
    have LEN := Lib.hid (show m.list.length ≤ 9223372036854775807 from by have := (good_nums (fits_good ((nRead_iff _ _).1 hr).1).1).2.2.2.2.1; omega)
    clear hr
    obtain ⟨t2, l2, st2, h2, hi2, r2, es2⟩ := m
    go_wp2_with fail
    refine (RC.out _).mono ?_
    rintro e w5 ⟨a1, c1, rfl, hE1, k⟩
    show _
    have Y := Lib.hid (new_at rfl : Row (w5.alloc (.cells #[.int .i64 t2, .int .i64 l2, .int .i64 st2, .bool h2, .string hi2, .int .i64 r2, .slice a1 es2.length c1] 24)) w5.heap.size 24 [.int .i64 t2, .int .i64 l2, .int .i64 st2, .bool h2, .string hi2, .int .i64 r2, .slice a1 es2.length c1])
    have B5 := B.out.trans (k.mono B.out.size)
    have B := Lib.hid (B5.alloc B5.size (.cells #[.int .i64 t2, .int .i64 l2, .int .i64 st2, .bool h2, .string hi2, .int .i64 r2, .slice a1 es2.length c1] 24))
    have E1 := Lib.hid (hE1.keep ((Below.refl _ _).alloc (Nat.le_refl _) (.cells #[.int .i64 t2, .int .i64 l2, .int .i64 st2, .bool h2, .string hi2, .int .i64 r2, .slice a1 es2.length c1] 24)))
    have hv1 : (Value.agg (Nd.cells ⟨t2, l2, st2, h2, hi2, r2, es2⟩ (.slice a1 es2.length c1)).toArray) = .agg #[.int .i64 t2, .int .i64 l2, .int .i64 st2, .bool h2, .string hi2, .int .i64 r2, .slice a1 es2.length c1] := rfl
    simp only [hv1]
    clear k B5 hE1 hv1
    go_wp2_with fail
    refine (RR.out _).mono ?_
    rintro e w6 ⟨a2, c2, rfl, hE2, k⟩
    have Y := Lib.hid ((Y.out.below k Y.out.lt).alloc (.cells #[.int .i64 t2, .int .i64 l2, .int .i64 st2, .bool h2, .string hi2, .int .i64 r2, .slice a2 es2.length c2] 24))
    have V := Lib.hid (new_at rfl : Row (w6.alloc (.cells #[.int .i64 t2, .int .i64 l2, .int .i64 st2, .bool h2, .string hi2, .int .i64 r2, .slice a2 es2.length c2] 24)) w6.heap.size 24 [.int .i64 t2, .int .i64 l2, .int .i64 st2, .bool h2, .string hi2, .int .i64 r2, .slice a2 es2.length c2])
    have B6 := B.out.trans (k.mono B.out.size)
    have B := Lib.hid (B6.alloc B6.size (.cells #[.int .i64 t2, .int .i64 l2, .int .i64 st2, .bool h2, .string hi2, .int .i64 r2, .slice a2 es2.length c2] 24))
    have E2 := Lib.hid (hE2.keep ((Below.refl _ _).alloc (Nat.le_refl _) (.cells #[.int .i64 t2, .int .i64 l2, .int .i64 st2, .bool h2, .string hi2, .int .i64 r2, .slice a2 es2.length c2] 24)))
    have E1 := Lib.hid ((E1.out.keep k).keep ((Below.refl _ _).alloc (Nat.le_refl _) (.cells #[.int .i64 t2, .int .i64 l2, .int .i64 st2, .bool h2, .string hi2, .int .i64 r2, .slice a2 es2.length c2] 24)))
    have hv2 : (Value.agg (Nd.cells ⟨t2, l2, st2, h2, hi2, r2, es2⟩ (.slice a2 es2.length c2)).toArray) = .agg #[.int .i64 t2, .int .i64 l2, .int .i64 st2, .bool h2, .string hi2, .int .i64 r2, .slice a2 es2.length c2] := rfl
    simp only [hv2]
    clear k B6 hE2 hv2
    have hle : es2.length ≤ 9223372036854775807 := LEN.out
    have SC := Lib.hid (refsame_calls ⟨t2, l2, st2, h2, hi2, r2, es2⟩ ⟨t2, l2, st2, h2, hi2, r2, es2⟩ a1 a2 c1 c2 _ E1.out E2.out hle hle)
    rw [same_self] at SC
    clear hle
    have y0 := Y.out.cell (i := 0) rfl
    have v0 := V.out.cell (i := 0) rfl
    have y1 := Y.out.cell (i := 1) rfl
    have v1 := V.out.cell (i := 1) rfl
    have y2 := Y.out.cell (i := 2) rfl
    have v2 := V.out.cell (i := 2) rfl
    have y3 := Y.out.cell (i := 3) rfl
    have v3 := V.out.cell (i := 3) rfl
    have y4 := Y.out.cell (i := 4) rfl
    have v4 := V.out.cell (i := 4) rfl
    have y5 := Y.out.cell (i := 5) rfl
    have v5 := V.out.cell (i := 5) rfl
    have y6 := Y.out.cell (i := 6) rfl
    have v6 := V.out.cell (i := 6) rfl
    go_wp2_with fail
    refine SC.out.mono ?_
    rintro e w7 ⟨rfl, k⟩
    have B := Lib.hid (B.out.trans (k.mono B.out.size))
    clear k y0 y1 y2 y3 y4 y5 y6 v0 v1 v2 v3 v4 v5 v6
    go_wp2_with fail
    go_ret
    exact ⟨rfl, B.out⟩

theorem small_vals {n : Nd} (h : Small n) : ∀ e ∈ n.list, e.val.size ≤ 1000000 := fun e he => by
  obtain ⟨i, hi, rfl⟩ := List.getElem_of_mem he
  have := (h.2.2 i hi).2
  omega
theorem exact_calls (n : Nd) (a : Option Addr) (cap : Nat) (s : ByteArray) (w : World) (hE : Es w a n.list) (hl : n.list.length ≤ 9223372036854775807) (hs : s.size ≤ 140737488351232) :
    Calls Try.prog 3 #[.agg (n.cells (.slice a n.list.length cap)).toArray, .string s] w fun e w' => e = .returned (.bool true) ∧ Below w.heap.size w w' := by
  have hGR := fun (w1 : World) (h : Below w.heap.size w w1) => great_calls n a cap w1 (hE.keep h) hl
  have hRG := fun (w1 : World) (sm : Small n) (h : Below w.heap.size w w1) => refgood_calls n a cap w1 (hE.keep h) hl (by have := sm.2.1; omega) (fun i hi => by have := (sm.2.2 i hi).1; omega)
  have hRS := fun (w1 : World) (sm : Small n) (h : Below w.heap.size w w1) => refsize_calls n a cap w1 (hE.keep h) (by have := sm.1; omega) (small_vals sm)
  have hS := fun (w1 : World) (sm : Small n) (h : Below w.heap.size w w1) => size_calls n a cap w1 (hE.keep h) (by have := sm.1; omega) (small_vals sm)
  have hB := fun (w1 : World) (h : Below w.heap.size w w1) => bytes_calls n a cap w1 (hE.keep h) hl
  have hG := fun (w1 : World) (h : Below w.heap.size w w1) => good_calls n a cap w1 (hE.keep h) hl
  have hF := fun (w1 : World) (h : Below w.heap.size w w1) => fits_calls n a cap w1 (hE.keep h) hl
  cases hf : n.fits
  · rw [hf] at hF
    cases hg : n.good
    · rw [hg] at hG hRG
      rw [bytesOut_bad hg] at hB
      obtain ⟨t, l, st, h, hi, r, es⟩ := n
      exact exact_bad t l st h hi r es a cap s ⟨#[]⟩ _ w hs trivial hGR hRG hRS hS hB hG hF trivial
    · have hz : ¬ n.size ≤ 252 := by
        intro hz
        unfold Nd.fits at hf
        rw [hg, decide_eq_true hz] at hf
        cases hf
      rw [hg] at hG hRG
      rw [bytesOut_full hg hf] at hB
      obtain ⟨t, l, st, h, hi, r, es⟩ := n
      exact exact_full t l st h hi r es a cap s ⟨#[]⟩ _ w hs hz hGR hRG hRS hS hB hG hF trivial
  · have hRB := fun (w1 : World) (h : Below w.heap.size w w1) => refbytes_calls n hf a cap w1 (hE.keep h)
    have hz := fits_good hf
    rw [hf] at hF
    rw [hz.1] at hG hRG
    rw [bytesOut_ok hf] at hB
    obtain ⟨t, l, st, h, hi, r, es⟩ := n
    exact exact_fits t l st h hi r es a cap s _ _ w hs hz.2 hGR hRG hRS hS hB hG hF hRB
theorem exact_row (cs : List Value) (y : Int × Int × Int × Bool × ByteArray × Int × List (ByteArray × ByteArray × Bool × Unit) × Unit) (s : ByteArray) (W : World) (h : nodeC.R W cs y) (hs : s.size ≤ 140737488351232) :
    Calls Try.prog 3 #[.agg cs.toArray, .string s] W fun e w' => e = .returned (.bool true) ∧ Below W.heap.size W w' := by
  obtain ⟨n, hn⟩ := node_of h
  obtain ⟨a, cap, e1, k1⟩ := hn.ex
  rw [e1]
  exact exact_calls n a cap s W k1 hn.len hs
end Go.Proofs.Ytebmalmciakhcaa.Node
