/- gaugerref08.Read. Printed by node_refread2.py -/
import Derived.Test.YtebmalmciakhcaaNodeRefC
import Derived.Test.YtebmalmciakhcaaReg
import Derived.Test.YtebmalmciakhcaaRegApp
import Derived.Test.YtebmalmciakhcaaNodeRead
import Derived.Test.YtebmalmciakhcaaCrcRef
namespace Go.Proofs.Ytebmalmciakhcaa.Node
open Go.RowKit Go.Proofs.Ytebmalmciakhcaa.Mem Go.Proofs.Ytebmalmciakhcaa.Bytes Go.Proofs.Ytebmalmciakhcaa.Ord
set_option linter.unusedSimpArgs false
set_option linter.unusedVariables false

theorem num_get1 (t : List UInt8) (i : Nat) (h : i < t.length) : num t i 1 = t[i].toNat := by
  unfold num
  rw [List.drop_eq_getElem_cons h, List.take_succ_cons, List.take_zero]
  simp [lev]
theorem num_get2 (t : List UInt8) (i : Nat) (h : i + 1 < t.length) : num t i 2 = t[i].toNat + 256 * t[i + 1].toNat := by
  unfold num
  rw [List.drop_eq_getElem_cons (by omega), List.take_succ_cons, List.drop_eq_getElem_cons h, List.take_succ_cons, List.take_zero]
  simp [lev]
theorem num_get4 (t : List UInt8) (i : Nat) (h : i + 3 < t.length) : num t i 4 = t[i].toNat + t[i + 1].toNat * 256 + t[i + 1 + 1].toNat * 65536 + t[i + 1 + 1 + 1].toNat * 16777216 := by
  unfold num
  have h1 : i + 1 + 1 < t.length := by omega
  have h2 : i + 1 + 1 + 1 < t.length := by omega
  rw [List.drop_eq_getElem_cons (show i < t.length by omega), List.take_succ_cons, List.drop_eq_getElem_cons (show i + 1 < t.length by omega), List.take_succ_cons, List.drop_eq_getElem_cons h1, List.take_succ_cons, List.drop_eq_getElem_cons h2, List.take_succ_cons, List.take_zero]
  simp [lev]
  omega
theorem extract_mid (l : List UInt8) (a b : Nat) : (bs l).extract a b = bs ((l.drop a).take (b - a)) := by
  rw [← bs_of ((bs l).extract a b)]
  congr 1
  rw [ByteArray.data_extract]
  show (l.toArray.extract a b).toList = _
  simp [List.extract_eq_take_drop]
theorem num_drop (t : List UInt8) (a i k : Nat) : num (t.drop a) i k = num t (a + i) k := by unfold num; rw [List.drop_drop]
theorem cut_size {l : List UInt8} {a k : Nat} (h : a + k ≤ l.length) : (bs ((l.drop a).take k)).size = k := by rw [bs_size, List.length_take, List.length_drop]; omega

theorem rd_none {t L : List UInt8} {n : Nd} (h : nRead L = (parse t).bind (fun n => if n.fits = true ∧ n.bytes = L then some n else none)) (hp : parse t = some n) (hn : ¬ (n.fits = true ∧ n.bytes = L)) : nRead L = none := by
  rw [h, hp, Option.bind_some, if_neg hn]
theorem rd_some {t L : List UInt8} {n : Nd} (h : nRead L = (parse t).bind (fun n => if n.fits = true ∧ n.bytes = L then some n else none)) (hp : parse t = some n) (hn : n.fits = true ∧ n.bytes = L) : nRead L = some n := by
  rw [h, hp, Option.bind_some, if_pos hn]
theorem bad_fits {n : Nd} (h : n.good = false) : ¬ n.fits = true := by
  intro hh
  have := (fits_good hh).1
  rw [h] at this
  cases this
theorem rr_none {w w' : World} {a : Act} (hr : Row w' w.heap.size 24 [.int .i64 0, .int .i64 0, .int .i64 0, .bool false, .string ⟨#[]⟩, .int .i64 0, .slice none 0 0]) (hb : Below w.heap.size w w') (h2 : a.tmps.getD 2 undef = .pointer (some ⟨w.heap.size, 0, none⟩)) (h3 : a.tmps.getD 3 undef = .bool false) (hd : a.defers = []) {r : Option Nd} (hn : r = none) :
    bodyPost Try.prog Try.f18 (fun e w' => readPost (.bool false) (.bool true) r w e w') .ret a w' :=
  ret_row2 hr Try.results18 Try.underlying24 rfl (by kernel_rfl) h2 hd (by rw [hn, h3]; exact ⟨rfl, hb⟩)

set_option maxHeartbeats 1000000 in
set_option maxRecDepth 8000 in
theorem refread_no (s : ByteArray) (w : World) (hs : s.size ≤ 100000) (h : ∀ t, Crc.opened s.data.toList = some t → t.length ≠ 252) : Calls Try.prog 18 #[.string s] w fun e w' => readPost (.bool false) (.bool true) none w e w' := by
  have hR : Row (w.alloc (.cells #[.int .i64 0, .int .i64 0, .int .i64 0, .bool false, .string ⟨#[]⟩, .int .i64 0, .slice none 0 0] 24)) w.heap.size 24 [.int .i64 0, .int .i64 0, .int .i64 0, .bool false, .string ⟨#[]⟩, .int .i64 0, .slice none 0 0] := new_at rfl
  have hb : Below w.heap.size w (w.alloc (.cells #[.int .i64 0, .int .i64 0, .int .i64 0, .bool false, .string ⟨#[]⟩, .int .i64 0, .slice none 0 0] 24)) := (Below.refl _ _).alloc (Nat.le_refl _) _
  have hopen := Crc.refopen_calls s (w.alloc (.cells #[.int .i64 0, .int .i64 0, .int .i64 0, .bool false, .string ⟨#[]⟩, .int .i64 0, .slice none 0 0] 24)) (by omega)
  have R := Lib.hid hR
  have B := Lib.hid hb
  clear hR hb
  cases hop : Crc.opened s.data.toList with
  | none =>
    rw [Crc.openedV, hop] at hopen
    have OP := Lib.hid hopen
    clear hopen hop h
    go_enter Try.func18, Try.ntmps18
    go_wp2_with fail
    refine OP.out.mono ?_
    rintro e w1 ⟨rfl, h1⟩
    have R1 := Lib.hid (R.out.below h1 R.out.lt)
    have B1 := Lib.hid (B.out.trans (h1.mono B.out.size))
    clear h1
    go_wp2_with (refine store_row R1.out [.int .i64 0, .int .i64 0, .int .i64 0, .bool false, .string ⟨#[]⟩, .int .i64 0, .slice none 0 0] 24 (by kernel_rfl) rfl zero_one rfl rfl rfl rfl ?_; intro wz hRz hcz hsz)
    refine rr_none hRz (below_one' B1.out hcz B1.out.size (Nat.le_refl _)) ?_ ?_ ?_ rfl
    · rfl
    · rfl
    · rfl
  | some t =>
    have h252 := h t hop
    rw [Crc.openedV, hop] at hopen
    have d252 : (((bs t).size : Int) != 252) = true := by rw [bs_size]; simp; omega
    have OP := Lib.hid hopen
    clear hopen hop h
    go_enter Try.func18, Try.ntmps18
    go_wp2_with fail
    refine OP.out.mono ?_
    rintro e w1 ⟨rfl, h1⟩
    have R1 := Lib.hid (R.out.below h1 R.out.lt)
    have B1 := Lib.hid (B.out.trans (h1.mono B.out.size))
    clear h1
    go_wp2_with (refine store_row R1.out [.int .i64 0, .int .i64 0, .int .i64 0, .bool false, .string ⟨#[]⟩, .int .i64 0, .slice none 0 0] 24 (by kernel_rfl) rfl zero_one rfl rfl rfl rfl ?_; intro wz hRz hcz hsz)
    refine rr_none hRz (below_one' B1.out hcz B1.out.size (Nat.le_refl _)) ?_ ?_ ?_ rfl
    · rfl
    · rfl
    · rfl

set_option maxHeartbeats 8000000 in
set_option maxRecDepth 8000 in
theorem refread_false (s : ByteArray) (w : World) (hs : s.size ≤ 100000) (t : List UInt8) (hop : Crc.opened s.data.toList = some t) (h252 : t.length = 252) (hhh : (num t 6 1 == 1) = false) : Calls Try.prog 18 #[.string s] w fun e w' => readPost (.bool false) (.bool true) (nRead s.data.toList) w e w' := by
  have hR : Row (w.alloc (.cells #[.int .i64 0, .int .i64 0, .int .i64 0, .bool false, .string ⟨#[]⟩, .int .i64 0, .slice none 0 0] 24)) w.heap.size 24 [.int .i64 0, .int .i64 0, .int .i64 0, .bool false, .string ⟨#[]⟩, .int .i64 0, .slice none 0 0] := new_at rfl
  have hb : Below w.heap.size w (w.alloc (.cells #[.int .i64 0, .int .i64 0, .int .i64 0, .bool false, .string ⟨#[]⟩, .int .i64 0, .slice none 0 0] 24)) := (Below.refl _ _).alloc (Nat.le_refl _) _
  have hopen := Crc.refopen_calls s (w.alloc (.cells #[.int .i64 0, .int .i64 0, .int .i64 0, .bool false, .string ⟨#[]⟩, .int .i64 0, .slice none 0 0] 24)) (by omega)
  have R := Lib.hid hR
  have B := Lib.hid hb
  clear hR hb
  rw [Crc.openedV, hop] at hopen
  have hrd : nRead s.data.toList = (parse t).bind (fun n => if n.fits = true ∧ n.bytes = s.data.toList then some n else none) := by
    unfold nRead
    rw [hop]
    simp only
    rw [if_pos h252]
    cases parse t <;> rfl
  have OP := Lib.hid hopen
  have RD := Lib.hid hrd
  have TL := Lib.hid h252
  have hTs : (bs t).size = 252 := h252
  have d252 : (((bs t).size : Int) != 252) = false := by rw [hTs]; rfl
  clear hopen hrd hop
  have i0 : 0 < (bs t).size := by omega
  have j0 : (0 : Int) < ((bs t).size : Int) := by omega
  obtain ⟨B0, h0⟩ : ∃ a, ((bs t)[0]'i0).toNat = a := ⟨_, rfl⟩
  have l0 : B0 < 256 := by rw [← h0]; exact ((bs t)[0]'i0).toNat_lt
  have i1 : 1 < (bs t).size := by omega
  have j1 : (1 : Int) < ((bs t).size : Int) := by omega
  obtain ⟨B1, h1⟩ : ∃ a, ((bs t)[1]'i1).toNat = a := ⟨_, rfl⟩
  have l1 : B1 < 256 := by rw [← h1]; exact ((bs t)[1]'i1).toNat_lt
  have i2 : 2 < (bs t).size := by omega
  have j2 : (2 : Int) < ((bs t).size : Int) := by omega
  obtain ⟨B2, h2⟩ : ∃ a, ((bs t)[2]'i2).toNat = a := ⟨_, rfl⟩
  have l2 : B2 < 256 := by rw [← h2]; exact ((bs t)[2]'i2).toNat_lt
  have i3 : 3 < (bs t).size := by omega
  have j3 : (3 : Int) < ((bs t).size : Int) := by omega
  obtain ⟨B3, h3⟩ : ∃ a, ((bs t)[3]'i3).toNat = a := ⟨_, rfl⟩
  have l3 : B3 < 256 := by rw [← h3]; exact ((bs t)[3]'i3).toNat_lt
  have i4 : 4 < (bs t).size := by omega
  have j4 : (4 : Int) < ((bs t).size : Int) := by omega
  obtain ⟨B4, h4⟩ : ∃ a, ((bs t)[4]'i4).toNat = a := ⟨_, rfl⟩
  have l4 : B4 < 256 := by rw [← h4]; exact ((bs t)[4]'i4).toNat_lt
  have i5 : 5 < (bs t).size := by omega
  have j5 : (5 : Int) < ((bs t).size : Int) := by omega
  obtain ⟨B5, h5⟩ : ∃ a, ((bs t)[5]'i5).toNat = a := ⟨_, rfl⟩
  have l5 : B5 < 256 := by rw [← h5]; exact ((bs t)[5]'i5).toNat_lt
  have i6 : 6 < (bs t).size := by omega
  have j6 : (6 : Int) < ((bs t).size : Int) := by omega
  obtain ⟨B6, h6⟩ : ∃ a, ((bs t)[6]'i6).toNat = a := ⟨_, rfl⟩
  have l6 : B6 < 256 := by rw [← h6]; exact ((bs t)[6]'i6).toNat_lt
  have i16 : 16 < (bs t).size := by omega
  have j16 : (16 : Int) < ((bs t).size : Int) := by omega
  obtain ⟨B16, h16⟩ : ∃ a, ((bs t)[16]'i16).toNat = a := ⟨_, rfl⟩
  have l16 : B16 < 256 := by rw [← h16]; exact ((bs t)[16]'i16).toNat_lt
  have i17 : 17 < (bs t).size := by omega
  have j17 : (17 : Int) < ((bs t).size : Int) := by omega
  obtain ⟨B17, h17⟩ : ∃ a, ((bs t)[17]'i17).toNat = a := ⟨_, rfl⟩
  have l17 : B17 < 256 := by rw [← h17]; exact ((bs t)[17]'i17).toNat_lt
  have i18 : 18 < (bs t).size := by omega
  have j18 : (18 : Int) < ((bs t).size : Int) := by omega
  obtain ⟨B18, h18⟩ : ∃ a, ((bs t)[18]'i18).toNat = a := ⟨_, rfl⟩
  have l18 : B18 < 256 := by rw [← h18]; exact ((bs t)[18]'i18).toNat_lt
  have i19 : 19 < (bs t).size := by omega
  have j19 : (19 : Int) < ((bs t).size : Int) := by omega
  obtain ⟨B19, h19⟩ : ∃ a, ((bs t)[19]'i19).toNat = a := ⟨_, rfl⟩
  have l19 : B19 < 256 := by rw [← h19]; exact ((bs t)[19]'i19).toNat_lt
  have n0 : num t 0 1 = B0 := by rw [num_get1 t 0 (by omega), ← h0]; rfl
  have n1 : num t 1 1 = B1 := by rw [num_get1 t 1 (by omega), ← h1]; rfl
  have n2 : num t 2 4 = B2 + B3 * 256 + B4 * 65536 + B5 * 16777216 := by rw [num_get4 t 2 (by omega), ← h2, ← h3, ← h4, ← h5]; rfl
  have n6 : num t 6 1 = B6 := by rw [num_get1 t 6 (by omega), ← h6]; rfl
  have n16 : num t 16 2 = B16 + 256 * B17 := by rw [num_get2 t 16 (by omega), ← h16, ← h17]; rfl
  have n18 : num t 18 2 = B18 + 256 * B19 := by rw [num_get2 t 18 (by omega), ← h18, ← h19]; rfl
  rw [n6] at hhh
  have hx6 : ((B6 : Int) == 1) = false := by
    rw [← hhh]
    by_cases q : B6 = 1
    · rw [q]; rfl
    · have q1 : ((B6 : Int) == 1) = false := by simp; omega
      have q2 : (B6 == 1) = false := by simp; omega
      rw [q1, q2]
  obtain ⟨m, hm⟩ : ∃ m, B18 + 256 * B19 = m := ⟨_, rfl⟩
  rw [hm] at n18
  have hm' : (B18 : Int) + (B19 : Int) * 256 = (m : Int) := by omega
  have hml : m < 65536 := by omega
  have N := Lib.hid (And.intro n0 (And.intro n1 (And.intro n2 (And.intro n6 (And.intro n16 n18)))))
  have HH := Lib.hid hhh
  clear n0 n1 n2 n6 n16 n18 hhh hm h252 hTs
  go_enter Try.func18, Try.ntmps18
  go_wp2_with fail
  refine OP.out.mono ?_
  rintro e w1 ⟨rfl, k⟩
  have R1 := Lib.hid (R.out.below k R.out.lt).drew
  have B1x := Lib.hid (B.out.trans (k.mono B.out.size)).drew
  clear k OP R B
  go_wp2_with fail
  have q0 : RowKit.Hid (IntKind.i64.wrap ((B0 : Int)) = (B0 : Int)) := Lib.hid (IntWalk.i64_in _ (by omega))
  have q1 : RowKit.Hid (IntKind.i64.wrap ((B1 : Int)) = (B1 : Int)) := Lib.hid (IntWalk.i64_in _ (by omega))
  have q2 : RowKit.Hid (IntKind.i64.wrap ((B2 : Int)) = (B2 : Int)) := Lib.hid (IntWalk.i64_in _ (by omega))
  have q3 : RowKit.Hid (IntKind.i64.wrap ((B3 : Int)) = (B3 : Int)) := Lib.hid (IntWalk.i64_in _ (by omega))
  have q4 : RowKit.Hid (IntKind.i64.wrap ((B4 : Int)) = (B4 : Int)) := Lib.hid (IntWalk.i64_in _ (by omega))
  have q5 : RowKit.Hid (IntKind.i64.wrap ((B5 : Int)) = (B5 : Int)) := Lib.hid (IntWalk.i64_in _ (by omega))
  have q6 : RowKit.Hid (IntKind.i64.wrap ((B16 : Int)) = (B16 : Int)) := Lib.hid (IntWalk.i64_in _ (by omega))
  have q7 : RowKit.Hid (IntKind.i64.wrap ((B17 : Int)) = (B17 : Int)) := Lib.hid (IntWalk.i64_in _ (by omega))
  have q8 : RowKit.Hid (IntKind.i64.wrap ((B18 : Int)) = (B18 : Int)) := Lib.hid (IntWalk.i64_in _ (by omega))
  have q9 : RowKit.Hid (IntKind.i64.wrap ((B19 : Int)) = (B19 : Int)) := Lib.hid (IntWalk.i64_in _ (by omega))
  have q10 : RowKit.Hid (IntKind.i64.wrap ((B3 : Int) * 256) = (B3 : Int) * 256) := Lib.hid (IntWalk.i64_in _ (by omega))
  have q11 : RowKit.Hid (IntKind.i64.wrap ((B2 : Int) + (B3 : Int) * 256) = (B2 : Int) + (B3 : Int) * 256) := Lib.hid (IntWalk.i64_in _ (by omega))
  have q12 : RowKit.Hid (IntKind.i64.wrap ((B4 : Int) * 65536) = (B4 : Int) * 65536) := Lib.hid (IntWalk.i64_in _ (by omega))
  have q13 : RowKit.Hid (IntKind.i64.wrap ((B2 : Int) + (B3 : Int) * 256 + (B4 : Int) * 65536) = (B2 : Int) + (B3 : Int) * 256 + (B4 : Int) * 65536) := Lib.hid (IntWalk.i64_in _ (by omega))
  have q14 : RowKit.Hid (IntKind.i64.wrap ((B5 : Int) * 16777216) = (B5 : Int) * 16777216) := Lib.hid (IntWalk.i64_in _ (by omega))
  have q15 : RowKit.Hid (IntKind.i64.wrap ((B2 : Int) + (B3 : Int) * 256 + (B4 : Int) * 65536 + (B5 : Int) * 16777216) = (B2 : Int) + (B3 : Int) * 256 + (B4 : Int) * 65536 + (B5 : Int) * 16777216) := Lib.hid (IntWalk.i64_in _ (by omega))
  have q16 : RowKit.Hid (IntKind.i64.wrap ((B17 : Int) * 256) = (B17 : Int) * 256) := Lib.hid (IntWalk.i64_in _ (by omega))
  have q17 : RowKit.Hid (IntKind.i64.wrap ((B16 : Int) + (B17 : Int) * 256) = (B16 : Int) + (B17 : Int) * 256) := Lib.hid (IntWalk.i64_in _ (by omega))
  have q18 : RowKit.Hid (IntKind.i64.wrap ((B19 : Int) * 256) = (B19 : Int) * 256) := Lib.hid (IntWalk.i64_in _ (by omega))
  have q19 : RowKit.Hid (IntKind.i64.wrap ((B18 : Int) + (B19 : Int) * 256) = (B18 : Int) + (B19 : Int) * 256) := Lib.hid (IntWalk.i64_in _ (by omega))
  have e0 := q0.out
  have e1 := q1.out
  have e2 := q2.out
  have e3 := q3.out
  have e4 := q4.out
  have e5 := q5.out
  have e6 := q6.out
  have e7 := q7.out
  have e8 := q8.out
  have e9 := q9.out
  have e10 := q10.out
  have e11 := q11.out
  have e12 := q12.out
  have e13 := q13.out
  have e14 := q14.out
  have e15 := q15.out
  have e16 := q16.out
  have e17 := q17.out
  have e18 := q18.out
  have e19 := q19.out
  refine Reg.start (fun _ => True) (fun i => i == 37) (by kernel_rfl) trivial (fun hHeld => ?_)
  generalize w1.drew = wd at *
  refine Reg.takeI 0 (v := ?_) rfl (by kernel_rfl) (by kernel_rfl) (by kernel_rfl) (by kernel_rfl) (fun _ _ _ h => h) (by rfl) ?_ hHeld ?_
  rotate_left 1
  · (intro w hSw; (try dsimp only at hSw); go_simp; try with_reducible rfl)
  try simp only [Act.put, List.setIfInBounds_toArray, List.set_cons_zero, List.set_cons_succ]
  refine Reg.takeI 1 (v := ?_) rfl (by kernel_rfl) (by kernel_rfl) (by kernel_rfl) (by kernel_rfl) (fun _ _ _ h => h) (by rfl) ?_ hHeld ?_
  rotate_left 1
  · (intro w hSw; (try dsimp only at hSw); go_simp; try with_reducible rfl)
  try simp only [Act.put, List.setIfInBounds_toArray, List.set_cons_zero, List.set_cons_succ]
  refine Reg.takeI 2 (v := ?_) rfl (by kernel_rfl) (by kernel_rfl) (by kernel_rfl) (by kernel_rfl) (fun _ _ _ h => h) (by rfl) ?_ hHeld ?_
  rotate_left 1
  · (intro w hSw; (try dsimp only at hSw); go_simp; try with_reducible rfl)
  try simp only [Act.put, List.setIfInBounds_toArray, List.set_cons_zero, List.set_cons_succ]
  refine Reg.takeI 3 (v := ?_) rfl (by kernel_rfl) (by kernel_rfl) (by kernel_rfl) (by kernel_rfl) (fun _ _ _ h => h) (by rfl) ?_ hHeld ?_
  rotate_left 1
  · (intro w hSw; (try dsimp only at hSw); go_simp; try with_reducible rfl)
  try simp only [Act.put, List.setIfInBounds_toArray, List.set_cons_zero, List.set_cons_succ]
  refine Reg.takeI 4 (v := ?_) rfl (by kernel_rfl) (by kernel_rfl) (by kernel_rfl) (by kernel_rfl) (fun _ _ _ h => h) (by rfl) ?_ hHeld ?_
  rotate_left 1
  · (intro w hSw; (try dsimp only at hSw); go_simp; try with_reducible rfl)
  try simp only [Act.put, List.setIfInBounds_toArray, List.set_cons_zero, List.set_cons_succ]
  refine Reg.takeI 5 (v := ?_) rfl (by kernel_rfl) (by kernel_rfl) (by kernel_rfl) (by kernel_rfl) (fun _ _ _ h => h) (by rfl) ?_ hHeld ?_
  rotate_left 1
  · (intro w hSw; (try dsimp only at hSw); go_simp; try with_reducible rfl)
  try simp only [Act.put, List.setIfInBounds_toArray, List.set_cons_zero, List.set_cons_succ]
  refine Reg.takeI 6 (v := ?_) rfl (by kernel_rfl) (by kernel_rfl) (by kernel_rfl) (by kernel_rfl) (fun _ _ _ h => h) (by rfl) ?_ hHeld ?_
  rotate_left 1
  · (intro w hSw; (try dsimp only at hSw); go_simp; try with_reducible rfl)
  try simp only [Act.put, List.setIfInBounds_toArray, List.set_cons_zero, List.set_cons_succ]
  refine Reg.takeI 7 (v := ?_) rfl (by kernel_rfl) (by kernel_rfl) (by kernel_rfl) (by kernel_rfl) (fun _ _ _ h => h) (by rfl) ?_ hHeld ?_
  rotate_left 1
  · (intro w hSw; (try dsimp only at hSw); go_simp; try with_reducible rfl)
  try simp only [Act.put, List.setIfInBounds_toArray, List.set_cons_zero, List.set_cons_succ]
  refine Reg.takeI 8 (v := ?_) rfl (by kernel_rfl) (by kernel_rfl) (by kernel_rfl) (by kernel_rfl) (fun _ _ _ h => h) (by rfl) ?_ hHeld ?_
  rotate_left 1
  · (intro w hSw; (try dsimp only at hSw); go_simp; try with_reducible rfl)
  try simp only [Act.put, List.setIfInBounds_toArray, List.set_cons_zero, List.set_cons_succ]
  refine Reg.takeI 9 (v := ?_) rfl (by kernel_rfl) (by kernel_rfl) (by kernel_rfl) (by kernel_rfl) (fun _ _ _ h => h) (by rfl) ?_ hHeld ?_
  rotate_left 1
  · (intro w hSw; (try dsimp only at hSw); go_simp; try with_reducible rfl)
  try simp only [Act.put, List.setIfInBounds_toArray, List.set_cons_zero, List.set_cons_succ]
  refine Reg.takeI 10 (v := ?_) rfl (by kernel_rfl) (by kernel_rfl) (by kernel_rfl) (by kernel_rfl) (fun _ _ _ h => h) (by rfl) ?_ hHeld ?_
  rotate_left 1
  · (intro w hSw; (try dsimp only at hSw); go_simp; try with_reducible rfl)
  try simp only [Act.put, List.setIfInBounds_toArray, List.set_cons_zero, List.set_cons_succ]
  refine Reg.takeI 11 (v := ?_) rfl (by kernel_rfl) (by kernel_rfl) (by kernel_rfl) (by kernel_rfl) (fun _ _ _ h => h) (by rfl) ?_ hHeld ?_
  rotate_left 1
  · (intro w hSw; (try dsimp only at hSw); go_simp; try with_reducible rfl)
  try simp only [Act.put, List.setIfInBounds_toArray, List.set_cons_zero, List.set_cons_succ]
  refine Reg.takeI 12 (v := ?_) rfl (by kernel_rfl) (by kernel_rfl) (by kernel_rfl) (by kernel_rfl) (fun _ _ _ h => h) (by rfl) ?_ hHeld ?_
  rotate_left 1
  · (intro w hSw; (try dsimp only at hSw); go_simp; try with_reducible rfl)
  try simp only [Act.put, List.setIfInBounds_toArray, List.set_cons_zero, List.set_cons_succ]
  refine Reg.takeI 13 (v := ?_) rfl (by kernel_rfl) (by kernel_rfl) (by kernel_rfl) (by kernel_rfl) (fun _ _ _ h => h) (by rfl) ?_ hHeld ?_
  rotate_left 1
  · (intro w hSw; (try dsimp only at hSw); go_simp; try with_reducible rfl)
  try simp only [Act.put, List.setIfInBounds_toArray, List.set_cons_zero, List.set_cons_succ]
  refine Reg.takeI 14 (v := ?_) rfl (by kernel_rfl) (by kernel_rfl) (by kernel_rfl) (by kernel_rfl) (fun _ _ _ h => h) (by rfl) ?_ hHeld ?_
  rotate_left 1
  · (intro w hSw; (try dsimp only at hSw); go_simp; try with_reducible rfl)
  try simp only [Act.put, List.setIfInBounds_toArray, List.set_cons_zero, List.set_cons_succ]
  refine Reg.takeI 15 (v := ?_) rfl (by kernel_rfl) (by kernel_rfl) (by kernel_rfl) (by kernel_rfl) (fun _ _ _ h => h) (by rfl) ?_ hHeld ?_
  rotate_left 1
  · (intro w hSw; (try dsimp only at hSw); go_simp; try with_reducible rfl)
  try simp only [Act.put, List.setIfInBounds_toArray, List.set_cons_zero, List.set_cons_succ]
  refine Reg.takeI 16 (v := ?_) rfl (by kernel_rfl) (by kernel_rfl) (by kernel_rfl) (by kernel_rfl) (fun _ _ _ h => h) (by rfl) ?_ hHeld ?_
  rotate_left 1
  · (intro w hSw; (try dsimp only at hSw); go_simp; try with_reducible rfl)
  try simp only [Act.put, List.setIfInBounds_toArray, List.set_cons_zero, List.set_cons_succ]
  refine Reg.takeI 17 (v := ?_) rfl (by kernel_rfl) (by kernel_rfl) (by kernel_rfl) (by kernel_rfl) (fun _ _ _ h => h) (by rfl) ?_ hHeld ?_
  rotate_left 1
  · (intro w hSw; (try dsimp only at hSw); go_simp; try with_reducible rfl)
  try simp only [Act.put, List.setIfInBounds_toArray, List.set_cons_zero, List.set_cons_succ]
  refine Reg.takeI 18 (v := ?_) rfl (by kernel_rfl) (by kernel_rfl) (by kernel_rfl) (by kernel_rfl) (fun _ _ _ h => h) (by rfl) ?_ hHeld ?_
  rotate_left 1
  · (intro w hSw; (try dsimp only at hSw); go_simp; try with_reducible rfl)
  try simp only [Act.put, List.setIfInBounds_toArray, List.set_cons_zero, List.set_cons_succ]
  refine Reg.takeI 19 (v := ?_) rfl (by kernel_rfl) (by kernel_rfl) (by kernel_rfl) (by kernel_rfl) (fun _ _ _ h => h) (by rfl) ?_ hHeld ?_
  rotate_left 1
  · (intro w hSw; (try dsimp only at hSw); go_simp; try with_reducible rfl)
  try simp only [Act.put, List.setIfInBounds_toArray, List.set_cons_zero, List.set_cons_succ]
  refine Reg.takeI 20 (v := ?_) rfl (by kernel_rfl) (by kernel_rfl) (by kernel_rfl) (by kernel_rfl) (fun _ _ _ h => h) (by rfl) ?_ hHeld ?_
  rotate_left 1
  · (intro w hSw; (try dsimp only at hSw); go_simp; try with_reducible rfl)
  try simp only [Act.put, List.setIfInBounds_toArray, List.set_cons_zero, List.set_cons_succ]
  refine Reg.takeI 21 (v := ?_) rfl (by kernel_rfl) (by kernel_rfl) (by kernel_rfl) (by kernel_rfl) (fun _ _ _ h => h) (by rfl) ?_ hHeld ?_
  rotate_left 1
  · (intro w hSw; (try dsimp only at hSw); go_simp; try with_reducible rfl)
  try simp only [Act.put, List.setIfInBounds_toArray, List.set_cons_zero, List.set_cons_succ]
  refine Reg.takeI 22 (v := ?_) rfl (by kernel_rfl) (by kernel_rfl) (by kernel_rfl) (by kernel_rfl) (fun _ _ _ h => h) (by rfl) ?_ hHeld ?_
  rotate_left 1
  · (intro w hSw; (try dsimp only at hSw); go_simp; try with_reducible rfl)
  try simp only [Act.put, List.setIfInBounds_toArray, List.set_cons_zero, List.set_cons_succ]
  refine Reg.takeI 23 (v := ?_) rfl (by kernel_rfl) (by kernel_rfl) (by kernel_rfl) (by kernel_rfl) (fun _ _ _ h => h) (by rfl) ?_ hHeld ?_
  rotate_left 1
  · (intro w hSw; (try dsimp only at hSw); go_simp; try with_reducible rfl)
  try simp only [Act.put, List.setIfInBounds_toArray, List.set_cons_zero, List.set_cons_succ]
  refine Reg.takeI 24 (v := ?_) rfl (by kernel_rfl) (by kernel_rfl) (by kernel_rfl) (by kernel_rfl) (fun _ _ _ h => h) (by rfl) ?_ hHeld ?_
  rotate_left 1
  · (intro w hSw; (try dsimp only at hSw); go_simp; try with_reducible rfl)
  try simp only [Act.put, List.setIfInBounds_toArray, List.set_cons_zero, List.set_cons_succ]
  refine Reg.takeI 25 (v := ?_) rfl (by kernel_rfl) (by kernel_rfl) (by kernel_rfl) (by kernel_rfl) (fun _ _ _ h => h) (by rfl) ?_ hHeld ?_
  rotate_left 1
  · (intro w hSw; (try dsimp only at hSw); go_simp; try with_reducible rfl)
  try simp only [Act.put, List.setIfInBounds_toArray, List.set_cons_zero, List.set_cons_succ]
  refine Reg.takeI 26 (v := ?_) rfl (by kernel_rfl) (by kernel_rfl) (by kernel_rfl) (by kernel_rfl) (fun _ _ _ h => h) (by rfl) ?_ hHeld ?_
  rotate_left 1
  · (intro w hSw; (try dsimp only at hSw); go_simp; try with_reducible rfl)
  try simp only [Act.put, List.setIfInBounds_toArray, List.set_cons_zero, List.set_cons_succ]
  refine Reg.takeI 27 (v := ?_) rfl (by kernel_rfl) (by kernel_rfl) (by kernel_rfl) (by kernel_rfl) (fun _ _ _ h => h) (by rfl) ?_ hHeld ?_
  rotate_left 1
  · (intro w hSw; (try dsimp only at hSw); go_simp; try with_reducible rfl)
  try simp only [Act.put, List.setIfInBounds_toArray, List.set_cons_zero, List.set_cons_succ]
  refine Reg.takeI 28 (v := ?_) rfl (by kernel_rfl) (by kernel_rfl) (by kernel_rfl) (by kernel_rfl) (fun _ _ _ h => h) (by rfl) ?_ hHeld ?_
  rotate_left 1
  · (intro w hSw; (try dsimp only at hSw); go_simp; try with_reducible rfl)
  try simp only [Act.put, List.setIfInBounds_toArray, List.set_cons_zero, List.set_cons_succ]
  refine Reg.takeI 29 (v := ?_) rfl (by kernel_rfl) (by kernel_rfl) (by kernel_rfl) (by kernel_rfl) (fun _ _ _ h => h) (by rfl) ?_ hHeld ?_
  rotate_left 1
  · (intro w hSw; (try dsimp only at hSw); go_simp; try with_reducible rfl)
  try simp only [Act.put, List.setIfInBounds_toArray, List.set_cons_zero, List.set_cons_succ]
  refine Reg.takeI 30 (v := ?_) rfl (by kernel_rfl) (by kernel_rfl) (by kernel_rfl) (by kernel_rfl) (fun _ _ _ h => h) (by rfl) ?_ hHeld ?_
  rotate_left 1
  · (intro w hSw; (try dsimp only at hSw); go_simp; try with_reducible rfl)
  try simp only [Act.put, List.setIfInBounds_toArray, List.set_cons_zero, List.set_cons_succ]
  refine Reg.takeI 31 (v := ?_) rfl (by kernel_rfl) (by kernel_rfl) (by kernel_rfl) (by kernel_rfl) (fun _ _ _ h => h) (by rfl) ?_ hHeld ?_
  rotate_left 1
  · (intro w hSw; (try dsimp only at hSw); go_simp; try with_reducible rfl)
  try simp only [Act.put, List.setIfInBounds_toArray, List.set_cons_zero, List.set_cons_succ]
  refine Reg.takeI 32 (v := ?_) rfl (by kernel_rfl) (by kernel_rfl) (by kernel_rfl) (by kernel_rfl) (fun _ _ _ h => h) (by rfl) ?_ hHeld ?_
  rotate_left 1
  · (intro w hSw; (try dsimp only at hSw); go_simp; try with_reducible rfl)
  try simp only [Act.put, List.setIfInBounds_toArray, List.set_cons_zero, List.set_cons_succ]
  refine Reg.takeI 33 (v := ?_) rfl (by kernel_rfl) (by kernel_rfl) (by kernel_rfl) (by kernel_rfl) (fun _ _ _ h => h) (by rfl) ?_ hHeld ?_
  rotate_left 1
  · (intro w hSw; (try dsimp only at hSw); go_simp; try with_reducible rfl)
  try simp only [Act.put, List.setIfInBounds_toArray, List.set_cons_zero, List.set_cons_succ]
  refine Reg.takeI 34 (v := ?_) rfl (by kernel_rfl) (by kernel_rfl) (by kernel_rfl) (by kernel_rfl) (fun _ _ _ h => h) (by rfl) ?_ hHeld ?_
  rotate_left 1
  · (intro w hSw; (try dsimp only at hSw); go_simp; try with_reducible rfl)
  try simp only [Act.put, List.setIfInBounds_toArray, List.set_cons_zero, List.set_cons_succ]
  refine Reg.takeI 35 (v := ?_) rfl (by kernel_rfl) (by kernel_rfl) (by kernel_rfl) (by kernel_rfl) (fun _ _ _ h => h) (by rfl) ?_ hHeld ?_
  rotate_left 1
  · (intro w hSw; (try dsimp only at hSw); go_simp; try with_reducible rfl)
  try simp only [Act.put, List.setIfInBounds_toArray, List.set_cons_zero, List.set_cons_succ]
  refine Reg.oneI 36 rfl (by kernel_rfl) (by rfl) (fun K hK => ?_)
  go_simp
  refine hK.out _ _ (fun _ => trivial) (fun hHeld => ?_)
  replace hHeld := hHeld (by first | rfl | trivial)
  clear hK K
  try simp only [Act.put, List.setIfInBounds_toArray, List.set_cons_zero, List.set_cons_succ]
  refine Reg.oneI 37 rfl (by kernel_rfl) (by rfl) (fun K hK => ?_)
  go_simp
  refine hK.out _ _ (fun h => by cases h) (fun _ => ?_)
  clear hK K
  try simp only [Act.put, List.setIfInBounds_toArray, List.set_cons_zero, List.set_cons_succ]
  refine Reg.doneI (by kernel_rfl) ?_
  have W4 := Lib.hid hm'
  clear e0 e1 e2 e3 e4 e5 e6 e7 e8 e9 e10 e11 e12 e13 e14 e15 e16 e17 e18 e19 hm' h0 h1 h2 h3 h4 h5 h6 h16 h17 hx6
  have hwd : w.heap.size < wd.heap.size := R1.out.lt
  have NR := Lib.hid (new_at rfl : Row (wd.alloc (.cells #[.int .i64 (B0 : Int), .int .i64 (B1 : Int), .int .i64 ((B2 : Int) + (B3 : Int) * 256 + (B4 : Int) * 65536 + (B5 : Int) * 16777216), .bool false, .string ⟨#[]⟩, .int .i64 ((B16 : Int) + (B17 : Int) * 256), .slice none 0 0] 24)) wd.heap.size 24 [.int .i64 (B0 : Int), .int .i64 (B1 : Int), .int .i64 ((B2 : Int) + (B3 : Int) * 256 + (B4 : Int) * 65536 + (B5 : Int) * 16777216), .bool false, .string ⟨#[]⟩, .int .i64 ((B16 : Int) + (B17 : Int) * 256), .slice none 0 0])
  have R1 := Lib.hid (R1.out.alloc (.cells #[.int .i64 (B0 : Int), .int .i64 (B1 : Int), .int .i64 ((B2 : Int) + (B3 : Int) * 256 + (B4 : Int) * 65536 + (B5 : Int) * 16777216), .bool false, .string ⟨#[]⟩, .int .i64 ((B16 : Int) + (B17 : Int) * 256), .slice none 0 0] 24))
  have B1x := Lib.hid (B1x.out.alloc B1x.out.size (.cells #[.int .i64 (B0 : Int), .int .i64 (B1 : Int), .int .i64 ((B2 : Int) + (B3 : Int) * 256 + (B4 : Int) * 65536 + (B5 : Int) * 16777216), .bool false, .string ⟨#[]⟩, .int .i64 ((B16 : Int) + (B17 : Int) * 256), .slice none 0 0] 24))
  have SZ := Lib.hid (show (wd.alloc (.cells #[.int .i64 (B0 : Int), .int .i64 (B1 : Int), .int .i64 ((B2 : Int) + (B3 : Int) * 256 + (B4 : Int) * 65536 + (B5 : Int) * 16777216), .bool false, .string ⟨#[]⟩, .int .i64 ((B16 : Int) + (B17 : Int) * 256), .slice none 0 0] 24)).heap.size = wd.heap.size + 1 by simp)
  generalize (wd.alloc (.cells #[.int .i64 (B0 : Int), .int .i64 (B1 : Int), .int .i64 ((B2 : Int) + (B3 : Int) * 256 + (B4 : Int) * 65536 + (B5 : Int) * 16777216), .bool false, .string ⟨#[]⟩, .int .i64 ((B16 : Int) + (B17 : Int) * 256), .slice none 0 0] 24)) = w4 at *
  generalize wd.heap.size = nb at *
  have n3 := NR.out.cell (i := 3) rfl
  go_wp2_with fail
  have R1 := Lib.hid R1.out.drew
  have B1x := Lib.hid B1x.out.drew
  have NR := Lib.hid NR.out.drew
  have hm' := W4.out
  have eA := q8.out
  have eB := q9.out
  have eC := q18.out
  have eD : IntKind.i64.wrap (m : Int) = (m : Int) := IntWalk.i64_in _ (by omega)
  have HBS := Lib.hid (show w4.drew.heap.size = nb + 1 from SZ.out)
  clear n3 SZ
  refine Reg.start (fun _ => True) (fun i => false) (by kernel_rfl) trivial (fun hHeld => ?_)
  generalize w4.drew = w5 at *
  refine Reg.takeI 0 (v := ?_) rfl (by kernel_rfl) (by kernel_rfl) (by kernel_rfl) (by kernel_rfl) (fun _ _ _ h => h) (by rfl) ?_ hHeld ?_
  rotate_left 1
  · (intro w hSw; (try dsimp only at hSw); go_simp; try with_reducible rfl)
  try simp only [Act.put, List.setIfInBounds_toArray, List.set_cons_zero, List.set_cons_succ]
  refine Reg.takeI 1 (v := ?_) rfl (by kernel_rfl) (by kernel_rfl) (by kernel_rfl) (by kernel_rfl) (fun _ _ _ h => h) (by rfl) ?_ hHeld ?_
  rotate_left 1
  · (intro w hSw; (try dsimp only at hSw); go_simp; try with_reducible rfl)
  try simp only [Act.put, List.setIfInBounds_toArray, List.set_cons_zero, List.set_cons_succ]
  refine Reg.takeI 2 (v := ?_) rfl (by kernel_rfl) (by kernel_rfl) (by kernel_rfl) (by kernel_rfl) (fun _ _ _ h => h) (by rfl) ?_ hHeld ?_
  rotate_left 1
  · (intro w hSw; (try dsimp only at hSw); go_simp; try with_reducible rfl)
  try simp only [Act.put, List.setIfInBounds_toArray, List.set_cons_zero, List.set_cons_succ]
  refine Reg.takeI 3 (v := ?_) rfl (by kernel_rfl) (by kernel_rfl) (by kernel_rfl) (by kernel_rfl) (fun _ _ _ h => h) (by rfl) ?_ hHeld ?_
  rotate_left 1
  · (intro w hSw; (try dsimp only at hSw); go_simp; try with_reducible rfl)
  try simp only [Act.put, List.setIfInBounds_toArray, List.set_cons_zero, List.set_cons_succ]
  refine Reg.takeI 4 (v := ?_) rfl (by kernel_rfl) (by kernel_rfl) (by kernel_rfl) (by kernel_rfl) (fun _ _ _ h => h) (by rfl) ?_ hHeld ?_
  rotate_left 1
  · (intro w hSw; (try dsimp only at hSw); go_simp; try with_reducible rfl)
  try simp only [Act.put, List.setIfInBounds_toArray, List.set_cons_zero, List.set_cons_succ]
  refine Reg.takeI 5 (v := ?_) rfl (by kernel_rfl) (by kernel_rfl) (by kernel_rfl) (by kernel_rfl) (fun _ _ _ h => h) (by rfl) ?_ hHeld ?_
  rotate_left 1
  · (intro w hSw; (try dsimp only at hSw); go_simp; try with_reducible rfl)
  try simp only [Act.put, List.setIfInBounds_toArray, List.set_cons_zero, List.set_cons_succ]
  refine Reg.takeI 6 (v := ?_) rfl (by kernel_rfl) (by kernel_rfl) (by kernel_rfl) (by kernel_rfl) (fun _ _ _ h => h) (by rfl) ?_ hHeld ?_
  rotate_left 1
  · (intro w hSw; (try dsimp only at hSw); go_simp; try with_reducible rfl)
  try simp only [Act.put, List.setIfInBounds_toArray, List.set_cons_zero, List.set_cons_succ]
  refine Reg.takeI 7 (v := ?_) rfl (by kernel_rfl) (by kernel_rfl) (by kernel_rfl) (by kernel_rfl) (fun _ _ _ h => h) (by rfl) ?_ hHeld ?_
  rotate_left 1
  · (intro w hSw; (try dsimp only at hSw); go_simp; try with_reducible rfl)
  try simp only [Act.put, List.setIfInBounds_toArray, List.set_cons_zero, List.set_cons_succ]
  refine Reg.takeI 8 (v := ?_) rfl (by kernel_rfl) (by kernel_rfl) (by kernel_rfl) (by kernel_rfl) (fun _ _ _ h => h) (by rfl) ?_ hHeld ?_
  rotate_left 1
  · (intro w hSw; (try dsimp only at hSw); go_simp; try with_reducible rfl)
  try simp only [Act.put, List.setIfInBounds_toArray, List.set_cons_zero, List.set_cons_succ]
  refine Reg.doneI (by kernel_rfl) ?_
  clear eA eB eC eD hm' h18 h19
  have HI := Lib.hid (show hd t [] = ⟨(B0 : Int), (B1 : Int), (B2 : Int) + (B3 : Int) * 256 + (B4 : Int) * 65536 + (B5 : Int) * 16777216, false, ⟨#[]⟩, (B16 : Int) + (B17 : Int) * 256, []⟩ from by
    obtain ⟨n0, n1, n2, n6, n16, _⟩ := N.out
    unfold hd
    rw [n0, n1, n2, n6, n16, HH.out]
    simp only [Nd.mk.injEq]
    refine ⟨trivial, trivial, by omega, trivial, ?_, by omega, trivial⟩
    rw [if_neg (by intro q; have := HH.out; rw [q] at this; cases this)])
  go_wp2_with fail
  generalize w5 = w5 at *
  go_loopw [8, 9] (fun av i wr => ∃ (k a : Nat) (vs : List Ent) (p : Value), k ≤ m ∧ av = .int .i64 a ∧ i = .int .i64 k ∧ vs.length = k ∧ a ≤ 252 ∧ a = 20 + size0 vs ∧ entsN m (t.drop 20) = (entsN (m - k) (t.drop a)).map (vs ++ ·) ∧ (∀ e ∈ vs, e.key.size ≤ 9) ∧ Row wr nb 24 [.int .i64 (B0 : Int), .int .i64 (B1 : Int), .int .i64 ((B2 : Int) + (B3 : Int) * 256 + (B4 : Int) * 65536 + (B5 : Int) * 16777216), .bool false, .string (⟨#[]⟩), .int .i64 ((B16 : Int) + (B17 : Int) * 256), p] ∧ wr.ownsRow (nb + 1) 44 3 p k (vs.flatMap Ent.cells) ∧ Row wr w.heap.size 24 [.int .i64 0, .int .i64 0, .int .i64 0, .bool false, .string ⟨#[]⟩, .int .i64 0, .slice none 0 0] ∧ Below w.heap.size w wr ∧ nb + 1 ≤ wr.heap.size) (fun _ i _ => m - (intOf i).toNat)
  case atStart => exact ⟨0, 20, [], .slice none 0 0, by omega, rfl, rfl, rfl, by omega, rfl, by simp, (fun e he => by cases he), NR.out, World.ownsRow_nil _ _ _ _, R1.out, B1x.out, Nat.le_of_eq HBS.out.symm⟩
  case round =>
    clear NR R1 B1x HBS
    obtain ⟨k, a, vs, p, hk, rfl, rfl, hvl, ha, has, hI, hks, hN, hO, hR, hB, hS⟩ := hrel
    have t1 : 252 ≤ (bs t).size := Nat.le_of_eq TL.out.symm
    have t2 : (bs t).size ≤ 252 := Nat.le_of_eq TL.out
    have VL := Lib.hid hvl
    have AS := Lib.hid has
    have I := Lib.hid hI
    have KS := Lib.hid hks
    have XN := Lib.hid hN
    have XO := Lib.hid hO
    have XR := Lib.hid hR
    have XB := Lib.hid hB
    clear hvl has hI hks hN hO hR hB
    by_cases hlt : k < m
    · have hlt' : (k : Int) < (m : Int) := by omega
      have hdl : (t.drop a).length = 252 - a := by rw [List.length_drop, TL.out]
      by_cases d1 : 252 < a + 11
      · have d1' : (252 : Int) < (a : Int) + 11 := by omega
        have hf : entFits (t.drop a) = false := by unfold entFits; rw [hdl]; simp; omega
        have hnn : nRead s.data.toList = none := by
          rw [RD.out]
          unfold parse
          rw [N.out.2.2.2.2.2, entsN_stop hlt hf I.out]
          rfl
        have NN := Lib.hid hnn
        clear hf hnn hdl
        go_wp2_with (refine store_row XR.out [.int .i64 0, .int .i64 0, .int .i64 0, .bool false, .string ⟨#[]⟩, .int .i64 0, .slice none 0 0] 24 (by kernel_rfl) rfl zero_one rfl rfl rfl rfl ?_; intro wz hRz hcz hsz)
        exact rr_none hRz (below_one' XB.out hcz XB.out.size (Nat.le_refl _)) rfl rfl rfl NN.out
      have d1' : ¬ (252 : Int) < (a : Int) + 11 := by omega
      have d1d : decide ((252 : Int) < (a : Int) + 11) = false := by simp; omega
      have i10 : a + 10 < (bs t).size := by omega
      have j10 : (a : Int) + 10 < ((bs t).size : Int) := by omega
      obtain ⟨c, hc⟩ : ∃ x, ((bs t)[a + 10]'i10).toNat = x := ⟨_, rfl⟩
      have lc : c < 256 := by rw [← hc]; exact ((bs t)[a + 10]'i10).toNat_lt
      have hnc : num (t.drop a) 10 1 = c := by rw [num_drop, num_get1 t (a + 10) (by rw [TL.out]; omega), ← hc]; rfl
      have NC := Lib.hid hnc
      clear hnc
      by_cases d2 : 252 < a + 11 + c
      · have d2' : (252 : Int) < (a : Int) + 11 + (c : Int) := by omega
        have hf : entFits (t.drop a) = false := by unfold entFits entLen; rw [hdl, NC.out]; simp; omega
        have hnn : nRead s.data.toList = none := by
          rw [RD.out]
          unfold parse
          rw [N.out.2.2.2.2.2, entsN_stop hlt hf I.out]
          rfl
        have NN := Lib.hid hnn
        clear hf hnn hdl
        go_wp2_with (refine store_row XR.out [.int .i64 0, .int .i64 0, .int .i64 0, .bool false, .string ⟨#[]⟩, .int .i64 0, .slice none 0 0] 24 (by kernel_rfl) rfl zero_one rfl rfl rfl rfl ?_; intro wz hRz hcz hsz)
        exact rr_none hRz (below_one' XB.out hcz XB.out.size (Nat.le_refl _)) rfl rfl rfl NN.out
      have d2' : ¬ (252 : Int) < (a : Int) + 11 + (c : Int) := by omega
      have hf : entFits (t.drop a) = true := by unfold entFits entLen; rw [hdl, NC.out]; simp; omega
      have NX := Lib.hid (entsN_next hlt hf I.out)
      have i9 : a + 9 < (bs t).size := by omega
      have j9 : (a : Int) + 9 < ((bs t).size : Int) := by omega
      obtain ⟨g, hg⟩ : ∃ x, ((bs t)[a + 9]'i9).toNat = x := ⟨_, rfl⟩
      have hng : num (t.drop a) 9 1 = g := by rw [num_drop, num_get1 t (a + 9) (by rw [TL.out]; omega), ← hg]; rfl
      obtain ⟨gh, hgh⟩ : ∃ x, (g == 1) = x := ⟨_, rfl⟩
      have hge : entOf (t.drop a) = ⟨bs ((t.drop a).take 9), bs ((t.drop (a + 11)).take c), gh⟩ := by unfold entOf; rw [hng, NC.out, hgh, List.drop_drop]
      have hgi : ((g : Int) == 1) = gh := by
        rw [← hgh]
        by_cases q : g = 1
        · rw [q]; rfl
        · have q1 : ((g : Int) == 1) = false := by simp; omega
          have q2 : (g == 1) = false := by simp; omega
          rw [q1, q2]
      have hel : entLen (t.drop a) = 11 + c := by unfold entLen; rw [NC.out]
      have hdd : (t.drop a).drop (entLen (t.drop a)) = t.drop (a + 11 + c) := by rw [hel, List.drop_drop]; congr 1; omega
      have hks9 : (bs ((t.drop a).take 9)).size = 9 := cut_size (by rw [TL.out]; omega)
      have hvsc : (bs ((t.drop (a + 11)).take c)).size = c := cut_size (by rw [TL.out]; omega)
      have x1 : (bs t).extract a (a + 9) = bs ((t.drop a).take 9) := by rw [extract_mid, Nat.add_sub_cancel_left]
      have x2 : (bs t).extract (a + 11) (a + 11 + c) = bs ((t.drop (a + 11)).take c) := by rw [extract_mid, Nat.add_sub_cancel_left]
      rw [hge, hdd] at NX
      obtain ⟨KY, hK⟩ : ∃ KY, bs ((t.drop a).take 9) = KY := ⟨_, rfl⟩
      obtain ⟨UY, hU⟩ : ∃ UY, bs ((t.drop (a + 11)).take c) = UY := ⟨_, rfl⟩
      rw [hK] at x1 NX hks9
      rw [hU] at x2 NX hvsc
      have KU := Lib.hid (And.intro hks9 hvsc)
      have u9 : (a : Int) + 9 ≤ ((bs t).size : Int) := by omega
      have u11 : (a : Int) + 11 + (c : Int) ≤ ((bs t).size : Int) := by omega
      have v9 : (a : Int) ≤ (a : Int) + 9 := by omega
      have v11 : (a : Int) + 11 ≤ (a : Int) + 11 + (c : Int) := by omega
      have v9b : (0 : Int) ≤ (a : Int) + 9 := by omega
      have v11b : (0 : Int) ≤ (a : Int) + 11 := by omega
      have v11c : (0 : Int) ≤ (a : Int) + 11 + (c : Int) := by omega
      have o9 : ((a : Int) + 9).toNat = a + 9 := by omega
      have o11 : ((a : Int) + 11).toNat = a + 11 := by omega
      have o11c : ((a : Int) + 11 + (c : Int)).toNat = a + 11 + c := by omega
      have kl : k + 1 ≤ 100000 := by omega
      clear hK hU hks9 hvsc hge hng hdd hel hf hdl hgh
      go_wp2_with fail
      have XN := Lib.hid XN.out.drew
      have XR := Lib.hid XR.out.drew
      have XB := Lib.hid XB.out.drew
      have XO := Lib.hid (show wr.drew.ownsRow _ _ _ _ _ _ from XO.out)
      replace hS : nb + 1 ≤ wr.drew.heap.size := hS
      have w9 : IntKind.i64.wrap ((a : Int) + 9) = (a : Int) + 9 := IntWalk.i64_in _ (by omega)
      have w11 : IntKind.i64.wrap ((a : Int) + 11) = (a : Int) + 11 := by first | exact IntWalk.i64_in _ (by clear w9; omega)
      refine Reg.start (fun w' => w'.cell? ⟨nb, 6, none⟩ = some p) (fun i => i == 21) (by kernel_rfl) (XN.out.cell rfl) (fun hHeld => ?_)
      generalize wr.drew = w6 at *
      refine Reg.takeI 0 (v := ?_) rfl (by kernel_rfl) (by kernel_rfl) (by kernel_rfl) (by kernel_rfl) (fun _ _ _ h => h) (by rfl) ?_ hHeld ?_
      rotate_left 1
      · (intro w hSw; (try dsimp only at hSw); go_simp; try with_reducible rfl)
      try simp only [Act.put, List.setIfInBounds_toArray, List.set_cons_zero, List.set_cons_succ]
      refine Reg.takeI 1 (v := ?_) rfl (by kernel_rfl) (by kernel_rfl) (by kernel_rfl) (by kernel_rfl) (fun _ _ _ h => h) (by rfl) ?_ hHeld ?_
      rotate_left 1
      · (intro w hSw; (try dsimp only at hSw); go_simp; try with_reducible rfl)
      try simp only [Act.put, List.setIfInBounds_toArray, List.set_cons_zero, List.set_cons_succ]
      refine Reg.takeI 2 (v := ?_) rfl (by kernel_rfl) (by kernel_rfl) (by kernel_rfl) (by kernel_rfl) (fun _ _ _ h => h) (by rfl) ?_ hHeld ?_
      rotate_left 1
      · (intro w hSw; (try dsimp only at hSw); go_simp; try with_reducible rfl)
      try simp only [Act.put, List.setIfInBounds_toArray, List.set_cons_zero, List.set_cons_succ]
      refine Reg.takeI 3 (v := ?_) rfl (by kernel_rfl) (by kernel_rfl) (by kernel_rfl) (by kernel_rfl) (fun _ _ _ h => h) (by rfl) ?_ hHeld ?_
      rotate_left 1
      · (intro w hSw; (try dsimp only at hSw); go_simp; try with_reducible rfl)
      try simp only [Act.put, List.setIfInBounds_toArray, List.set_cons_zero, List.set_cons_succ]
      refine Reg.takeI 4 (v := ?_) rfl (by kernel_rfl) (by kernel_rfl) (by kernel_rfl) (by kernel_rfl) (fun _ _ _ h => h) (by rfl) ?_ hHeld ?_
      rotate_left 1
      · (intro w hSw; (try dsimp only at hSw); go_simp; try with_reducible rfl)
      try simp only [Act.put, List.setIfInBounds_toArray, List.set_cons_zero, List.set_cons_succ]
      refine Reg.takeI 5 (v := ?_) rfl (by kernel_rfl) (by kernel_rfl) (by kernel_rfl) (by kernel_rfl) (fun _ _ _ h => h) (by rfl) ?_ hHeld ?_
      rotate_left 1
      · (intro w hSw; (try dsimp only at hSw); go_simp; try with_reducible rfl)
      try simp only [Act.put, List.setIfInBounds_toArray, List.set_cons_zero, List.set_cons_succ]
      refine Reg.takeI 6 (v := ?_) rfl (by kernel_rfl) (by kernel_rfl) (by kernel_rfl) (by kernel_rfl) (fun _ _ _ h => h) (by rfl) ?_ hHeld ?_
      rotate_left 1
      · (intro w hSw; (try dsimp only at hSw); go_simp; try with_reducible rfl)
      try simp only [Act.put, List.setIfInBounds_toArray, List.set_cons_zero, List.set_cons_succ]
      refine Reg.takeI 7 (v := ?_) rfl (by kernel_rfl) (by kernel_rfl) (by kernel_rfl) (by kernel_rfl) (fun _ _ _ h => h) (by rfl) ?_ hHeld ?_
      rotate_left 1
      · (intro w hSw; (try dsimp only at hSw); go_simp; try with_reducible rfl)
      try simp only [Act.put, List.setIfInBounds_toArray, List.set_cons_zero, List.set_cons_succ]
      refine Reg.takeI 8 (v := ?_) rfl (by kernel_rfl) (by kernel_rfl) (by kernel_rfl) (by kernel_rfl) (fun _ _ _ h => h) (by rfl) ?_ hHeld ?_
      rotate_left 1
      · (intro w hSw; (try dsimp only at hSw); go_simp; try with_reducible rfl)
      try simp only [Act.put, List.setIfInBounds_toArray, List.set_cons_zero, List.set_cons_succ]
      refine Reg.takeI 9 (v := ?_) rfl (by kernel_rfl) (by kernel_rfl) (by kernel_rfl) (by kernel_rfl) (fun _ _ _ h => h) (by rfl) ?_ hHeld ?_
      rotate_left 1
      · (intro w hSw; (try dsimp only at hSw); go_simp; try with_reducible rfl)
      try simp only [Act.put, List.setIfInBounds_toArray, List.set_cons_zero, List.set_cons_succ]
      refine Reg.takeI 10 (v := ?_) rfl (by kernel_rfl) (by kernel_rfl) (by kernel_rfl) (by kernel_rfl) (fun _ _ _ h => h) (by rfl) ?_ hHeld ?_
      rotate_left 1
      · (intro w hSw; (try dsimp only at hSw); go_simp; try with_reducible rfl)
      try simp only [Act.put, List.setIfInBounds_toArray, List.set_cons_zero, List.set_cons_succ]
      refine Reg.takeI 11 (v := ?_) rfl (by kernel_rfl) (by kernel_rfl) (by kernel_rfl) (by kernel_rfl) (fun _ _ _ h => h) (by rfl) ?_ hHeld ?_
      rotate_left 1
      · (intro w hSw; (try dsimp only at hSw); go_simp; try with_reducible rfl)
      try simp only [Act.put, List.setIfInBounds_toArray, List.set_cons_zero, List.set_cons_succ]
      refine Reg.takeI 12 (v := ?_) rfl (by kernel_rfl) (by kernel_rfl) (by kernel_rfl) (by kernel_rfl) (fun _ _ _ h => h) (by rfl) ?_ hHeld ?_
      rotate_left 1
      · (intro w hSw; (try dsimp only at hSw); go_simp; try with_reducible rfl)
      try simp only [Act.put, List.setIfInBounds_toArray, List.set_cons_zero, List.set_cons_succ]
      refine Reg.takeI 13 (v := ?_) rfl (by kernel_rfl) (by kernel_rfl) (by kernel_rfl) (by kernel_rfl) (fun _ _ _ h => h) (by rfl) ?_ hHeld ?_
      rotate_left 1
      · (intro w hSw; (try dsimp only at hSw); go_simp; try with_reducible rfl)
      try simp only [Act.put, List.setIfInBounds_toArray, List.set_cons_zero, List.set_cons_succ]
      refine Reg.takeI 14 (v := ?_) rfl (by kernel_rfl) (by kernel_rfl) (by kernel_rfl) (by kernel_rfl) (fun _ _ _ h => h) (by rfl) ?_ hHeld ?_
      rotate_left 1
      · (intro w hSw; (try dsimp only at hSw); go_simp; try with_reducible rfl)
      try simp only [Act.put, List.setIfInBounds_toArray, List.set_cons_zero, List.set_cons_succ]
      refine Reg.takeI 15 (v := ?_) rfl (by kernel_rfl) (by kernel_rfl) (by kernel_rfl) (by kernel_rfl) (fun _ _ _ h => h) (by rfl) ?_ hHeld ?_
      rotate_left 1
      · (intro w hSw; (try dsimp only at hSw); go_simp; try with_reducible rfl)
      try simp only [Act.put, List.setIfInBounds_toArray, List.set_cons_zero, List.set_cons_succ]
      refine Reg.takeI 16 (v := ?_) rfl (by kernel_rfl) (by kernel_rfl) (by kernel_rfl) (by kernel_rfl) (fun _ _ _ h => h) (by rfl) ?_ hHeld ?_
      rotate_left 1
      · (intro w hSw; (try dsimp only at hSw); go_simp; try with_reducible rfl)
      try simp only [Act.put, List.setIfInBounds_toArray, List.set_cons_zero, List.set_cons_succ]
      refine Reg.takeI 17 (v := ?_) rfl (by kernel_rfl) (by kernel_rfl) (by kernel_rfl) (by kernel_rfl) (fun _ _ _ h => h) (by rfl) ?_ hHeld ?_
      rotate_left 1
      · (intro w hSw; (try dsimp only at hSw); go_simp; try with_reducible rfl)
      try simp only [Act.put, List.setIfInBounds_toArray, List.set_cons_zero, List.set_cons_succ]
      refine Reg.oneI 18 rfl (by kernel_rfl) (by rfl) (fun K hK => ?_)
      go_simp
      have XN2 := Lib.hid XN.out
      have XR2 := Lib.hid XR.out
      have XB2 := Lib.hid XB.out
      replace XN := Lib.hid (XN.out.alloc (.cells #[.string KY, .string UY, .bool gh] 44))
      refine hK.out _ _ (fun _ => (XN.out.cell rfl)) (fun hHeld => ?_)
      replace hHeld := hHeld (by first | rfl | trivial)
      clear hK K
      try simp only [Act.put, List.setIfInBounds_toArray, List.set_cons_zero, List.set_cons_succ]
      refine Reg.oneI 19 rfl (by kernel_rfl) (by rfl) (fun K hK => ?_)
      clear w9 w11
      refine app1_op (news := [.string KY, .string UY, .bool gh]) XO.out hS 22 Try.underlying22 info_ent ent_size (by decide) (by decide) (by omega) rfl (by simp [Value.oneCell']) rfl rfl rfl ?_
      intro v' w7 O7 G7
      have hne : ∀ j, p.ownBlock = some j → nb + 1 ≤ j := fun j hj => (XO.out.lt j hj).1
      have C7 : Chg (fun j => nb + 1 ≤ j) w6 w7 := chg_grown G7 hne
      obtain ⟨a', cap', rfl, _⟩ := Reel.own_shape O7
      replace XN := Lib.hid (XN2.out.chg C7 (by show ¬ nb + 1 ≤ nb; omega))
      replace XR := Lib.hid (XR2.out.chg C7 (by show ¬ nb + 1 ≤ w.heap.size; omega))
      replace XB := Lib.hid (XB2.out.trans (C7.below XB2.out.size (fun b hb => by omega)))
      replace hS : nb + 1 ≤ w7.heap.size := Nat.le_trans hS C7.size
      have c6 := XN.out.cell (i := 6) rfl
      have f6 := XN.out.frozen 6 (by simp)
      have HO7 := Lib.hid O7
      clear XN2 XR2 XB2 C7 G7 hne O7 XO
      refine hK.out _ _ (fun _ => (XN.out.cell rfl)) (fun hHeld => ?_)
      replace hHeld := hHeld (by first | rfl | trivial)
      clear hK K
      try simp only [Act.put, List.setIfInBounds_toArray, List.set_cons_zero, List.set_cons_succ]
      refine Reg.takeI 20 (v := ?_) rfl (by kernel_rfl) (by kernel_rfl) (by kernel_rfl) (by kernel_rfl) (fun _ _ _ h => h) (by rfl) ?_ hHeld ?_
      rotate_left 1
      · (intro w hSw; (try dsimp only at hSw); go_simp; try with_reducible rfl)
      try simp only [Act.put, List.setIfInBounds_toArray, List.set_cons_zero, List.set_cons_succ]
      refine Reg.oneI 21 rfl (by kernel_rfl) (by rfl) (fun K hK => ?_)
      go_simp
      refine hK.out _ _ (fun h => by cases h) (fun _ => ?_)
      clear hK K
      try simp only [Act.put, List.setIfInBounds_toArray, List.set_cons_zero, List.set_cons_succ]
      refine Reg.doneI (by kernel_rfl) ?_
      have N8 := Lib.hid ((XN.out.set 6 (.slice a' (k + 1) cap')).cast (cs' := [.int .i64 (B0 : Int), .int .i64 (B1 : Int), .int .i64 ((B2 : Int) + (B3 : Int) * 256 + (B4 : Int) * 65536 + (B5 : Int) * 16777216), .bool false, .string (⟨#[]⟩), .int .i64 ((B16 : Int) + (B17 : Int) * 256), .slice a' (k + 1) cap']) rfl)
      have R8 := Lib.hid (XR.out.set_ne ⟨nb, 6, none⟩ (.slice a' (k + 1) cap') (by show nb ≠ w.heap.size; omega))
      have B8 := Lib.hid (XB.out.setCell (p := ⟨nb, 6, none⟩) (Nat.le_of_lt hwd) (.slice a' (k + 1) cap'))
      have O8 := Lib.hid (Reel.own_chg HO7.out ((Chg.refl (One nb) _).put 6 (.slice a' (k + 1) cap')) (fun j hj x => by have := (HO7.out.lt j hj).1; have e : j = nb := x; omega))
      have S8 : nb + 1 ≤ (w7.setCell ⟨nb, 6, none⟩ (.slice a' (k + 1) cap')).heap.size := by simp [World.setCell]; exact hS
      clear XN XR XB HO7 c6 f6
      go_wp2_with fail
      exact ⟨⟨k + 1, a + 11 + c, vs ++ [⟨KY, UY, gh⟩], _, by omega, by go_num, by go_num, by rw [List.length_append, VL.out]; rfl, by omega, by rw [size0_snoc, AS.out]; show _ = 20 + (size0 vs + (11 + UY.size)); rw [KU.out.2]; omega, NX.out, (fun e he => by
        rcases List.mem_append.1 he with he | he
        · exact KS.out e he
        · rw [List.mem_singleton.1 he]; exact Nat.le_of_eq KU.out.1), N8.out, by rw [List.flatMap_append]; exact O8.out, R8.out, B8.out, S8⟩, by simp [intOf]; omega⟩
    · obtain rfl : k = m := by omega
      have hI3 : entsN k (t.drop 20) = some vs := by rw [I.out, Nat.sub_self]; simp [entsN]
      have hpt : parse t = some (hd t vs) := by unfold parse; rw [N.out.2.2.2.2.2, hI3]; rfl
      have hnd : hd t vs = ⟨(B0 : Int), (B1 : Int), (B2 : Int) + (B3 : Int) * 256 + (B4 : Int) * 65536 + (B5 : Int) * 16777216, false, ⟨#[]⟩, (B16 : Int) + (B17 : Int) * 256, vs⟩ := congrArg (fun n => { n with list := vs }) HI.out
      rw [hnd] at hpt
      have hk := VL.out
      subst hk
      obtain ⟨a', cap', rfl, hE, hbl⟩ := es_own XO.out rfl
      have PT := Lib.hid hpt
      have GC := Lib.hid (fun (wx : World) (h : Below wr.heap.size wr wx) => refgood_calls ⟨(B0 : Int), (B1 : Int), (B2 : Int) + (B3 : Int) * 256 + (B4 : Int) * 65536 + (B5 : Int) * 16777216, false, ⟨#[]⟩, (B16 : Int) + (B17 : Int) * 256, vs⟩ a' cap' wx (hE.keep h) (by show vs.length ≤ _; omega) (by show (0 : Nat) ≤ _; omega) (fun i hi => Nat.le_trans (KS.out _ (List.getElem_mem hi)) (by omega)))
      have hsz : Nd.size ⟨(B0 : Int), (B1 : Int), (B2 : Int) + (B3 : Int) * 256 + (B4 : Int) * 65536 + (B5 : Int) * 16777216, false, ⟨#[]⟩, (B16 : Int) + (B17 : Int) * 256, vs⟩ ≤ 252 := by show 20 + size0 vs ≤ 252; have := AS.out; omega
      have HSZ := Lib.hid hsz
      have HE := Lib.hid hE
      have HBL := Lib.hid hbl
      have hcl : Nd.cells ⟨(B0 : Int), (B1 : Int), (B2 : Int) + (B3 : Int) * 256 + (B4 : Int) * 65536 + (B5 : Int) * 16777216, false, ⟨#[]⟩, (B16 : Int) + (B17 : Int) * 256, vs⟩ (.slice a' vs.length cap') = [.int .i64 (B0 : Int), .int .i64 (B1 : Int), .int .i64 ((B2 : Int) + (B3 : Int) * 256 + (B4 : Int) * 65536 + (B5 : Int) * 16777216), .bool false, .string (⟨#[]⟩), .int .i64 ((B16 : Int) + (B17 : Int) * 256), .slice a' vs.length cap'] := rfl
      obtain ⟨n, hn⟩ : ∃ n : Nd, (⟨(B0 : Int), (B1 : Int), (B2 : Int) + (B3 : Int) * 256 + (B4 : Int) * 65536 + (B5 : Int) * 16777216, false, ⟨#[]⟩, (B16 : Int) + (B17 : Int) * 256, vs⟩ : Nd) = n := ⟨_, rfl⟩
      have hvs : n.list = vs := by rw [← hn]
      rw [hn] at PT HSZ hcl
      simp only [hn] at GC
      rw [hcl] at GC
      have HVS := Lib.hid hvs
      have HCL := Lib.hid hcl
      clear hn hnd hpt hI3 hE hbl hsz I
      have hlt' : ¬ (vs.length : Int) < (vs.length : Int) := by omega
      clear XO
      cases hg : n.good
      · have hnn := rd_none RD.out PT.out (fun hh => bad_fits hg hh.1)
        have NN := Lib.hid hnn
        rw [hg] at GC
        clear hnn hg hcl
        have c0 := XN.out.cell (i := 0) rfl
        have c1 := XN.out.cell (i := 1) rfl
        have c2 := XN.out.cell (i := 2) rfl
        have c3 := XN.out.cell (i := 3) rfl
        have c4 := XN.out.cell (i := 4) rfl
        have c5 := XN.out.cell (i := 5) rfl
        have c6 := XN.out.cell (i := 6) rfl
        go_wp2_with fail
        clear c0 c1 c2 c3 c4 c5 c6
        refine (GC.out _ (Below.refl _ _)).mono ?_
        rintro e w8 ⟨rfl, k8⟩
        have XR := Lib.hid (XR.out.below k8 XR.out.lt)
        have XB := Lib.hid (XB.out.trans (k8.mono XB.out.size))
        clear k8
        go_wp2_with (refine store_row XR.out [.int .i64 0, .int .i64 0, .int .i64 0, .bool false, .string ⟨#[]⟩, .int .i64 0, .slice none 0 0] 24 (by kernel_rfl) rfl zero_one rfl rfl rfl rfl ?_; intro wz hRz hcz hsz)
        exact rr_none hRz (below_one' XB.out hcz XB.out.size (Nat.le_refl _)) rfl rfl rfl NN.out
      · have hfit : n.fits = true := by unfold Nd.fits; rw [hg]; simp; exact HSZ.out
        have BC := Lib.hid (fun (wx : World) (h : Below wr.heap.size wr wx) => refbytes_calls n hfit a' cap' wx (by rw [HVS.out]; exact HE.out.keep h))
        rw [HVS.out, hcl] at BC
        rw [hg] at GC
        have FT := Lib.hid hfit
        clear hg hfit hcl
        have c0 := XN.out.cell (i := 0) rfl
        have c1 := XN.out.cell (i := 1) rfl
        have c2 := XN.out.cell (i := 2) rfl
        have c3 := XN.out.cell (i := 3) rfl
        have c4 := XN.out.cell (i := 4) rfl
        have c5 := XN.out.cell (i := 5) rfl
        have c6 := XN.out.cell (i := 6) rfl
        go_wp2_with fail
        clear c0 c1 c2 c3 c4 c5 c6
        refine (GC.out _ (Below.refl _ _)).mono ?_
        rintro e w8 ⟨rfl, k8⟩
        have XR := Lib.hid (XR.out.below k8 XR.out.lt)
        have XN := Lib.hid (XN.out.below k8 XN.out.lt)
        have XB := Lib.hid (XB.out.trans (k8.mono XB.out.size))
        have G8 := Lib.hid k8
        clear k8 GC
        have c0 := XN.out.cell (i := 0) rfl
        have c1 := XN.out.cell (i := 1) rfl
        have c2 := XN.out.cell (i := 2) rfl
        have c3 := XN.out.cell (i := 3) rfl
        have c4 := XN.out.cell (i := 4) rfl
        have c5 := XN.out.cell (i := 5) rfl
        have c6 := XN.out.cell (i := 6) rfl
        go_wp2_with fail
        clear c0 c1 c2 c3 c4 c5 c6
        refine (BC.out _ G8.out).mono ?_
        rintro e w9 ⟨rfl, k9⟩
        have XR := Lib.hid (XR.out.below k9 XR.out.lt)
        have XN := Lib.hid (XN.out.below k9 XN.out.lt)
        have XB := Lib.hid (XB.out.trans (k9.mono XB.out.size))
        have HE9 := Lib.hid ((HE.out.keep G8.out).keep k9)
        clear k9 BC G8
        by_cases hq : n.bytes = s.data.toList
        · have hnn := rd_some RD.out PT.out ⟨FT.out, hq⟩
          have NN := Lib.hid hnn
          have hq1 : ((bs n.bytes).toList == s.toList) = true := by rw [beq_iff_eq, hq]; rfl
          clear hnn hq
          have c0 := XN.out.cell (i := 0) rfl
          have c1 := XN.out.cell (i := 1) rfl
          have c2 := XN.out.cell (i := 2) rfl
          have c3 := XN.out.cell (i := 3) rfl
          have c4 := XN.out.cell (i := 4) rfl
          have c5 := XN.out.cell (i := 5) rfl
          have c6 := XN.out.cell (i := 6) rfl
          go_wp2_with (refine store_row XR.out [.int .i64 (B0 : Int), .int .i64 (B1 : Int), .int .i64 ((B2 : Int) + (B3 : Int) * 256 + (B4 : Int) * 65536 + (B5 : Int) * 16777216), .bool false, .string (⟨#[]⟩), .int .i64 ((B16 : Int) + (B17 : Int) * 256), .slice a' vs.length cap'] 24 (by kernel_rfl) rfl (by simp [Value.oneCell']) rfl rfl rfl rfl ?_; intro wz hRz hcz hsz)
          refine ret_row2 hRz Try.results18 Try.underlying24 rfl (by kernel_rfl) rfl rfl ?_
          rw [NN.out]
          have hE2 := HE9.out.chg hcz (fun ad had x => by have := HBL.out ad had; have e : ad.block = w.heap.size := x; omega)
          exact ⟨a', cap', by rw [HVS.out, HCL.out]; rfl, by rw [HVS.out]; exact hE2, below_one' XB.out hcz XB.out.size (Nat.le_refl _)⟩
        · have hnn := rd_none RD.out PT.out (fun hh => hq hh.2)
          have NN := Lib.hid hnn
          have hq1 : ((bs n.bytes).toList == s.toList) = false := by
            rw [beq_eq_false_iff_ne]
            intro h
            exact hq (congrArg (fun s => s.data.toList) (Bytes.toList_inj.1 h))
          clear hnn hq
          go_wp2_with (refine store_row XR.out [.int .i64 0, .int .i64 0, .int .i64 0, .bool false, .string ⟨#[]⟩, .int .i64 0, .slice none 0 0] 24 (by kernel_rfl) rfl zero_one rfl rfl rfl rfl ?_; intro wz hRz hcz hsz)
          exact rr_none hRz (below_one' XB.out hcz XB.out.size (Nat.le_refl _)) rfl rfl rfl NN.out
set_option maxHeartbeats 8000000 in
set_option maxRecDepth 8000 in
theorem refread_true (s : ByteArray) (w : World) (hs : s.size ≤ 100000) (t : List UInt8) (hop : Crc.opened s.data.toList = some t) (h252 : t.length = 252) (hhh : (num t 6 1 == 1) = true) : Calls Try.prog 18 #[.string s] w fun e w' => readPost (.bool false) (.bool true) (nRead s.data.toList) w e w' := by
  have hR : Row (w.alloc (.cells #[.int .i64 0, .int .i64 0, .int .i64 0, .bool false, .string ⟨#[]⟩, .int .i64 0, .slice none 0 0] 24)) w.heap.size 24 [.int .i64 0, .int .i64 0, .int .i64 0, .bool false, .string ⟨#[]⟩, .int .i64 0, .slice none 0 0] := new_at rfl
  have hb : Below w.heap.size w (w.alloc (.cells #[.int .i64 0, .int .i64 0, .int .i64 0, .bool false, .string ⟨#[]⟩, .int .i64 0, .slice none 0 0] 24)) := (Below.refl _ _).alloc (Nat.le_refl _) _
  have hopen := Crc.refopen_calls s (w.alloc (.cells #[.int .i64 0, .int .i64 0, .int .i64 0, .bool false, .string ⟨#[]⟩, .int .i64 0, .slice none 0 0] 24)) (by omega)
  have R := Lib.hid hR
  have B := Lib.hid hb
  clear hR hb
  rw [Crc.openedV, hop] at hopen
  have hrd : nRead s.data.toList = (parse t).bind (fun n => if n.fits = true ∧ n.bytes = s.data.toList then some n else none) := by
    unfold nRead
    rw [hop]
    simp only
    rw [if_pos h252]
    cases parse t <;> rfl
  have OP := Lib.hid hopen
  have RD := Lib.hid hrd
  have TL := Lib.hid h252
  have hTs : (bs t).size = 252 := h252
  have d252 : (((bs t).size : Int) != 252) = false := by rw [hTs]; rfl
  clear hopen hrd hop
  have i0 : 0 < (bs t).size := by omega
  have j0 : (0 : Int) < ((bs t).size : Int) := by omega
  obtain ⟨B0, h0⟩ : ∃ a, ((bs t)[0]'i0).toNat = a := ⟨_, rfl⟩
  have l0 : B0 < 256 := by rw [← h0]; exact ((bs t)[0]'i0).toNat_lt
  have i1 : 1 < (bs t).size := by omega
  have j1 : (1 : Int) < ((bs t).size : Int) := by omega
  obtain ⟨B1, h1⟩ : ∃ a, ((bs t)[1]'i1).toNat = a := ⟨_, rfl⟩
  have l1 : B1 < 256 := by rw [← h1]; exact ((bs t)[1]'i1).toNat_lt
  have i2 : 2 < (bs t).size := by omega
  have j2 : (2 : Int) < ((bs t).size : Int) := by omega
  obtain ⟨B2, h2⟩ : ∃ a, ((bs t)[2]'i2).toNat = a := ⟨_, rfl⟩
  have l2 : B2 < 256 := by rw [← h2]; exact ((bs t)[2]'i2).toNat_lt
  have i3 : 3 < (bs t).size := by omega
  have j3 : (3 : Int) < ((bs t).size : Int) := by omega
  obtain ⟨B3, h3⟩ : ∃ a, ((bs t)[3]'i3).toNat = a := ⟨_, rfl⟩
  have l3 : B3 < 256 := by rw [← h3]; exact ((bs t)[3]'i3).toNat_lt
  have i4 : 4 < (bs t).size := by omega
  have j4 : (4 : Int) < ((bs t).size : Int) := by omega
  obtain ⟨B4, h4⟩ : ∃ a, ((bs t)[4]'i4).toNat = a := ⟨_, rfl⟩
  have l4 : B4 < 256 := by rw [← h4]; exact ((bs t)[4]'i4).toNat_lt
  have i5 : 5 < (bs t).size := by omega
  have j5 : (5 : Int) < ((bs t).size : Int) := by omega
  obtain ⟨B5, h5⟩ : ∃ a, ((bs t)[5]'i5).toNat = a := ⟨_, rfl⟩
  have l5 : B5 < 256 := by rw [← h5]; exact ((bs t)[5]'i5).toNat_lt
  have i6 : 6 < (bs t).size := by omega
  have j6 : (6 : Int) < ((bs t).size : Int) := by omega
  obtain ⟨B6, h6⟩ : ∃ a, ((bs t)[6]'i6).toNat = a := ⟨_, rfl⟩
  have l6 : B6 < 256 := by rw [← h6]; exact ((bs t)[6]'i6).toNat_lt
  have i16 : 16 < (bs t).size := by omega
  have j16 : (16 : Int) < ((bs t).size : Int) := by omega
  obtain ⟨B16, h16⟩ : ∃ a, ((bs t)[16]'i16).toNat = a := ⟨_, rfl⟩
  have l16 : B16 < 256 := by rw [← h16]; exact ((bs t)[16]'i16).toNat_lt
  have i17 : 17 < (bs t).size := by omega
  have j17 : (17 : Int) < ((bs t).size : Int) := by omega
  obtain ⟨B17, h17⟩ : ∃ a, ((bs t)[17]'i17).toNat = a := ⟨_, rfl⟩
  have l17 : B17 < 256 := by rw [← h17]; exact ((bs t)[17]'i17).toNat_lt
  have i18 : 18 < (bs t).size := by omega
  have j18 : (18 : Int) < ((bs t).size : Int) := by omega
  obtain ⟨B18, h18⟩ : ∃ a, ((bs t)[18]'i18).toNat = a := ⟨_, rfl⟩
  have l18 : B18 < 256 := by rw [← h18]; exact ((bs t)[18]'i18).toNat_lt
  have i19 : 19 < (bs t).size := by omega
  have j19 : (19 : Int) < ((bs t).size : Int) := by omega
  obtain ⟨B19, h19⟩ : ∃ a, ((bs t)[19]'i19).toNat = a := ⟨_, rfl⟩
  have l19 : B19 < 256 := by rw [← h19]; exact ((bs t)[19]'i19).toNat_lt
  have n0 : num t 0 1 = B0 := by rw [num_get1 t 0 (by omega), ← h0]; rfl
  have n1 : num t 1 1 = B1 := by rw [num_get1 t 1 (by omega), ← h1]; rfl
  have n2 : num t 2 4 = B2 + B3 * 256 + B4 * 65536 + B5 * 16777216 := by rw [num_get4 t 2 (by omega), ← h2, ← h3, ← h4, ← h5]; rfl
  have n6 : num t 6 1 = B6 := by rw [num_get1 t 6 (by omega), ← h6]; rfl
  have n16 : num t 16 2 = B16 + 256 * B17 := by rw [num_get2 t 16 (by omega), ← h16, ← h17]; rfl
  have n18 : num t 18 2 = B18 + 256 * B19 := by rw [num_get2 t 18 (by omega), ← h18, ← h19]; rfl
  rw [n6] at hhh
  have hx6 : ((B6 : Int) == 1) = true := by
    rw [← hhh]
    by_cases q : B6 = 1
    · rw [q]; rfl
    · have q1 : ((B6 : Int) == 1) = false := by simp; omega
      have q2 : (B6 == 1) = false := by simp; omega
      rw [q1, q2]
  obtain ⟨m, hm⟩ : ∃ m, B18 + 256 * B19 = m := ⟨_, rfl⟩
  rw [hm] at n18
  have hm' : (B18 : Int) + (B19 : Int) * 256 = (m : Int) := by omega
  have hml : m < 65536 := by omega
  have N := Lib.hid (And.intro n0 (And.intro n1 (And.intro n2 (And.intro n6 (And.intro n16 n18)))))
  have HH := Lib.hid hhh
  clear n0 n1 n2 n6 n16 n18 hhh hm h252 hTs
  go_enter Try.func18, Try.ntmps18
  go_wp2_with fail
  refine OP.out.mono ?_
  rintro e w1 ⟨rfl, k⟩
  have R1 := Lib.hid (R.out.below k R.out.lt).drew
  have B1x := Lib.hid (B.out.trans (k.mono B.out.size)).drew
  clear k OP R B
  go_wp2_with fail
  have q0 : RowKit.Hid (IntKind.i64.wrap ((B0 : Int)) = (B0 : Int)) := Lib.hid (IntWalk.i64_in _ (by omega))
  have q1 : RowKit.Hid (IntKind.i64.wrap ((B1 : Int)) = (B1 : Int)) := Lib.hid (IntWalk.i64_in _ (by omega))
  have q2 : RowKit.Hid (IntKind.i64.wrap ((B2 : Int)) = (B2 : Int)) := Lib.hid (IntWalk.i64_in _ (by omega))
  have q3 : RowKit.Hid (IntKind.i64.wrap ((B3 : Int)) = (B3 : Int)) := Lib.hid (IntWalk.i64_in _ (by omega))
  have q4 : RowKit.Hid (IntKind.i64.wrap ((B4 : Int)) = (B4 : Int)) := Lib.hid (IntWalk.i64_in _ (by omega))
  have q5 : RowKit.Hid (IntKind.i64.wrap ((B5 : Int)) = (B5 : Int)) := Lib.hid (IntWalk.i64_in _ (by omega))
  have q6 : RowKit.Hid (IntKind.i64.wrap ((B16 : Int)) = (B16 : Int)) := Lib.hid (IntWalk.i64_in _ (by omega))
  have q7 : RowKit.Hid (IntKind.i64.wrap ((B17 : Int)) = (B17 : Int)) := Lib.hid (IntWalk.i64_in _ (by omega))
  have q8 : RowKit.Hid (IntKind.i64.wrap ((B18 : Int)) = (B18 : Int)) := Lib.hid (IntWalk.i64_in _ (by omega))
  have q9 : RowKit.Hid (IntKind.i64.wrap ((B19 : Int)) = (B19 : Int)) := Lib.hid (IntWalk.i64_in _ (by omega))
  have q10 : RowKit.Hid (IntKind.i64.wrap ((B3 : Int) * 256) = (B3 : Int) * 256) := Lib.hid (IntWalk.i64_in _ (by omega))
  have q11 : RowKit.Hid (IntKind.i64.wrap ((B2 : Int) + (B3 : Int) * 256) = (B2 : Int) + (B3 : Int) * 256) := Lib.hid (IntWalk.i64_in _ (by omega))
  have q12 : RowKit.Hid (IntKind.i64.wrap ((B4 : Int) * 65536) = (B4 : Int) * 65536) := Lib.hid (IntWalk.i64_in _ (by omega))
  have q13 : RowKit.Hid (IntKind.i64.wrap ((B2 : Int) + (B3 : Int) * 256 + (B4 : Int) * 65536) = (B2 : Int) + (B3 : Int) * 256 + (B4 : Int) * 65536) := Lib.hid (IntWalk.i64_in _ (by omega))
  have q14 : RowKit.Hid (IntKind.i64.wrap ((B5 : Int) * 16777216) = (B5 : Int) * 16777216) := Lib.hid (IntWalk.i64_in _ (by omega))
  have q15 : RowKit.Hid (IntKind.i64.wrap ((B2 : Int) + (B3 : Int) * 256 + (B4 : Int) * 65536 + (B5 : Int) * 16777216) = (B2 : Int) + (B3 : Int) * 256 + (B4 : Int) * 65536 + (B5 : Int) * 16777216) := Lib.hid (IntWalk.i64_in _ (by omega))
  have q16 : RowKit.Hid (IntKind.i64.wrap ((B17 : Int) * 256) = (B17 : Int) * 256) := Lib.hid (IntWalk.i64_in _ (by omega))
  have q17 : RowKit.Hid (IntKind.i64.wrap ((B16 : Int) + (B17 : Int) * 256) = (B16 : Int) + (B17 : Int) * 256) := Lib.hid (IntWalk.i64_in _ (by omega))
  have q18 : RowKit.Hid (IntKind.i64.wrap ((B19 : Int) * 256) = (B19 : Int) * 256) := Lib.hid (IntWalk.i64_in _ (by omega))
  have q19 : RowKit.Hid (IntKind.i64.wrap ((B18 : Int) + (B19 : Int) * 256) = (B18 : Int) + (B19 : Int) * 256) := Lib.hid (IntWalk.i64_in _ (by omega))
  have e0 := q0.out
  have e1 := q1.out
  have e2 := q2.out
  have e3 := q3.out
  have e4 := q4.out
  have e5 := q5.out
  have e6 := q6.out
  have e7 := q7.out
  have e8 := q8.out
  have e9 := q9.out
  have e10 := q10.out
  have e11 := q11.out
  have e12 := q12.out
  have e13 := q13.out
  have e14 := q14.out
  have e15 := q15.out
  have e16 := q16.out
  have e17 := q17.out
  have e18 := q18.out
  have e19 := q19.out
  refine Reg.start (fun _ => True) (fun i => i == 37) (by kernel_rfl) trivial (fun hHeld => ?_)
  generalize w1.drew = wd at *
  refine Reg.takeI 0 (v := ?_) rfl (by kernel_rfl) (by kernel_rfl) (by kernel_rfl) (by kernel_rfl) (fun _ _ _ h => h) (by rfl) ?_ hHeld ?_
  rotate_left 1
  · (intro w hSw; (try dsimp only at hSw); go_simp; try with_reducible rfl)
  try simp only [Act.put, List.setIfInBounds_toArray, List.set_cons_zero, List.set_cons_succ]
  refine Reg.takeI 1 (v := ?_) rfl (by kernel_rfl) (by kernel_rfl) (by kernel_rfl) (by kernel_rfl) (fun _ _ _ h => h) (by rfl) ?_ hHeld ?_
  rotate_left 1
  · (intro w hSw; (try dsimp only at hSw); go_simp; try with_reducible rfl)
  try simp only [Act.put, List.setIfInBounds_toArray, List.set_cons_zero, List.set_cons_succ]
  refine Reg.takeI 2 (v := ?_) rfl (by kernel_rfl) (by kernel_rfl) (by kernel_rfl) (by kernel_rfl) (fun _ _ _ h => h) (by rfl) ?_ hHeld ?_
  rotate_left 1
  · (intro w hSw; (try dsimp only at hSw); go_simp; try with_reducible rfl)
  try simp only [Act.put, List.setIfInBounds_toArray, List.set_cons_zero, List.set_cons_succ]
  refine Reg.takeI 3 (v := ?_) rfl (by kernel_rfl) (by kernel_rfl) (by kernel_rfl) (by kernel_rfl) (fun _ _ _ h => h) (by rfl) ?_ hHeld ?_
  rotate_left 1
  · (intro w hSw; (try dsimp only at hSw); go_simp; try with_reducible rfl)
  try simp only [Act.put, List.setIfInBounds_toArray, List.set_cons_zero, List.set_cons_succ]
  refine Reg.takeI 4 (v := ?_) rfl (by kernel_rfl) (by kernel_rfl) (by kernel_rfl) (by kernel_rfl) (fun _ _ _ h => h) (by rfl) ?_ hHeld ?_
  rotate_left 1
  · (intro w hSw; (try dsimp only at hSw); go_simp; try with_reducible rfl)
  try simp only [Act.put, List.setIfInBounds_toArray, List.set_cons_zero, List.set_cons_succ]
  refine Reg.takeI 5 (v := ?_) rfl (by kernel_rfl) (by kernel_rfl) (by kernel_rfl) (by kernel_rfl) (fun _ _ _ h => h) (by rfl) ?_ hHeld ?_
  rotate_left 1
  · (intro w hSw; (try dsimp only at hSw); go_simp; try with_reducible rfl)
  try simp only [Act.put, List.setIfInBounds_toArray, List.set_cons_zero, List.set_cons_succ]
  refine Reg.takeI 6 (v := ?_) rfl (by kernel_rfl) (by kernel_rfl) (by kernel_rfl) (by kernel_rfl) (fun _ _ _ h => h) (by rfl) ?_ hHeld ?_
  rotate_left 1
  · (intro w hSw; (try dsimp only at hSw); go_simp; try with_reducible rfl)
  try simp only [Act.put, List.setIfInBounds_toArray, List.set_cons_zero, List.set_cons_succ]
  refine Reg.takeI 7 (v := ?_) rfl (by kernel_rfl) (by kernel_rfl) (by kernel_rfl) (by kernel_rfl) (fun _ _ _ h => h) (by rfl) ?_ hHeld ?_
  rotate_left 1
  · (intro w hSw; (try dsimp only at hSw); go_simp; try with_reducible rfl)
  try simp only [Act.put, List.setIfInBounds_toArray, List.set_cons_zero, List.set_cons_succ]
  refine Reg.takeI 8 (v := ?_) rfl (by kernel_rfl) (by kernel_rfl) (by kernel_rfl) (by kernel_rfl) (fun _ _ _ h => h) (by rfl) ?_ hHeld ?_
  rotate_left 1
  · (intro w hSw; (try dsimp only at hSw); go_simp; try with_reducible rfl)
  try simp only [Act.put, List.setIfInBounds_toArray, List.set_cons_zero, List.set_cons_succ]
  refine Reg.takeI 9 (v := ?_) rfl (by kernel_rfl) (by kernel_rfl) (by kernel_rfl) (by kernel_rfl) (fun _ _ _ h => h) (by rfl) ?_ hHeld ?_
  rotate_left 1
  · (intro w hSw; (try dsimp only at hSw); go_simp; try with_reducible rfl)
  try simp only [Act.put, List.setIfInBounds_toArray, List.set_cons_zero, List.set_cons_succ]
  refine Reg.takeI 10 (v := ?_) rfl (by kernel_rfl) (by kernel_rfl) (by kernel_rfl) (by kernel_rfl) (fun _ _ _ h => h) (by rfl) ?_ hHeld ?_
  rotate_left 1
  · (intro w hSw; (try dsimp only at hSw); go_simp; try with_reducible rfl)
  try simp only [Act.put, List.setIfInBounds_toArray, List.set_cons_zero, List.set_cons_succ]
  refine Reg.takeI 11 (v := ?_) rfl (by kernel_rfl) (by kernel_rfl) (by kernel_rfl) (by kernel_rfl) (fun _ _ _ h => h) (by rfl) ?_ hHeld ?_
  rotate_left 1
  · (intro w hSw; (try dsimp only at hSw); go_simp; try with_reducible rfl)
  try simp only [Act.put, List.setIfInBounds_toArray, List.set_cons_zero, List.set_cons_succ]
  refine Reg.takeI 12 (v := ?_) rfl (by kernel_rfl) (by kernel_rfl) (by kernel_rfl) (by kernel_rfl) (fun _ _ _ h => h) (by rfl) ?_ hHeld ?_
  rotate_left 1
  · (intro w hSw; (try dsimp only at hSw); go_simp; try with_reducible rfl)
  try simp only [Act.put, List.setIfInBounds_toArray, List.set_cons_zero, List.set_cons_succ]
  refine Reg.takeI 13 (v := ?_) rfl (by kernel_rfl) (by kernel_rfl) (by kernel_rfl) (by kernel_rfl) (fun _ _ _ h => h) (by rfl) ?_ hHeld ?_
  rotate_left 1
  · (intro w hSw; (try dsimp only at hSw); go_simp; try with_reducible rfl)
  try simp only [Act.put, List.setIfInBounds_toArray, List.set_cons_zero, List.set_cons_succ]
  refine Reg.takeI 14 (v := ?_) rfl (by kernel_rfl) (by kernel_rfl) (by kernel_rfl) (by kernel_rfl) (fun _ _ _ h => h) (by rfl) ?_ hHeld ?_
  rotate_left 1
  · (intro w hSw; (try dsimp only at hSw); go_simp; try with_reducible rfl)
  try simp only [Act.put, List.setIfInBounds_toArray, List.set_cons_zero, List.set_cons_succ]
  refine Reg.takeI 15 (v := ?_) rfl (by kernel_rfl) (by kernel_rfl) (by kernel_rfl) (by kernel_rfl) (fun _ _ _ h => h) (by rfl) ?_ hHeld ?_
  rotate_left 1
  · (intro w hSw; (try dsimp only at hSw); go_simp; try with_reducible rfl)
  try simp only [Act.put, List.setIfInBounds_toArray, List.set_cons_zero, List.set_cons_succ]
  refine Reg.takeI 16 (v := ?_) rfl (by kernel_rfl) (by kernel_rfl) (by kernel_rfl) (by kernel_rfl) (fun _ _ _ h => h) (by rfl) ?_ hHeld ?_
  rotate_left 1
  · (intro w hSw; (try dsimp only at hSw); go_simp; try with_reducible rfl)
  try simp only [Act.put, List.setIfInBounds_toArray, List.set_cons_zero, List.set_cons_succ]
  refine Reg.takeI 17 (v := ?_) rfl (by kernel_rfl) (by kernel_rfl) (by kernel_rfl) (by kernel_rfl) (fun _ _ _ h => h) (by rfl) ?_ hHeld ?_
  rotate_left 1
  · (intro w hSw; (try dsimp only at hSw); go_simp; try with_reducible rfl)
  try simp only [Act.put, List.setIfInBounds_toArray, List.set_cons_zero, List.set_cons_succ]
  refine Reg.takeI 18 (v := ?_) rfl (by kernel_rfl) (by kernel_rfl) (by kernel_rfl) (by kernel_rfl) (fun _ _ _ h => h) (by rfl) ?_ hHeld ?_
  rotate_left 1
  · (intro w hSw; (try dsimp only at hSw); go_simp; try with_reducible rfl)
  try simp only [Act.put, List.setIfInBounds_toArray, List.set_cons_zero, List.set_cons_succ]
  refine Reg.takeI 19 (v := ?_) rfl (by kernel_rfl) (by kernel_rfl) (by kernel_rfl) (by kernel_rfl) (fun _ _ _ h => h) (by rfl) ?_ hHeld ?_
  rotate_left 1
  · (intro w hSw; (try dsimp only at hSw); go_simp; try with_reducible rfl)
  try simp only [Act.put, List.setIfInBounds_toArray, List.set_cons_zero, List.set_cons_succ]
  refine Reg.takeI 20 (v := ?_) rfl (by kernel_rfl) (by kernel_rfl) (by kernel_rfl) (by kernel_rfl) (fun _ _ _ h => h) (by rfl) ?_ hHeld ?_
  rotate_left 1
  · (intro w hSw; (try dsimp only at hSw); go_simp; try with_reducible rfl)
  try simp only [Act.put, List.setIfInBounds_toArray, List.set_cons_zero, List.set_cons_succ]
  refine Reg.takeI 21 (v := ?_) rfl (by kernel_rfl) (by kernel_rfl) (by kernel_rfl) (by kernel_rfl) (fun _ _ _ h => h) (by rfl) ?_ hHeld ?_
  rotate_left 1
  · (intro w hSw; (try dsimp only at hSw); go_simp; try with_reducible rfl)
  try simp only [Act.put, List.setIfInBounds_toArray, List.set_cons_zero, List.set_cons_succ]
  refine Reg.takeI 22 (v := ?_) rfl (by kernel_rfl) (by kernel_rfl) (by kernel_rfl) (by kernel_rfl) (fun _ _ _ h => h) (by rfl) ?_ hHeld ?_
  rotate_left 1
  · (intro w hSw; (try dsimp only at hSw); go_simp; try with_reducible rfl)
  try simp only [Act.put, List.setIfInBounds_toArray, List.set_cons_zero, List.set_cons_succ]
  refine Reg.takeI 23 (v := ?_) rfl (by kernel_rfl) (by kernel_rfl) (by kernel_rfl) (by kernel_rfl) (fun _ _ _ h => h) (by rfl) ?_ hHeld ?_
  rotate_left 1
  · (intro w hSw; (try dsimp only at hSw); go_simp; try with_reducible rfl)
  try simp only [Act.put, List.setIfInBounds_toArray, List.set_cons_zero, List.set_cons_succ]
  refine Reg.takeI 24 (v := ?_) rfl (by kernel_rfl) (by kernel_rfl) (by kernel_rfl) (by kernel_rfl) (fun _ _ _ h => h) (by rfl) ?_ hHeld ?_
  rotate_left 1
  · (intro w hSw; (try dsimp only at hSw); go_simp; try with_reducible rfl)
  try simp only [Act.put, List.setIfInBounds_toArray, List.set_cons_zero, List.set_cons_succ]
  refine Reg.takeI 25 (v := ?_) rfl (by kernel_rfl) (by kernel_rfl) (by kernel_rfl) (by kernel_rfl) (fun _ _ _ h => h) (by rfl) ?_ hHeld ?_
  rotate_left 1
  · (intro w hSw; (try dsimp only at hSw); go_simp; try with_reducible rfl)
  try simp only [Act.put, List.setIfInBounds_toArray, List.set_cons_zero, List.set_cons_succ]
  refine Reg.takeI 26 (v := ?_) rfl (by kernel_rfl) (by kernel_rfl) (by kernel_rfl) (by kernel_rfl) (fun _ _ _ h => h) (by rfl) ?_ hHeld ?_
  rotate_left 1
  · (intro w hSw; (try dsimp only at hSw); go_simp; try with_reducible rfl)
  try simp only [Act.put, List.setIfInBounds_toArray, List.set_cons_zero, List.set_cons_succ]
  refine Reg.takeI 27 (v := ?_) rfl (by kernel_rfl) (by kernel_rfl) (by kernel_rfl) (by kernel_rfl) (fun _ _ _ h => h) (by rfl) ?_ hHeld ?_
  rotate_left 1
  · (intro w hSw; (try dsimp only at hSw); go_simp; try with_reducible rfl)
  try simp only [Act.put, List.setIfInBounds_toArray, List.set_cons_zero, List.set_cons_succ]
  refine Reg.takeI 28 (v := ?_) rfl (by kernel_rfl) (by kernel_rfl) (by kernel_rfl) (by kernel_rfl) (fun _ _ _ h => h) (by rfl) ?_ hHeld ?_
  rotate_left 1
  · (intro w hSw; (try dsimp only at hSw); go_simp; try with_reducible rfl)
  try simp only [Act.put, List.setIfInBounds_toArray, List.set_cons_zero, List.set_cons_succ]
  refine Reg.takeI 29 (v := ?_) rfl (by kernel_rfl) (by kernel_rfl) (by kernel_rfl) (by kernel_rfl) (fun _ _ _ h => h) (by rfl) ?_ hHeld ?_
  rotate_left 1
  · (intro w hSw; (try dsimp only at hSw); go_simp; try with_reducible rfl)
  try simp only [Act.put, List.setIfInBounds_toArray, List.set_cons_zero, List.set_cons_succ]
  refine Reg.takeI 30 (v := ?_) rfl (by kernel_rfl) (by kernel_rfl) (by kernel_rfl) (by kernel_rfl) (fun _ _ _ h => h) (by rfl) ?_ hHeld ?_
  rotate_left 1
  · (intro w hSw; (try dsimp only at hSw); go_simp; try with_reducible rfl)
  try simp only [Act.put, List.setIfInBounds_toArray, List.set_cons_zero, List.set_cons_succ]
  refine Reg.takeI 31 (v := ?_) rfl (by kernel_rfl) (by kernel_rfl) (by kernel_rfl) (by kernel_rfl) (fun _ _ _ h => h) (by rfl) ?_ hHeld ?_
  rotate_left 1
  · (intro w hSw; (try dsimp only at hSw); go_simp; try with_reducible rfl)
  try simp only [Act.put, List.setIfInBounds_toArray, List.set_cons_zero, List.set_cons_succ]
  refine Reg.takeI 32 (v := ?_) rfl (by kernel_rfl) (by kernel_rfl) (by kernel_rfl) (by kernel_rfl) (fun _ _ _ h => h) (by rfl) ?_ hHeld ?_
  rotate_left 1
  · (intro w hSw; (try dsimp only at hSw); go_simp; try with_reducible rfl)
  try simp only [Act.put, List.setIfInBounds_toArray, List.set_cons_zero, List.set_cons_succ]
  refine Reg.takeI 33 (v := ?_) rfl (by kernel_rfl) (by kernel_rfl) (by kernel_rfl) (by kernel_rfl) (fun _ _ _ h => h) (by rfl) ?_ hHeld ?_
  rotate_left 1
  · (intro w hSw; (try dsimp only at hSw); go_simp; try with_reducible rfl)
  try simp only [Act.put, List.setIfInBounds_toArray, List.set_cons_zero, List.set_cons_succ]
  refine Reg.takeI 34 (v := ?_) rfl (by kernel_rfl) (by kernel_rfl) (by kernel_rfl) (by kernel_rfl) (fun _ _ _ h => h) (by rfl) ?_ hHeld ?_
  rotate_left 1
  · (intro w hSw; (try dsimp only at hSw); go_simp; try with_reducible rfl)
  try simp only [Act.put, List.setIfInBounds_toArray, List.set_cons_zero, List.set_cons_succ]
  refine Reg.takeI 35 (v := ?_) rfl (by kernel_rfl) (by kernel_rfl) (by kernel_rfl) (by kernel_rfl) (fun _ _ _ h => h) (by rfl) ?_ hHeld ?_
  rotate_left 1
  · (intro w hSw; (try dsimp only at hSw); go_simp; try with_reducible rfl)
  try simp only [Act.put, List.setIfInBounds_toArray, List.set_cons_zero, List.set_cons_succ]
  refine Reg.oneI 36 rfl (by kernel_rfl) (by rfl) (fun K hK => ?_)
  go_simp
  refine hK.out _ _ (fun _ => trivial) (fun hHeld => ?_)
  replace hHeld := hHeld (by first | rfl | trivial)
  clear hK K
  try simp only [Act.put, List.setIfInBounds_toArray, List.set_cons_zero, List.set_cons_succ]
  refine Reg.oneI 37 rfl (by kernel_rfl) (by rfl) (fun K hK => ?_)
  go_simp
  refine hK.out _ _ (fun h => by cases h) (fun _ => ?_)
  clear hK K
  try simp only [Act.put, List.setIfInBounds_toArray, List.set_cons_zero, List.set_cons_succ]
  refine Reg.doneI (by kernel_rfl) ?_
  have W4 := Lib.hid hm'
  clear e0 e1 e2 e3 e4 e5 e6 e7 e8 e9 e10 e11 e12 e13 e14 e15 e16 e17 e18 e19 hm' h0 h1 h2 h3 h4 h5 h6 h16 h17 hx6
  have hwd : w.heap.size < wd.heap.size := R1.out.lt
  have NR := Lib.hid (new_at rfl : Row (wd.alloc (.cells #[.int .i64 (B0 : Int), .int .i64 (B1 : Int), .int .i64 ((B2 : Int) + (B3 : Int) * 256 + (B4 : Int) * 65536 + (B5 : Int) * 16777216), .bool true, .string ⟨#[]⟩, .int .i64 ((B16 : Int) + (B17 : Int) * 256), .slice none 0 0] 24)) wd.heap.size 24 [.int .i64 (B0 : Int), .int .i64 (B1 : Int), .int .i64 ((B2 : Int) + (B3 : Int) * 256 + (B4 : Int) * 65536 + (B5 : Int) * 16777216), .bool true, .string ⟨#[]⟩, .int .i64 ((B16 : Int) + (B17 : Int) * 256), .slice none 0 0])
  have R1 := Lib.hid (R1.out.alloc (.cells #[.int .i64 (B0 : Int), .int .i64 (B1 : Int), .int .i64 ((B2 : Int) + (B3 : Int) * 256 + (B4 : Int) * 65536 + (B5 : Int) * 16777216), .bool true, .string ⟨#[]⟩, .int .i64 ((B16 : Int) + (B17 : Int) * 256), .slice none 0 0] 24))
  have B1x := Lib.hid (B1x.out.alloc B1x.out.size (.cells #[.int .i64 (B0 : Int), .int .i64 (B1 : Int), .int .i64 ((B2 : Int) + (B3 : Int) * 256 + (B4 : Int) * 65536 + (B5 : Int) * 16777216), .bool true, .string ⟨#[]⟩, .int .i64 ((B16 : Int) + (B17 : Int) * 256), .slice none 0 0] 24))
  have SZ := Lib.hid (show (wd.alloc (.cells #[.int .i64 (B0 : Int), .int .i64 (B1 : Int), .int .i64 ((B2 : Int) + (B3 : Int) * 256 + (B4 : Int) * 65536 + (B5 : Int) * 16777216), .bool true, .string ⟨#[]⟩, .int .i64 ((B16 : Int) + (B17 : Int) * 256), .slice none 0 0] 24)).heap.size = wd.heap.size + 1 by simp)
  generalize (wd.alloc (.cells #[.int .i64 (B0 : Int), .int .i64 (B1 : Int), .int .i64 ((B2 : Int) + (B3 : Int) * 256 + (B4 : Int) * 65536 + (B5 : Int) * 16777216), .bool true, .string ⟨#[]⟩, .int .i64 ((B16 : Int) + (B17 : Int) * 256), .slice none 0 0] 24)) = w4 at *
  generalize wd.heap.size = nb at *
  have n3 := NR.out.cell (i := 3) rfl
  have n4 := NR.out.cell (i := 4) rfl
  have g4 := NR.out.frozen 4 (by simp)
  have k16 : (16 : Int) ≤ ((bs t).size : Int) := by omega
  have x716 : (bs t).extract 7 16 = bs ((t.drop 7).take 9) := extract_mid t 7 16
  go_wp2_with fail
  have R1 := Lib.hid (R1.out.set_ne ⟨nb, 4, none⟩ (.string (bs ((t.drop 7).take 9))) (by show nb ≠ w.heap.size; omega))
  have B1x := Lib.hid (B1x.out.setCell (p := ⟨nb, 4, none⟩) (Nat.le_of_lt hwd) (.string (bs ((t.drop 7).take 9))))
  have NR := Lib.hid ((NR.out.set 4 (.string (bs ((t.drop 7).take 9)))).cast (cs' := [.int .i64 (B0 : Int), .int .i64 (B1 : Int), .int .i64 ((B2 : Int) + (B3 : Int) * 256 + (B4 : Int) * 65536 + (B5 : Int) * 16777216), .bool true, .string (bs ((t.drop 7).take 9)), .int .i64 ((B16 : Int) + (B17 : Int) * 256), .slice none 0 0]) rfl)
  have SZ := Lib.hid (show (w4.setCell ⟨nb, 4, none⟩ (.string (bs ((t.drop 7).take 9)))).heap.size = nb + 1 by rw [← SZ.out]; simp [World.setCell])
  clear n4 g4 k16 x716
  generalize (w4.setCell ⟨nb, 4, none⟩ (.string (bs ((t.drop 7).take 9)))) = w4 at *
  have R1 := Lib.hid R1.out.drew
  have B1x := Lib.hid B1x.out.drew
  have NR := Lib.hid NR.out.drew
  have hm' := W4.out
  have eA := q8.out
  have eB := q9.out
  have eC := q18.out
  have eD : IntKind.i64.wrap (m : Int) = (m : Int) := IntWalk.i64_in _ (by omega)
  have HBS := Lib.hid (show w4.drew.heap.size = nb + 1 from SZ.out)
  clear n3 SZ
  refine Reg.start (fun _ => True) (fun i => false) (by kernel_rfl) trivial (fun hHeld => ?_)
  generalize w4.drew = w5 at *
  refine Reg.takeI 0 (v := ?_) rfl (by kernel_rfl) (by kernel_rfl) (by kernel_rfl) (by kernel_rfl) (fun _ _ _ h => h) (by rfl) ?_ hHeld ?_
  rotate_left 1
  · (intro w hSw; (try dsimp only at hSw); go_simp; try with_reducible rfl)
  try simp only [Act.put, List.setIfInBounds_toArray, List.set_cons_zero, List.set_cons_succ]
  refine Reg.takeI 1 (v := ?_) rfl (by kernel_rfl) (by kernel_rfl) (by kernel_rfl) (by kernel_rfl) (fun _ _ _ h => h) (by rfl) ?_ hHeld ?_
  rotate_left 1
  · (intro w hSw; (try dsimp only at hSw); go_simp; try with_reducible rfl)
  try simp only [Act.put, List.setIfInBounds_toArray, List.set_cons_zero, List.set_cons_succ]
  refine Reg.takeI 2 (v := ?_) rfl (by kernel_rfl) (by kernel_rfl) (by kernel_rfl) (by kernel_rfl) (fun _ _ _ h => h) (by rfl) ?_ hHeld ?_
  rotate_left 1
  · (intro w hSw; (try dsimp only at hSw); go_simp; try with_reducible rfl)
  try simp only [Act.put, List.setIfInBounds_toArray, List.set_cons_zero, List.set_cons_succ]
  refine Reg.takeI 3 (v := ?_) rfl (by kernel_rfl) (by kernel_rfl) (by kernel_rfl) (by kernel_rfl) (fun _ _ _ h => h) (by rfl) ?_ hHeld ?_
  rotate_left 1
  · (intro w hSw; (try dsimp only at hSw); go_simp; try with_reducible rfl)
  try simp only [Act.put, List.setIfInBounds_toArray, List.set_cons_zero, List.set_cons_succ]
  refine Reg.takeI 4 (v := ?_) rfl (by kernel_rfl) (by kernel_rfl) (by kernel_rfl) (by kernel_rfl) (fun _ _ _ h => h) (by rfl) ?_ hHeld ?_
  rotate_left 1
  · (intro w hSw; (try dsimp only at hSw); go_simp; try with_reducible rfl)
  try simp only [Act.put, List.setIfInBounds_toArray, List.set_cons_zero, List.set_cons_succ]
  refine Reg.takeI 5 (v := ?_) rfl (by kernel_rfl) (by kernel_rfl) (by kernel_rfl) (by kernel_rfl) (fun _ _ _ h => h) (by rfl) ?_ hHeld ?_
  rotate_left 1
  · (intro w hSw; (try dsimp only at hSw); go_simp; try with_reducible rfl)
  try simp only [Act.put, List.setIfInBounds_toArray, List.set_cons_zero, List.set_cons_succ]
  refine Reg.takeI 6 (v := ?_) rfl (by kernel_rfl) (by kernel_rfl) (by kernel_rfl) (by kernel_rfl) (fun _ _ _ h => h) (by rfl) ?_ hHeld ?_
  rotate_left 1
  · (intro w hSw; (try dsimp only at hSw); go_simp; try with_reducible rfl)
  try simp only [Act.put, List.setIfInBounds_toArray, List.set_cons_zero, List.set_cons_succ]
  refine Reg.takeI 7 (v := ?_) rfl (by kernel_rfl) (by kernel_rfl) (by kernel_rfl) (by kernel_rfl) (fun _ _ _ h => h) (by rfl) ?_ hHeld ?_
  rotate_left 1
  · (intro w hSw; (try dsimp only at hSw); go_simp; try with_reducible rfl)
  try simp only [Act.put, List.setIfInBounds_toArray, List.set_cons_zero, List.set_cons_succ]
  refine Reg.takeI 8 (v := ?_) rfl (by kernel_rfl) (by kernel_rfl) (by kernel_rfl) (by kernel_rfl) (fun _ _ _ h => h) (by rfl) ?_ hHeld ?_
  rotate_left 1
  · (intro w hSw; (try dsimp only at hSw); go_simp; try with_reducible rfl)
  try simp only [Act.put, List.setIfInBounds_toArray, List.set_cons_zero, List.set_cons_succ]
  refine Reg.doneI (by kernel_rfl) ?_
  clear eA eB eC eD hm' h18 h19
  have HI := Lib.hid (show hd t [] = ⟨(B0 : Int), (B1 : Int), (B2 : Int) + (B3 : Int) * 256 + (B4 : Int) * 65536 + (B5 : Int) * 16777216, true, bs ((t.drop 7).take 9), (B16 : Int) + (B17 : Int) * 256, []⟩ from by
    obtain ⟨n0, n1, n2, n6, n16, _⟩ := N.out
    unfold hd
    rw [n0, n1, n2, n6, n16, HH.out]
    simp only [Nd.mk.injEq]
    refine ⟨trivial, trivial, by omega, trivial, ?_, by omega, trivial⟩
    rw [if_pos (by have := HH.out; simpa using this)])
  go_wp2_with fail
  generalize w5 = w5 at *
  go_loopw [8, 9] (fun av i wr => ∃ (k a : Nat) (vs : List Ent) (p : Value), k ≤ m ∧ av = .int .i64 a ∧ i = .int .i64 k ∧ vs.length = k ∧ a ≤ 252 ∧ a = 20 + size0 vs ∧ entsN m (t.drop 20) = (entsN (m - k) (t.drop a)).map (vs ++ ·) ∧ (∀ e ∈ vs, e.key.size ≤ 9) ∧ Row wr nb 24 [.int .i64 (B0 : Int), .int .i64 (B1 : Int), .int .i64 ((B2 : Int) + (B3 : Int) * 256 + (B4 : Int) * 65536 + (B5 : Int) * 16777216), .bool true, .string (bs ((t.drop 7).take 9)), .int .i64 ((B16 : Int) + (B17 : Int) * 256), p] ∧ wr.ownsRow (nb + 1) 44 3 p k (vs.flatMap Ent.cells) ∧ Row wr w.heap.size 24 [.int .i64 0, .int .i64 0, .int .i64 0, .bool false, .string ⟨#[]⟩, .int .i64 0, .slice none 0 0] ∧ Below w.heap.size w wr ∧ nb + 1 ≤ wr.heap.size) (fun _ i _ => m - (intOf i).toNat)
  case atStart => exact ⟨0, 20, [], .slice none 0 0, by omega, rfl, rfl, rfl, by omega, rfl, by simp, (fun e he => by cases he), NR.out, World.ownsRow_nil _ _ _ _, R1.out, B1x.out, Nat.le_of_eq HBS.out.symm⟩
  case round =>
    clear NR R1 B1x HBS
    obtain ⟨k, a, vs, p, hk, rfl, rfl, hvl, ha, has, hI, hks, hN, hO, hR, hB, hS⟩ := hrel
    have t1 : 252 ≤ (bs t).size := Nat.le_of_eq TL.out.symm
    have t2 : (bs t).size ≤ 252 := Nat.le_of_eq TL.out
    have VL := Lib.hid hvl
    have AS := Lib.hid has
    have I := Lib.hid hI
    have KS := Lib.hid hks
    have XN := Lib.hid hN
    have XO := Lib.hid hO
    have XR := Lib.hid hR
    have XB := Lib.hid hB
    clear hvl has hI hks hN hO hR hB
    by_cases hlt : k < m
    · have hlt' : (k : Int) < (m : Int) := by omega
      have hdl : (t.drop a).length = 252 - a := by rw [List.length_drop, TL.out]
      by_cases d1 : 252 < a + 11
      · have d1' : (252 : Int) < (a : Int) + 11 := by omega
        have hf : entFits (t.drop a) = false := by unfold entFits; rw [hdl]; simp; omega
        have hnn : nRead s.data.toList = none := by
          rw [RD.out]
          unfold parse
          rw [N.out.2.2.2.2.2, entsN_stop hlt hf I.out]
          rfl
        have NN := Lib.hid hnn
        clear hf hnn hdl
        go_wp2_with (refine store_row XR.out [.int .i64 0, .int .i64 0, .int .i64 0, .bool false, .string ⟨#[]⟩, .int .i64 0, .slice none 0 0] 24 (by kernel_rfl) rfl zero_one rfl rfl rfl rfl ?_; intro wz hRz hcz hsz)
        exact rr_none hRz (below_one' XB.out hcz XB.out.size (Nat.le_refl _)) rfl rfl rfl NN.out
      have d1' : ¬ (252 : Int) < (a : Int) + 11 := by omega
      have d1d : decide ((252 : Int) < (a : Int) + 11) = false := by simp; omega
      have i10 : a + 10 < (bs t).size := by omega
      have j10 : (a : Int) + 10 < ((bs t).size : Int) := by omega
      obtain ⟨c, hc⟩ : ∃ x, ((bs t)[a + 10]'i10).toNat = x := ⟨_, rfl⟩
      have lc : c < 256 := by rw [← hc]; exact ((bs t)[a + 10]'i10).toNat_lt
      have hnc : num (t.drop a) 10 1 = c := by rw [num_drop, num_get1 t (a + 10) (by rw [TL.out]; omega), ← hc]; rfl
      have NC := Lib.hid hnc
      clear hnc
      by_cases d2 : 252 < a + 11 + c
      · have d2' : (252 : Int) < (a : Int) + 11 + (c : Int) := by omega
        have hf : entFits (t.drop a) = false := by unfold entFits entLen; rw [hdl, NC.out]; simp; omega
        have hnn : nRead s.data.toList = none := by
          rw [RD.out]
          unfold parse
          rw [N.out.2.2.2.2.2, entsN_stop hlt hf I.out]
          rfl
        have NN := Lib.hid hnn
        clear hf hnn hdl
        go_wp2_with (refine store_row XR.out [.int .i64 0, .int .i64 0, .int .i64 0, .bool false, .string ⟨#[]⟩, .int .i64 0, .slice none 0 0] 24 (by kernel_rfl) rfl zero_one rfl rfl rfl rfl ?_; intro wz hRz hcz hsz)
        exact rr_none hRz (below_one' XB.out hcz XB.out.size (Nat.le_refl _)) rfl rfl rfl NN.out
      have d2' : ¬ (252 : Int) < (a : Int) + 11 + (c : Int) := by omega
      have hf : entFits (t.drop a) = true := by unfold entFits entLen; rw [hdl, NC.out]; simp; omega
      have NX := Lib.hid (entsN_next hlt hf I.out)
      have i9 : a + 9 < (bs t).size := by omega
      have j9 : (a : Int) + 9 < ((bs t).size : Int) := by omega
      obtain ⟨g, hg⟩ : ∃ x, ((bs t)[a + 9]'i9).toNat = x := ⟨_, rfl⟩
      have hng : num (t.drop a) 9 1 = g := by rw [num_drop, num_get1 t (a + 9) (by rw [TL.out]; omega), ← hg]; rfl
      obtain ⟨gh, hgh⟩ : ∃ x, (g == 1) = x := ⟨_, rfl⟩
      have hge : entOf (t.drop a) = ⟨bs ((t.drop a).take 9), bs ((t.drop (a + 11)).take c), gh⟩ := by unfold entOf; rw [hng, NC.out, hgh, List.drop_drop]
      have hgi : ((g : Int) == 1) = gh := by
        rw [← hgh]
        by_cases q : g = 1
        · rw [q]; rfl
        · have q1 : ((g : Int) == 1) = false := by simp; omega
          have q2 : (g == 1) = false := by simp; omega
          rw [q1, q2]
      have hel : entLen (t.drop a) = 11 + c := by unfold entLen; rw [NC.out]
      have hdd : (t.drop a).drop (entLen (t.drop a)) = t.drop (a + 11 + c) := by rw [hel, List.drop_drop]; congr 1; omega
      have hks9 : (bs ((t.drop a).take 9)).size = 9 := cut_size (by rw [TL.out]; omega)
      have hvsc : (bs ((t.drop (a + 11)).take c)).size = c := cut_size (by rw [TL.out]; omega)
      have x1 : (bs t).extract a (a + 9) = bs ((t.drop a).take 9) := by rw [extract_mid, Nat.add_sub_cancel_left]
      have x2 : (bs t).extract (a + 11) (a + 11 + c) = bs ((t.drop (a + 11)).take c) := by rw [extract_mid, Nat.add_sub_cancel_left]
      rw [hge, hdd] at NX
      obtain ⟨KY, hK⟩ : ∃ KY, bs ((t.drop a).take 9) = KY := ⟨_, rfl⟩
      obtain ⟨UY, hU⟩ : ∃ UY, bs ((t.drop (a + 11)).take c) = UY := ⟨_, rfl⟩
      rw [hK] at x1 NX hks9
      rw [hU] at x2 NX hvsc
      have KU := Lib.hid (And.intro hks9 hvsc)
      have u9 : (a : Int) + 9 ≤ ((bs t).size : Int) := by omega
      have u11 : (a : Int) + 11 + (c : Int) ≤ ((bs t).size : Int) := by omega
      have v9 : (a : Int) ≤ (a : Int) + 9 := by omega
      have v11 : (a : Int) + 11 ≤ (a : Int) + 11 + (c : Int) := by omega
      have v9b : (0 : Int) ≤ (a : Int) + 9 := by omega
      have v11b : (0 : Int) ≤ (a : Int) + 11 := by omega
      have v11c : (0 : Int) ≤ (a : Int) + 11 + (c : Int) := by omega
      have o9 : ((a : Int) + 9).toNat = a + 9 := by omega
      have o11 : ((a : Int) + 11).toNat = a + 11 := by omega
      have o11c : ((a : Int) + 11 + (c : Int)).toNat = a + 11 + c := by omega
      have kl : k + 1 ≤ 100000 := by omega
      clear hK hU hks9 hvsc hge hng hdd hel hf hdl hgh
      go_wp2_with fail
      have XN := Lib.hid XN.out.drew
      have XR := Lib.hid XR.out.drew
      have XB := Lib.hid XB.out.drew
      have XO := Lib.hid (show wr.drew.ownsRow _ _ _ _ _ _ from XO.out)
      replace hS : nb + 1 ≤ wr.drew.heap.size := hS
      have w9 : IntKind.i64.wrap ((a : Int) + 9) = (a : Int) + 9 := IntWalk.i64_in _ (by omega)
      have w11 : IntKind.i64.wrap ((a : Int) + 11) = (a : Int) + 11 := by first | exact IntWalk.i64_in _ (by clear w9; omega)
      refine Reg.start (fun w' => w'.cell? ⟨nb, 6, none⟩ = some p) (fun i => i == 21) (by kernel_rfl) (XN.out.cell rfl) (fun hHeld => ?_)
      generalize wr.drew = w6 at *
      refine Reg.takeI 0 (v := ?_) rfl (by kernel_rfl) (by kernel_rfl) (by kernel_rfl) (by kernel_rfl) (fun _ _ _ h => h) (by rfl) ?_ hHeld ?_
      rotate_left 1
      · (intro w hSw; (try dsimp only at hSw); go_simp; try with_reducible rfl)
      try simp only [Act.put, List.setIfInBounds_toArray, List.set_cons_zero, List.set_cons_succ]
      refine Reg.takeI 1 (v := ?_) rfl (by kernel_rfl) (by kernel_rfl) (by kernel_rfl) (by kernel_rfl) (fun _ _ _ h => h) (by rfl) ?_ hHeld ?_
      rotate_left 1
      · (intro w hSw; (try dsimp only at hSw); go_simp; try with_reducible rfl)
      try simp only [Act.put, List.setIfInBounds_toArray, List.set_cons_zero, List.set_cons_succ]
      refine Reg.takeI 2 (v := ?_) rfl (by kernel_rfl) (by kernel_rfl) (by kernel_rfl) (by kernel_rfl) (fun _ _ _ h => h) (by rfl) ?_ hHeld ?_
      rotate_left 1
      · (intro w hSw; (try dsimp only at hSw); go_simp; try with_reducible rfl)
      try simp only [Act.put, List.setIfInBounds_toArray, List.set_cons_zero, List.set_cons_succ]
      refine Reg.takeI 3 (v := ?_) rfl (by kernel_rfl) (by kernel_rfl) (by kernel_rfl) (by kernel_rfl) (fun _ _ _ h => h) (by rfl) ?_ hHeld ?_
      rotate_left 1
      · (intro w hSw; (try dsimp only at hSw); go_simp; try with_reducible rfl)
      try simp only [Act.put, List.setIfInBounds_toArray, List.set_cons_zero, List.set_cons_succ]
      refine Reg.takeI 4 (v := ?_) rfl (by kernel_rfl) (by kernel_rfl) (by kernel_rfl) (by kernel_rfl) (fun _ _ _ h => h) (by rfl) ?_ hHeld ?_
      rotate_left 1
      · (intro w hSw; (try dsimp only at hSw); go_simp; try with_reducible rfl)
      try simp only [Act.put, List.setIfInBounds_toArray, List.set_cons_zero, List.set_cons_succ]
      refine Reg.takeI 5 (v := ?_) rfl (by kernel_rfl) (by kernel_rfl) (by kernel_rfl) (by kernel_rfl) (fun _ _ _ h => h) (by rfl) ?_ hHeld ?_
      rotate_left 1
      · (intro w hSw; (try dsimp only at hSw); go_simp; try with_reducible rfl)
      try simp only [Act.put, List.setIfInBounds_toArray, List.set_cons_zero, List.set_cons_succ]
      refine Reg.takeI 6 (v := ?_) rfl (by kernel_rfl) (by kernel_rfl) (by kernel_rfl) (by kernel_rfl) (fun _ _ _ h => h) (by rfl) ?_ hHeld ?_
      rotate_left 1
      · (intro w hSw; (try dsimp only at hSw); go_simp; try with_reducible rfl)
      try simp only [Act.put, List.setIfInBounds_toArray, List.set_cons_zero, List.set_cons_succ]
      refine Reg.takeI 7 (v := ?_) rfl (by kernel_rfl) (by kernel_rfl) (by kernel_rfl) (by kernel_rfl) (fun _ _ _ h => h) (by rfl) ?_ hHeld ?_
      rotate_left 1
      · (intro w hSw; (try dsimp only at hSw); go_simp; try with_reducible rfl)
      try simp only [Act.put, List.setIfInBounds_toArray, List.set_cons_zero, List.set_cons_succ]
      refine Reg.takeI 8 (v := ?_) rfl (by kernel_rfl) (by kernel_rfl) (by kernel_rfl) (by kernel_rfl) (fun _ _ _ h => h) (by rfl) ?_ hHeld ?_
      rotate_left 1
      · (intro w hSw; (try dsimp only at hSw); go_simp; try with_reducible rfl)
      try simp only [Act.put, List.setIfInBounds_toArray, List.set_cons_zero, List.set_cons_succ]
      refine Reg.takeI 9 (v := ?_) rfl (by kernel_rfl) (by kernel_rfl) (by kernel_rfl) (by kernel_rfl) (fun _ _ _ h => h) (by rfl) ?_ hHeld ?_
      rotate_left 1
      · (intro w hSw; (try dsimp only at hSw); go_simp; try with_reducible rfl)
      try simp only [Act.put, List.setIfInBounds_toArray, List.set_cons_zero, List.set_cons_succ]
      refine Reg.takeI 10 (v := ?_) rfl (by kernel_rfl) (by kernel_rfl) (by kernel_rfl) (by kernel_rfl) (fun _ _ _ h => h) (by rfl) ?_ hHeld ?_
      rotate_left 1
      · (intro w hSw; (try dsimp only at hSw); go_simp; try with_reducible rfl)
      try simp only [Act.put, List.setIfInBounds_toArray, List.set_cons_zero, List.set_cons_succ]
      refine Reg.takeI 11 (v := ?_) rfl (by kernel_rfl) (by kernel_rfl) (by kernel_rfl) (by kernel_rfl) (fun _ _ _ h => h) (by rfl) ?_ hHeld ?_
      rotate_left 1
      · (intro w hSw; (try dsimp only at hSw); go_simp; try with_reducible rfl)
      try simp only [Act.put, List.setIfInBounds_toArray, List.set_cons_zero, List.set_cons_succ]
      refine Reg.takeI 12 (v := ?_) rfl (by kernel_rfl) (by kernel_rfl) (by kernel_rfl) (by kernel_rfl) (fun _ _ _ h => h) (by rfl) ?_ hHeld ?_
      rotate_left 1
      · (intro w hSw; (try dsimp only at hSw); go_simp; try with_reducible rfl)
      try simp only [Act.put, List.setIfInBounds_toArray, List.set_cons_zero, List.set_cons_succ]
      refine Reg.takeI 13 (v := ?_) rfl (by kernel_rfl) (by kernel_rfl) (by kernel_rfl) (by kernel_rfl) (fun _ _ _ h => h) (by rfl) ?_ hHeld ?_
      rotate_left 1
      · (intro w hSw; (try dsimp only at hSw); go_simp; try with_reducible rfl)
      try simp only [Act.put, List.setIfInBounds_toArray, List.set_cons_zero, List.set_cons_succ]
      refine Reg.takeI 14 (v := ?_) rfl (by kernel_rfl) (by kernel_rfl) (by kernel_rfl) (by kernel_rfl) (fun _ _ _ h => h) (by rfl) ?_ hHeld ?_
      rotate_left 1
      · (intro w hSw; (try dsimp only at hSw); go_simp; try with_reducible rfl)
      try simp only [Act.put, List.setIfInBounds_toArray, List.set_cons_zero, List.set_cons_succ]
      refine Reg.takeI 15 (v := ?_) rfl (by kernel_rfl) (by kernel_rfl) (by kernel_rfl) (by kernel_rfl) (fun _ _ _ h => h) (by rfl) ?_ hHeld ?_
      rotate_left 1
      · (intro w hSw; (try dsimp only at hSw); go_simp; try with_reducible rfl)
      try simp only [Act.put, List.setIfInBounds_toArray, List.set_cons_zero, List.set_cons_succ]
      refine Reg.takeI 16 (v := ?_) rfl (by kernel_rfl) (by kernel_rfl) (by kernel_rfl) (by kernel_rfl) (fun _ _ _ h => h) (by rfl) ?_ hHeld ?_
      rotate_left 1
      · (intro w hSw; (try dsimp only at hSw); go_simp; try with_reducible rfl)
      try simp only [Act.put, List.setIfInBounds_toArray, List.set_cons_zero, List.set_cons_succ]
      refine Reg.takeI 17 (v := ?_) rfl (by kernel_rfl) (by kernel_rfl) (by kernel_rfl) (by kernel_rfl) (fun _ _ _ h => h) (by rfl) ?_ hHeld ?_
      rotate_left 1
      · (intro w hSw; (try dsimp only at hSw); go_simp; try with_reducible rfl)
      try simp only [Act.put, List.setIfInBounds_toArray, List.set_cons_zero, List.set_cons_succ]
      refine Reg.oneI 18 rfl (by kernel_rfl) (by rfl) (fun K hK => ?_)
      go_simp
      have XN2 := Lib.hid XN.out
      have XR2 := Lib.hid XR.out
      have XB2 := Lib.hid XB.out
      replace XN := Lib.hid (XN.out.alloc (.cells #[.string KY, .string UY, .bool gh] 44))
      refine hK.out _ _ (fun _ => (XN.out.cell rfl)) (fun hHeld => ?_)
      replace hHeld := hHeld (by first | rfl | trivial)
      clear hK K
      try simp only [Act.put, List.setIfInBounds_toArray, List.set_cons_zero, List.set_cons_succ]
      refine Reg.oneI 19 rfl (by kernel_rfl) (by rfl) (fun K hK => ?_)
      clear w9 w11
      refine app1_op (news := [.string KY, .string UY, .bool gh]) XO.out hS 22 Try.underlying22 info_ent ent_size (by decide) (by decide) (by omega) rfl (by simp [Value.oneCell']) rfl rfl rfl ?_
      intro v' w7 O7 G7
      have hne : ∀ j, p.ownBlock = some j → nb + 1 ≤ j := fun j hj => (XO.out.lt j hj).1
      have C7 : Chg (fun j => nb + 1 ≤ j) w6 w7 := chg_grown G7 hne
      obtain ⟨a', cap', rfl, _⟩ := Reel.own_shape O7
      replace XN := Lib.hid (XN2.out.chg C7 (by show ¬ nb + 1 ≤ nb; omega))
      replace XR := Lib.hid (XR2.out.chg C7 (by show ¬ nb + 1 ≤ w.heap.size; omega))
      replace XB := Lib.hid (XB2.out.trans (C7.below XB2.out.size (fun b hb => by omega)))
      replace hS : nb + 1 ≤ w7.heap.size := Nat.le_trans hS C7.size
      have c6 := XN.out.cell (i := 6) rfl
      have f6 := XN.out.frozen 6 (by simp)
      have HO7 := Lib.hid O7
      clear XN2 XR2 XB2 C7 G7 hne O7 XO
      refine hK.out _ _ (fun _ => (XN.out.cell rfl)) (fun hHeld => ?_)
      replace hHeld := hHeld (by first | rfl | trivial)
      clear hK K
      try simp only [Act.put, List.setIfInBounds_toArray, List.set_cons_zero, List.set_cons_succ]
      refine Reg.takeI 20 (v := ?_) rfl (by kernel_rfl) (by kernel_rfl) (by kernel_rfl) (by kernel_rfl) (fun _ _ _ h => h) (by rfl) ?_ hHeld ?_
      rotate_left 1
      · (intro w hSw; (try dsimp only at hSw); go_simp; try with_reducible rfl)
      try simp only [Act.put, List.setIfInBounds_toArray, List.set_cons_zero, List.set_cons_succ]
      refine Reg.oneI 21 rfl (by kernel_rfl) (by rfl) (fun K hK => ?_)
      go_simp
      refine hK.out _ _ (fun h => by cases h) (fun _ => ?_)
      clear hK K
      try simp only [Act.put, List.setIfInBounds_toArray, List.set_cons_zero, List.set_cons_succ]
      refine Reg.doneI (by kernel_rfl) ?_
      have N8 := Lib.hid ((XN.out.set 6 (.slice a' (k + 1) cap')).cast (cs' := [.int .i64 (B0 : Int), .int .i64 (B1 : Int), .int .i64 ((B2 : Int) + (B3 : Int) * 256 + (B4 : Int) * 65536 + (B5 : Int) * 16777216), .bool true, .string (bs ((t.drop 7).take 9)), .int .i64 ((B16 : Int) + (B17 : Int) * 256), .slice a' (k + 1) cap']) rfl)
      have R8 := Lib.hid (XR.out.set_ne ⟨nb, 6, none⟩ (.slice a' (k + 1) cap') (by show nb ≠ w.heap.size; omega))
      have B8 := Lib.hid (XB.out.setCell (p := ⟨nb, 6, none⟩) (Nat.le_of_lt hwd) (.slice a' (k + 1) cap'))
      have O8 := Lib.hid (Reel.own_chg HO7.out ((Chg.refl (One nb) _).put 6 (.slice a' (k + 1) cap')) (fun j hj x => by have := (HO7.out.lt j hj).1; have e : j = nb := x; omega))
      have S8 : nb + 1 ≤ (w7.setCell ⟨nb, 6, none⟩ (.slice a' (k + 1) cap')).heap.size := by simp [World.setCell]; exact hS
      clear XN XR XB HO7 c6 f6
      go_wp2_with fail
      exact ⟨⟨k + 1, a + 11 + c, vs ++ [⟨KY, UY, gh⟩], _, by omega, by go_num, by go_num, by rw [List.length_append, VL.out]; rfl, by omega, by rw [size0_snoc, AS.out]; show _ = 20 + (size0 vs + (11 + UY.size)); rw [KU.out.2]; omega, NX.out, (fun e he => by
        rcases List.mem_append.1 he with he | he
        · exact KS.out e he
        · rw [List.mem_singleton.1 he]; exact Nat.le_of_eq KU.out.1), N8.out, by rw [List.flatMap_append]; exact O8.out, R8.out, B8.out, S8⟩, by simp [intOf]; omega⟩
    · obtain rfl : k = m := by omega
      have hI3 : entsN k (t.drop 20) = some vs := by rw [I.out, Nat.sub_self]; simp [entsN]
      have hpt : parse t = some (hd t vs) := by unfold parse; rw [N.out.2.2.2.2.2, hI3]; rfl
      have hnd : hd t vs = ⟨(B0 : Int), (B1 : Int), (B2 : Int) + (B3 : Int) * 256 + (B4 : Int) * 65536 + (B5 : Int) * 16777216, true, bs ((t.drop 7).take 9), (B16 : Int) + (B17 : Int) * 256, vs⟩ := congrArg (fun n => { n with list := vs }) HI.out
      rw [hnd] at hpt
      have hk := VL.out
      subst hk
      obtain ⟨a', cap', rfl, hE, hbl⟩ := es_own XO.out rfl
      have PT := Lib.hid hpt
      have GC := Lib.hid (fun (wx : World) (h : Below wr.heap.size wr wx) => refgood_calls ⟨(B0 : Int), (B1 : Int), (B2 : Int) + (B3 : Int) * 256 + (B4 : Int) * 65536 + (B5 : Int) * 16777216, true, bs ((t.drop 7).take 9), (B16 : Int) + (B17 : Int) * 256, vs⟩ a' cap' wx (hE.keep h) (by show vs.length ≤ _; omega) (by show (bs ((t.drop 7).take 9)).size ≤ _; rw [cut_size (by rw [TL.out]; omega)]; omega) (fun i hi => Nat.le_trans (KS.out _ (List.getElem_mem hi)) (by omega)))
      have hsz : Nd.size ⟨(B0 : Int), (B1 : Int), (B2 : Int) + (B3 : Int) * 256 + (B4 : Int) * 65536 + (B5 : Int) * 16777216, true, bs ((t.drop 7).take 9), (B16 : Int) + (B17 : Int) * 256, vs⟩ ≤ 252 := by show 20 + size0 vs ≤ 252; have := AS.out; omega
      have HSZ := Lib.hid hsz
      have HE := Lib.hid hE
      have HBL := Lib.hid hbl
      have hcl : Nd.cells ⟨(B0 : Int), (B1 : Int), (B2 : Int) + (B3 : Int) * 256 + (B4 : Int) * 65536 + (B5 : Int) * 16777216, true, bs ((t.drop 7).take 9), (B16 : Int) + (B17 : Int) * 256, vs⟩ (.slice a' vs.length cap') = [.int .i64 (B0 : Int), .int .i64 (B1 : Int), .int .i64 ((B2 : Int) + (B3 : Int) * 256 + (B4 : Int) * 65536 + (B5 : Int) * 16777216), .bool true, .string (bs ((t.drop 7).take 9)), .int .i64 ((B16 : Int) + (B17 : Int) * 256), .slice a' vs.length cap'] := rfl
      obtain ⟨n, hn⟩ : ∃ n : Nd, (⟨(B0 : Int), (B1 : Int), (B2 : Int) + (B3 : Int) * 256 + (B4 : Int) * 65536 + (B5 : Int) * 16777216, true, bs ((t.drop 7).take 9), (B16 : Int) + (B17 : Int) * 256, vs⟩ : Nd) = n := ⟨_, rfl⟩
      have hvs : n.list = vs := by rw [← hn]
      rw [hn] at PT HSZ hcl
      simp only [hn] at GC
      rw [hcl] at GC
      have HVS := Lib.hid hvs
      have HCL := Lib.hid hcl
      clear hn hnd hpt hI3 hE hbl hsz I
      have hlt' : ¬ (vs.length : Int) < (vs.length : Int) := by omega
      clear XO
      cases hg : n.good
      · have hnn := rd_none RD.out PT.out (fun hh => bad_fits hg hh.1)
        have NN := Lib.hid hnn
        rw [hg] at GC
        clear hnn hg hcl
        have c0 := XN.out.cell (i := 0) rfl
        have c1 := XN.out.cell (i := 1) rfl
        have c2 := XN.out.cell (i := 2) rfl
        have c3 := XN.out.cell (i := 3) rfl
        have c4 := XN.out.cell (i := 4) rfl
        have c5 := XN.out.cell (i := 5) rfl
        have c6 := XN.out.cell (i := 6) rfl
        go_wp2_with fail
        clear c0 c1 c2 c3 c4 c5 c6
        refine (GC.out _ (Below.refl _ _)).mono ?_
        rintro e w8 ⟨rfl, k8⟩
        have XR := Lib.hid (XR.out.below k8 XR.out.lt)
        have XB := Lib.hid (XB.out.trans (k8.mono XB.out.size))
        clear k8
        go_wp2_with (refine store_row XR.out [.int .i64 0, .int .i64 0, .int .i64 0, .bool false, .string ⟨#[]⟩, .int .i64 0, .slice none 0 0] 24 (by kernel_rfl) rfl zero_one rfl rfl rfl rfl ?_; intro wz hRz hcz hsz)
        exact rr_none hRz (below_one' XB.out hcz XB.out.size (Nat.le_refl _)) rfl rfl rfl NN.out
      · have hfit : n.fits = true := by unfold Nd.fits; rw [hg]; simp; exact HSZ.out
        have BC := Lib.hid (fun (wx : World) (h : Below wr.heap.size wr wx) => refbytes_calls n hfit a' cap' wx (by rw [HVS.out]; exact HE.out.keep h))
        rw [HVS.out, hcl] at BC
        rw [hg] at GC
        have FT := Lib.hid hfit
        clear hg hfit hcl
        have c0 := XN.out.cell (i := 0) rfl
        have c1 := XN.out.cell (i := 1) rfl
        have c2 := XN.out.cell (i := 2) rfl
        have c3 := XN.out.cell (i := 3) rfl
        have c4 := XN.out.cell (i := 4) rfl
        have c5 := XN.out.cell (i := 5) rfl
        have c6 := XN.out.cell (i := 6) rfl
        go_wp2_with fail
        clear c0 c1 c2 c3 c4 c5 c6
        refine (GC.out _ (Below.refl _ _)).mono ?_
        rintro e w8 ⟨rfl, k8⟩
        have XR := Lib.hid (XR.out.below k8 XR.out.lt)
        have XN := Lib.hid (XN.out.below k8 XN.out.lt)
        have XB := Lib.hid (XB.out.trans (k8.mono XB.out.size))
        have G8 := Lib.hid k8
        clear k8 GC
        have c0 := XN.out.cell (i := 0) rfl
        have c1 := XN.out.cell (i := 1) rfl
        have c2 := XN.out.cell (i := 2) rfl
        have c3 := XN.out.cell (i := 3) rfl
        have c4 := XN.out.cell (i := 4) rfl
        have c5 := XN.out.cell (i := 5) rfl
        have c6 := XN.out.cell (i := 6) rfl
        go_wp2_with fail
        clear c0 c1 c2 c3 c4 c5 c6
        refine (BC.out _ G8.out).mono ?_
        rintro e w9 ⟨rfl, k9⟩
        have XR := Lib.hid (XR.out.below k9 XR.out.lt)
        have XN := Lib.hid (XN.out.below k9 XN.out.lt)
        have XB := Lib.hid (XB.out.trans (k9.mono XB.out.size))
        have HE9 := Lib.hid ((HE.out.keep G8.out).keep k9)
        clear k9 BC G8
        by_cases hq : n.bytes = s.data.toList
        · have hnn := rd_some RD.out PT.out ⟨FT.out, hq⟩
          have NN := Lib.hid hnn
          have hq1 : ((bs n.bytes).toList == s.toList) = true := by rw [beq_iff_eq, hq]; rfl
          clear hnn hq
          have c0 := XN.out.cell (i := 0) rfl
          have c1 := XN.out.cell (i := 1) rfl
          have c2 := XN.out.cell (i := 2) rfl
          have c3 := XN.out.cell (i := 3) rfl
          have c4 := XN.out.cell (i := 4) rfl
          have c5 := XN.out.cell (i := 5) rfl
          have c6 := XN.out.cell (i := 6) rfl
          go_wp2_with (refine store_row XR.out [.int .i64 (B0 : Int), .int .i64 (B1 : Int), .int .i64 ((B2 : Int) + (B3 : Int) * 256 + (B4 : Int) * 65536 + (B5 : Int) * 16777216), .bool true, .string (bs ((t.drop 7).take 9)), .int .i64 ((B16 : Int) + (B17 : Int) * 256), .slice a' vs.length cap'] 24 (by kernel_rfl) rfl (by simp [Value.oneCell']) rfl rfl rfl rfl ?_; intro wz hRz hcz hsz)
          refine ret_row2 hRz Try.results18 Try.underlying24 rfl (by kernel_rfl) rfl rfl ?_
          rw [NN.out]
          have hE2 := HE9.out.chg hcz (fun ad had x => by have := HBL.out ad had; have e : ad.block = w.heap.size := x; omega)
          exact ⟨a', cap', by rw [HVS.out, HCL.out]; rfl, by rw [HVS.out]; exact hE2, below_one' XB.out hcz XB.out.size (Nat.le_refl _)⟩
        · have hnn := rd_none RD.out PT.out (fun hh => hq hh.2)
          have NN := Lib.hid hnn
          have hq1 : ((bs n.bytes).toList == s.toList) = false := by
            rw [beq_eq_false_iff_ne]
            intro h
            exact hq (congrArg (fun s => s.data.toList) (Bytes.toList_inj.1 h))
          clear hnn hq
          go_wp2_with (refine store_row XR.out [.int .i64 0, .int .i64 0, .int .i64 0, .bool false, .string ⟨#[]⟩, .int .i64 0, .slice none 0 0] 24 (by kernel_rfl) rfl zero_one rfl rfl rfl rfl ?_; intro wz hRz hcz hsz)
          exact rr_none hRz (below_one' XB.out hcz XB.out.size (Nat.le_refl _)) rfl rfl rfl NN.out

theorem refread_calls (s : ByteArray) (w : World) (hs : s.size ≤ 100000) : Calls Try.prog 18 #[.string s] w fun e w' => readPost (.bool false) (.bool true) (nRead s.data.toList) w e w' := by
  cases hop : Crc.opened s.data.toList with
  | none =>
    have hn : nRead s.data.toList = none := by unfold nRead; rw [hop]
    rw [hn]
    exact refread_no s w hs (fun t h => by rw [hop] at h; cases h)
  | some t =>
    by_cases h252 : t.length = 252
    · cases hh : (num t 6 1 == 1)
      · exact refread_false s w hs t hop h252 hh
      · exact refread_true s w hs t hop h252 hh
    · have hn : nRead s.data.toList = none := by unfold nRead; rw [hop]; simp only; rw [if_neg h252]
      rw [hn]
      exact refread_no s w hs (fun t' h => by rw [hop] at h; cases h; exact h252)
end Go.Proofs.Ytebmalmciakhcaa.Node
