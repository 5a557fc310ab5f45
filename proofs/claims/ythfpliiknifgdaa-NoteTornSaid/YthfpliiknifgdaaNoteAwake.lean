/- gaugerref06.Read for every text; the law's awake; a record that came in. -/
import Derived.Test.YthfpliiknifgdaaNoteRefD
import Derived.Test.YthfpliiknifgdaaCod
namespace Go.Proofs.Ythfpliiknifgdaa.Note
open Go.RowKit Go.Proofs.Ythfpliiknifgdaa.Mem Go.Proofs.Ythfpliiknifgdaa.Bytes
set_option linter.unusedSimpArgs false
set_option linter.unusedVariables false

set_option maxHeartbeats 4000000 in
set_option maxRecDepth 8000 in
theorem refread_none (t : ByteArray) (w : World) (hT : t.size ≤ 100000) (h : t.size < 4 ∨ t.size < lev (t.data.toList.take 4) + 8) :
    Calls Try.prog 34 #[.string t] w fun e w' => RefOut (refOut t.data.toList) e w' ∧ Below w.heap.size w w' := by
  have hl : t.data.toList.length = t.size := rfl
  have hnn : refRead t.data.toList = none := by
    unfold refRead
    rw [hl]
    rcases h with h | h
    · rw [if_pos h]
    · split
      · rfl
      · first | rfl | rw [if_pos h]
  have hR : Row (w.alloc (.cells noCells.toArray 57)) w.heap.size 57 noCells := new_at rfl
  have hc : Below w.heap.size w (w.alloc (.cells noCells.toArray 57)) := (Below.refl _ _).alloc (Nat.le_refl _) _
  have hE : Cur ((w.alloc (.cells noCells.toArray 57)).alloc (.cells [.string t, .bool false].toArray 116)) (w.heap.size + 1) (t.data.toList, false) := new_at (by simp)
  replace hR := hR.alloc (.cells [.string t, .bool false].toArray 116)
  replace hc := hc.alloc (by simp) (.cells [.string t, .bool false].toArray 116)
  have hzl : ∀ v ∈ noCells, v.oneCell' = true := by simp [noCells, noRec, Rec.cells, Value.oneCell']
  have ZL := Lib.hid hzl
  have fin : ∀ (w' : World) (a : Act), Row w' w.heap.size 57 noCells → Below w.heap.size w w' → a.tmps.getD 2 undef = .pointer (some ⟨w.heap.size, 0, none⟩) → a.tmps.getD 3 undef = .int .i64 0 → a.tmps.getD 4 undef = .bool false → a.defers = [] →
      bodyPost Try.prog Try.f34 (fun e w' => RefOut (refOut t.data.toList) e w' ∧ Below w.heap.size w w') .ret a w' := fun w' a hr hbb h2 h3 h4 hd =>
    ret_row3 hr Try.results34 Try.underlying57 rfl (by kernel_rfl) h2 hd ⟨by rw [refOut_none hnn]; exact ⟨_, by rw [h3, h4]; rfl, noRec_has w'⟩, hbb⟩
  have FIN := Lib.hid fin
  have HL := Lib.hid hl
  clear hl hnn hzl fin
  by_cases h4 : t.size < 4
  · have q0 : eNum (t.data.toList, false) 4 = (0, (t.data.toList, true)) := by
      unfold eNum eTake
      rw [if_pos (by show t.data.toList.length < 4; rw [HL.out]; exact h4)]
      rfl
    have Q0 := Lib.hid q0
    clear q0 h
    go_enter Try.func34, Try.ntmps34
    go_wp2_with fail
    refine (cnum_of Q0.out 4 rfl _ hE (by omega) (by show t.data.toList.length ≤ _; rw [HL.out]; omega)).mono ?_
    rintro e w1 ⟨rfl, h1, hc1⟩
    replace hR := hR.chg hc1 (by show ¬ w.heap.size = w.heap.size + 1; omega)
    replace hc := below_one' hc hc1 hc.size (by omega)
    have x1 := h1.cell (i := 1) rfl
    clear h1 hc1 hE
    go_wp2_with (refine store_row hR noCells 57 (by kernel_rfl) rfl ZL.out rfl rfl rfl rfl ?_; intro wz hRz hcz hsz)
    exact FIN.out _ _ hRz (below_one' hc hcz hc.size (Nat.le_refl _)) rfl rfl rfl rfl
  · obtain ⟨n, hn⟩ : ∃ n, n = lev (t.data.toList.take 4) := ⟨_, rfl⟩
    have hN : t.size < n + 8 := by rw [hn]; omega
    have q0 : eNum (t.data.toList, false) 4 = (n, (t.data.toList.drop 4, false)) := by
      unfold eNum eTake
      rw [if_neg (by show ¬ t.data.toList.length < 4; rw [HL.out]; omega), hn]
    have hn4 := eNum_lt (t.data.toList, false) 4
    rw [q0] at hn4
    simp only at hn4
    have hdl : (bs (t.data.toList.drop 4)).size = t.size - 4 := by rw [bs_size, List.length_drop, HL.out]
    have n2 : ((bs (t.data.toList.drop 4)).size : Int) - 4 < (n : Int) := by rw [hdl]; omega
    have n5 : (bs (t.data.toList.drop 4)).size ≤ 100000 := by rw [hdl]; omega
    have Q0 := Lib.hid q0
    clear q0 h hn hdl
    go_enter Try.func34, Try.ntmps34
    go_wp2_with fail
    refine (cnum_of Q0.out 4 rfl _ hE (by omega) (by show t.data.toList.length ≤ _; rw [HL.out]; omega)).mono ?_
    rintro e w1 ⟨rfl, h1, hc1⟩
    replace hR := hR.chg hc1 (by show ¬ w.heap.size = w.heap.size + 1; omega)
    replace hc := below_one' hc hc1 hc.size (by omega)
    have x0 := h1.cell (i := 0) rfl
    have x1 := h1.cell (i := 1) rfl
    simp only at x0 x1
    clear h1 hc1 hE
    go_wp2_with (refine store_row hR noCells 57 (by kernel_rfl) rfl ZL.out rfl rfl rfl rfl ?_; intro wz hRz hcz hsz)
    exact FIN.out _ _ hRz (below_one' hc hcz hc.size (Nat.le_refl _)) rfl rfl rfl rfl

theorem refread_calls (t : ByteArray) (w : World) (hT : t.size ≤ 100000) :
    Calls Try.prog 34 #[.string t] w fun e w' => RefOut (refOut t.data.toList) e w' ∧ Below w.heap.size w w' := by
  by_cases h : t.size < 4 ∨ t.size < lev (t.data.toList.take 4) + 8
  · exact refread_none t w hT h
  · obtain ⟨h4, hN⟩ : 4 ≤ t.size ∧ lev (t.data.toList.take 4) + 8 ≤ t.size := by omega
    have hl : t.data.toList.length = t.size := rfl
    obtain ⟨s, hs⟩ : ∃ s : St, s = ((t.data.toList.take (lev (t.data.toList.take 4) + 4)).drop 4, false) := ⟨_, rfl⟩
    have hsl : s.1.length ≤ 100000 := by rw [hs]; show ((t.data.toList.take _).drop 4).length ≤ _; rw [List.length_drop, List.length_take]; omega
    obtain ⟨v1, s1, e1⟩ : ∃ v s', eNum s 1 = (v, s') := ⟨_, _, rfl⟩
    have r1 := eNum_rest s 1
    rw [e1] at r1
    obtain ⟨v2, s2, e2⟩ : ∃ v s', eNum s1 4 = (v, s') := ⟨_, _, rfl⟩
    have r2 := eNum_rest s1 4
    rw [e2] at r2
    obtain ⟨v3, s3, e3⟩ : ∃ v s', eNum s2 4 = (v, s') := ⟨_, _, rfl⟩
    have r3 := eNum_rest s2 4
    rw [e3] at r3
    obtain ⟨v4, s4, e4⟩ : ∃ v s', eNum s3 4 = (v, s') := ⟨_, _, rfl⟩
    have r4 := eNum_rest s3 4
    rw [e4] at r4
    obtain ⟨v5, s5, e5⟩ : ∃ v s', eNum s4 1 = (v, s') := ⟨_, _, rfl⟩
    have r5 := eNum_rest s4 1
    rw [e5] at r5
    obtain ⟨v6, s6, e6⟩ : ∃ v s', eNum s5 1 = (v, s') := ⟨_, _, rfl⟩
    have r6 := eNum_rest s5 1
    rw [e6] at r6
    obtain ⟨nk, s6k, e7⟩ : ∃ v s', eNum s6 1 = (v, s') := ⟨_, _, rfl⟩
    have r7 := eNum_rest s6 1
    have bk := eNum_lt s6 1
    rw [e7] at r7 bk
    obtain ⟨ky, s7, e7'⟩ : ∃ v s', eTake s6k nk = (v, s') := ⟨_, _, rfl⟩
    have r7' := eTake_rest s6k nk
    rw [e7'] at r7'
    obtain ⟨nv, s7v, e8⟩ : ∃ v s', eNum s7 1 = (v, s') := ⟨_, _, rfl⟩
    have r8 := eNum_rest s7 1
    have bv := eNum_lt s7 1
    rw [e8] at r8 bv
    obtain ⟨vl, s8, e8'⟩ : ∃ v s', eTake s7v nv = (v, s') := ⟨_, _, rfl⟩
    have r8' := eTake_rest s7v nv
    rw [e8'] at r8'
    obtain ⟨np, s9, e9⟩ : ∃ v s', eNum s8 1 = (v, s') := ⟨_, _, rfl⟩
    have r9 := eNum_rest s8 1
    have b9 := eNum_lt s8 1
    rw [e9] at r9 b9
    obtain ⟨ps, sp, e10⟩ : ∃ v s', loopP getImage np s9 = (v, s') := ⟨_, _, rfl⟩
    have r10 := (loopP_rest getImage getImage_rest np s9).1
    rw [e10] at r10
    obtain ⟨no, s10, e11⟩ : ∃ v s', eNum sp 1 = (v, s') := ⟨_, _, rfl⟩
    have r11 := eNum_rest sp 1
    have b11 := eNum_lt sp 1
    rw [e11] at r11 b11
    obtain ⟨os, so, e12⟩ : ∃ v s', loopP (getPair 4 4) no s10 = (v, s') := ⟨_, _, rfl⟩
    have r12 := (loopP_rest (getPair 4 4) (getPair_rest 4 4) no s10).1
    rw [e12] at r12
    obtain ⟨nd, s11, e13⟩ : ∃ v s', eNum so 2 = (v, s') := ⟨_, _, rfl⟩
    have r13 := eNum_rest so 2
    have b13 := eNum_lt so 2
    rw [e13] at r13 b13
    obtain ⟨ds, sd, e14⟩ : ∃ v s', loopP (getPair 2 4) nd s11 = (v, s') := ⟨_, _, rfl⟩
    have r14 := (loopP_rest (getPair 2 4) (getPair_rest 2 4) nd s11).1
    rw [e14] at r14
    have t7 : eText s6 = (ky, s7) := by unfold eText; rw [e7]; exact e7'
    have t8 : eText s7 = (vl, s8) := by unfold eText; rw [e8]; exact e8'
    have hp : parse s = (⟨v1, v2, v3, v4, v5, v6, bs ky, bs vl, ps, os, ds⟩, sd) := by simp only [parse, e1, e2, e3, e4, e5, e6, t7, t8, e9, e10, e11, e12, e13, e14]
    simp only at r1 r2 r3 r4 r5 r6 r7 r7' r8 r8' r9 r10 r11 r12 r13 r14 bk bv b9 b11 b13
    exact refread_aux t w (lev (t.data.toList.take 4)) h4 hN hT (Lib.hid rfl) s s1 s2 s3 s4 s5 s6 s6k s7 s7v s8 s9 sp s10 so s11 sd v1 v2 v3 v4 v5 v6 nk nv np no nd ky vl ps os ds hsl (Lib.hid hs)
      (Lib.hid e1) (Lib.hid e2) (Lib.hid e3) (Lib.hid e4) (Lib.hid e5) (Lib.hid e6) (Lib.hid e7) (Lib.hid e7') (Lib.hid e8) (Lib.hid e8') (Lib.hid e9) (Lib.hid e10) (Lib.hid e11) (Lib.hid e12) (Lib.hid e13) (Lib.hid e14)
      ⟨by omega, by omega, by omega, by omega, by omega, by omega, by omega, by omega, by omega, by omega, by omega, by omega, by omega, by omega, by omega, by omega, by omega, by omega, by omega, by omega⟩ (Lib.hid hp)

/-! ### note's calls by a record's value -/
theorem ngood_calls (v : Value) (r : Rec) (w : World) (h : HasRec w v r) : Calls Try.prog 30 #[v] w fun e w' => e = .returned (.bool r.good) ∧ Below w.heap.size w w' := by
  obtain ⟨a0, n0, c0, a1, n1, c1, a2, n2, c2, rfl, h0, h1, h2, z0, z1, z2⟩ := h
  exact good_calls r a0 n0 c0 a1 n1 c1 a2 n2 c2 w h0 h1 h2
theorem nsize_calls (v : Value) (r : Rec) (w : World) (h : HasRec w v r) (hs : Small r) : Calls Try.prog 32 #[v] w fun e w' => e = .returned (.int .i64 (r.size : Int)) ∧ Below w.heap.size w w' := by
  obtain ⟨a0, n0, c0, a1, n1, c1, a2, n2, c2, rfl, h0, h1, h2, z0, z1, z2⟩ := h
  obtain ⟨s0, s1, s2, s3, s4⟩ := hs
  have e0 := h0.1
  have e1 := h1.1
  have e2 := h2.1
  exact size_calls r a0 n0 c0 a1 n1 c1 a2 n2 c2 w h0 h1 h2 (by omega) (by omega) (by omega) (by omega) (by omega)
def bytesOut (r : Rec) : List UInt8 × Int := if r.good then (r.bytes, 0) else ([], 1)
theorem nbytes_calls (v : Value) (r : Rec) (w : World) (h : HasRec w v r) : Calls Try.prog 29 #[v] w fun e w' => e = .returned (.tuple #[.string (bs (bytesOut r).1), .int .i64 (bytesOut r).2]) ∧ Below w.heap.size w w' := by
  obtain ⟨a0, n0, c0, a1, n1, c1, a2, n2, c2, rfl, h0, h1, h2, z0, z1, z2⟩ := h
  cases hg : r.good
  · have e : bytesOut r = ([], 1) := by simp [bytesOut, hg]
    rw [e]
    exact bytes_bad r hg a0 n0 c0 a1 n1 c1 a2 n2 c2 w h0 h1 h2
  · have e : bytesOut r = (r.bytes, 0) := by simp [bytesOut, hg]
    rw [e]
    exact bytes_good r hg a0 n0 c0 a1 n1 c1 a2 n2 c2 w h0 h1 h2

/-! ### awake -/
theorem cells_one (r : Rec) (a0 : Option Addr) (n0 c0 : Nat) (a1 : Option Addr) (n1 c1 : Nat) (a2 : Option Addr) (n2 c2 : Nat) : ∀ v ∈ r.cells (.slice a0 n0 c0) (.slice a1 n1 c1) (.slice a2 n2 c2), v.oneCell' = true := by simp [Rec.cells, Value.oneCell']
def rec5 : Rec := ⟨3, 5, 0, 0, 0, 0, ⟨#[]⟩, ⟨#[]⟩, [], [], []⟩
theorem rec5_good : rec5.good = true := by decide
theorem rec5_size : rec5.bytes.length = 29 := by
  rw [(good_bytes rec5_good).1]
  simp [Rec.size, rec5_good]
  rfl
theorem rec5_head : rec5.bytes.take 9 = [21, 0, 0, 0, 3, 5, 0, 0, 0] := by
  have hb : rec5.body.length = 21 := by have := bytes_length rec5; have := rec5_size; omega
  unfold Rec.bytes Crc.sealed
  rw [hb, List.take_append_of_le_length (by rw [List.length_append, le_length]; omega)]
  decide
theorem rec5_has (w : World) : HasRec w (.agg (rec5.cells (.slice none 0 0) (.slice none 0 0) (.slice none 0 0)).toArray) rec5 :=
  ⟨none, 0, 0, none, 0, 0, none, 0, 0, rfl, ⟨rfl, by omega, fun i x hx => by simp [rec5] at hx⟩, ⟨rfl, by omega, fun i x hx => by simp [rec5] at hx⟩, ⟨rfl, by omega, fun i x hx => by simp [rec5] at hx⟩, Nat.le_refl _, Nat.le_refl _, Nat.le_refl _⟩
theorem nOut_app (r : Rec) (hg : r.good = true) (t : List UInt8) : nOut (r.bytes ++ t) = (r, r.bytes.length, 0) := nOut_some ((nRead_iff _ _ _).2 ⟨hg, rfl, t, rfl⟩)
theorem nOut_nil : nOut [] = (noRec, 0, 3) := rfl

set_option maxHeartbeats 4000000 in
set_option maxRecDepth 8000 in
theorem awake_calls (w : World) : Calls Try.prog 26 #[] w fun e w' => e = .returned (.bool true) ∧ Below w.heap.size w w' := by
  have hbo : bytesOut rec5 = (rec5.bytes, 0) := by simp [bytesOut, rec5_good]
  have h29 : (bs rec5.bytes).size = 29 := rec5_size
  have hx : (bs rec5.bytes).extract 0 9 = ⟨#[21, 0, 0, 0, 3, 5, 0, 0, 0]⟩ := by rw [extract_take, bs_data, rec5_head]; rfl
  have hn : nOut (bs rec5.bytes ++ ⟨#[120]⟩).data.toList = (rec5, 29, 0) := by
    rw [app_bs, bs_data, nOut_app rec5 rec5_good, rec5_size]
  have hsz : (bs rec5.bytes ++ ⟨#[120]⟩).size ≤ 100000 := by rw [app_bs, bs_size, List.length_append, rec5_size]; decide
  have hby := nbytes_calls _ rec5 w (rec5_has w)
  rw [hbo] at hby
  have HN := Lib.hid hn
  clear hn hbo
  go_enter Try.func26, Try.ntmps26
  go_wp2_with fail
  refine hby.mono ?_
  rintro e w1 ⟨rfl, hb1⟩
  clear hby
  go_wp2_with fail
  refine (read_calls _ _ hsz).mono ?_
  rintro e w2 ⟨hro, hb2⟩
  rw [HN.out] at hro
  obtain ⟨v, rfl, a0, n0, c0, a1, n1, c1, a2, n2, c2, rfl, p0, p1, p2, z0, z1, z2⟩ := hro
  have hc2 := hb1.trans (hb2.mono hb1.size)
  have hZ : Row (w2.alloc (.cells noCells.toArray 57)) w2.heap.size 57 noCells := new_at rfl
  have hc2' := hc2.alloc hc2.size (.cells noCells.toArray 57)
  clear hb1 hb2 p0 p1 p2
  go_wp2_with (refine store_row hZ (rec5.cells (.slice a0 n0 c0) (.slice a1 n1 c1) (.slice a2 n2 c2)) 57 (by kernel_rfl) rfl (cells_one _ _ _ _ _ _ _ _ _ _) rfl rfl rfl rfl ?_; intro w3 hR3 hc3 hs3)
  refine (read_calls _ _ (by decide)).mono ?_
  rintro e w4 ⟨hro, hb4⟩
  rw [show nOut (ByteArray.mk #[]).data.toList = (noRec, 0, 3) from nOut_nil] at hro
  obtain ⟨v, rfl, b0, m0, d0, b1, m1, d1, b2, m2, d2, rfl, p0, p1, p2, z0, z1, z2⟩ := hro
  have hc4 := below_one' hc2' hc3 hc2'.size hc2.size
  have hc5 := hc4.trans (hb4.mono hc4.size)
  have hZ2 : Row (w4.alloc (.cells noCells.toArray 57)) w4.heap.size 57 noCells := new_at rfl
  have hc5' := hc5.alloc hc5.size (.cells noCells.toArray 57)
  clear hb4 p0 p1 p2 hc3 hR3 hZ
  go_wp2_with (refine store_row hZ2 (noRec.cells (.slice b0 m0 d0) (.slice b1 m1 d1) (.slice b2 m2 d2)) 57 (by kernel_rfl) rfl (cells_one _ _ _ _ _ _ _ _ _ _) rfl rfl rfl rfl ?_; intro w6 hR6 hc6 hs6)
  go_ret
  exact ⟨rfl, below_one' hc5' hc6 hc5'.size hc5.size⟩

/-! ### a record that came in -/
abbrev cImg : Cod (Int × ByteArray × Unit) := .pair (.int .i64) (.pair .str .unit)
abbrev cTwo : Cod (Int × Int × Unit) := .pair (.int .i64) (.pair (.int .i64) .unit)
abbrev cUndo : Cod (Int × Int × ByteArray × ByteArray × Unit) := .pair (.int .i64) (.pair (.int .i64) (.pair .str (.pair .str .unit)))
abbrev cRec := Cod.pair (.int .i64) (.pair (.int .i64) (.pair (.int .i64) (.pair (.int .i64) (.pair cImg.slice (.pair cUndo (.pair cTwo.slice (.pair cTwo.slice .unit)))))))
abbrev YRec : Type := Int × Int × Int × Int × List (Int × ByteArray × Unit) × (Int × Int × ByteArray × ByteArray × Unit) × List (Int × Int × Unit) × List (Int × Int × Unit) × Unit
def toRec (y : YRec) : Rec := ⟨y.1, y.2.1, y.2.2.1, y.2.2.2.1, y.2.2.2.2.2.1.1, y.2.2.2.2.2.1.2.1, y.2.2.2.2.2.1.2.2.1, y.2.2.2.2.2.1.2.2.2.1, y.2.2.2.2.1.map (fun x => (x.1, x.2.1)), y.2.2.2.2.2.2.1.map (fun x => (x.1, x.2.1)), y.2.2.2.2.2.2.2.1.map (fun x => (x.1, x.2.1))⟩
theorem add_two (ad : Addr) (k : Nat) (hs : (ad.add k).spot = none ∨ k ≠ 0 ∨ True) : ad.add (k + 1) = ⟨(ad.add k).block, (ad.add k).off + 1, none⟩ := by
  unfold Addr.add
  split <;> split <;> simp_all <;> omega
theorem two_pairs {Y : Type} {g : Y → Value} {c : Cod (Int × Y × Unit)} (hsz : c.sz = 2) (hR : ∀ w cs x, c.R w cs x → cs = [.int .i64 x.1, g x.2.1]) {w : World} {a : Option Addr} {n : Nat} {xs : List (Int × Y × Unit)} (h : c.Row w a n xs) (hn : n ≤ 9223372036854775807) : Pairs g w a n (xs.map fun x => (x.1, x.2.1)) := by
  refine ⟨by rw [List.length_map]; exact h.1, hn, fun i x hx => ?_⟩
  have hi : i < xs.length := by
    rcases Nat.lt_or_ge i xs.length with h' | h'
    · exact h'
    · rw [List.getElem?_eq_none (by simpa using h')] at hx; cases hx
  rw [List.getElem?_map, List.getElem?_eq_getElem hi] at hx
  cases hx
  obtain ⟨ad, cs, ha, _, hc, hr⟩ := h.2 i hi
  rw [hsz] at hc
  rw [hR _ _ _ hr] at hc
  refine ⟨ad, ha, by simpa using hc 0 (by omega), ?_⟩
  have h1 := hc 1 (by omega)
  rw [add_two ad (i * 2) (.inr (.inr trivial))] at h1
  simpa using h1
theorem rec_in {w : World} {cs : List Value} {y : YRec} (h : cRec.R w cs y) : HasRec w (.agg cs.toArray) (toRec y) := by
  obtain ⟨k, d, p, n, ps, ⟨uk, ut, ky, vl, _⟩, os, ds, _⟩ := y
  obtain ⟨_, _, rfl, ⟨rfl, _⟩, _, _, rfl, ⟨rfl, _⟩, _, _, rfl, ⟨rfl, _⟩, _, _, rfl, ⟨rfl, _⟩, _, _, rfl, ⟨a0, n0, c0, rfl, h1, h2, h3, h4⟩, _, _, rfl, ⟨_, _, rfl, ⟨rfl, _⟩, _, _, rfl, ⟨rfl, _⟩, _, _, rfl, ⟨rfl, _⟩, _, _, rfl, ⟨rfl, _⟩, rfl⟩, _, _, rfl, ⟨a1, n1, c1, rfl, g1, g2, g3, g4⟩, _, _, rfl, ⟨a2, n2, c2, rfl, k1, k2, k3, k4⟩, rfl⟩ := h
  unfold maxLen at h2 g2 k2
  refine ⟨a0, n0, c0, a1, n1, c1, a2, n2, c2, rfl, ?_, ?_, ?_, h1, g1, k1⟩
  · exact two_pairs rfl (fun w cs x hx => by obtain ⟨_, _, rfl, ⟨rfl, _⟩, _, _, rfl, ⟨rfl, _⟩, rfl⟩ := hx; rfl) h4 (by omega)
  · exact two_pairs rfl (fun w cs x hx => by obtain ⟨_, _, rfl, ⟨rfl, _⟩, _, _, rfl, ⟨rfl, _⟩, rfl⟩ := hx; rfl) g4 (by omega)
  · exact two_pairs rfl (fun w cs x hx => by obtain ⟨_, _, rfl, ⟨rfl, _⟩, _, _, rfl, ⟨rfl, _⟩, rfl⟩ := hx; rfl) k4 (by omega)
end Go.Proofs.Ythfpliiknifgdaa.Note
