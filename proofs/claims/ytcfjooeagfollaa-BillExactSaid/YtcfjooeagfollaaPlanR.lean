/- plan.Nothing, IsNothing, ReadTotal; gaugerref17.Same. -/
import Derived.Test.YtcfjooeagfollaaPlanA
namespace Go.Proofs.Ytcfjooeagfollaa.Plan
open Go.RowKit Go.Proofs.Ytcfjooeagfollaa.Mem Go.Proofs.Ytcfjooeagfollaa.Bytes Go.Proofs.Ytcfjooeagfollaa.Num Go.Proofs.Ytcfjooeagfollaa.Wide
set_option linter.unusedSimpArgs false
set_option linter.unusedVariables false
set_option maxRecDepth 20000

def cnt (n : Int) : Nat := (min (max n 0) 2).toNat
def nothing (n : Int) : Tot := ⟨noW, List.replicate (cnt n) noW⟩
theorem nothing_fits (n : Int) : (nothing n).fits := ⟨noW_fits, fun s hs => by rw [(List.mem_replicate.1 hs).2]; exact noW_fits⟩
theorem run_max2 (P : Program) (t : TypeId) (a b : Int) (W : World) : (Builtin.max_ #[t, t] t #[.int .i64 a, .int .i64 b]).run P W = .ok (.int .i64 (max a b)) W := by
  rw [max_of_two, max2_ints]
  have e : (if a < b then b else a) = max a b := by split <;> omega
  rw [e]
  simp
theorem run_min2i (P : Program) (t : TypeId) (a b : Int) (W : World) : (Builtin.min_ #[t, t] t #[.int .i64 a, .int .i64 b]).run P W = .ok (.int .i64 (min a b)) W := by
  rw [min_of_two, min2_ints]
  have e : (if b < a then b else a) = min a b := by split <;> omega
  rw [e]
  simp

set_option maxHeartbeats 1000000 in
theorem nothing_calls (n : Int) (w : World) : Calls Try.prog 22 #[.int .i64 n] w fun e w' => TotPost (nothing n) e w' ∧ Below w.heap.size w w' := by
  have hmax := run_max2 Try.prog 3 n 0
  have hmin := run_min2i Try.prog 3 (max n 0) 2
  have hmk : ∀ w, (Instr.makeSlice 25 (.int .i64 (cnt n : Int)) (.int .i64 (cnt n : Int))).run Try.prog w = .ok (.slice (some ⟨w.heap.size, 0, none⟩) (cnt n) (cnt n)) (w.alloc (.cells ((List.replicate (cnt n) noW).flatMap Wd.cells).toArray 24)) := by
    have h3 : cnt n = 0 ∨ cnt n = 1 ∨ cnt n = 2 := by unfold cnt; omega
    rcases h3 with h | h | h <;> rw [h] <;> intro w <;> kernel_rfl
  have hc : min (max n 0) 2 = (cnt n : Int) := by unfold cnt; omega
  have hc2 : cnt n ≤ 2 := by unfold cnt; omega
  rw [hc] at hmin
  have hfit := Lib.hid (nothing_fits n)
  have hno : nothing n = ⟨noW, List.replicate (cnt n) noW⟩ := rfl
  rw [hno] at hfit ⊢
  clear hc hno
  generalize cnt n = m at *
  generalize max n 0 = q at *
  generalize hxs : (List.replicate m noW).flatMap Wd.cells = xs at *
  have R1 : Row (w.alloc (.cells #[.int .i64 0, .int .u64 0, .slice (some ⟨w.heap.size + 1, 0, none⟩) m m] 27)) w.heap.size 27 [.int .i64 0, .int .u64 0, .slice (some ⟨w.heap.size + 1, 0, none⟩) m m] := new_at rfl
  have b1 : Below w.heap.size w (w.alloc (.cells #[.int .i64 0, .int .u64 0, .slice (some ⟨w.heap.size + 1, 0, none⟩) m m] 27)) := (Below.refl _ _).alloc (Nat.le_refl _) _
  have hs1 : (w.alloc (.cells #[.int .i64 0, .int .u64 0, .slice (some ⟨w.heap.size + 1, 0, none⟩) m m] 27)).heap.size = w.heap.size + 1 := by simp
  have W2 : Row ((w.alloc (.cells #[.int .i64 0, .int .u64 0, .slice (some ⟨w.heap.size + 1, 0, none⟩) m m] 27)).alloc (.cells xs.toArray 24)) (w.heap.size + 1) 24 xs := new_at hs1.symm
  have HW := Lib.hid W2
  have HR := Lib.hid (R1.alloc (.cells xs.toArray 24))
  have HB := Lib.hid (b1.alloc b1.size (.cells xs.toArray 24))
  have HX := Lib.hid hxs
  clear W2 R1 b1 hs1 hxs
  go_enter Try.func22, Try.ntmps22
  go_wp2_with fail
  refine ret_row HR.out Try.results22 Try.underlying27 rfl (by kernel_rfl) rfl rfl ⟨⟨_, rfl, ⟨some ⟨w.heap.size + 1, 0, none⟩, m, ?_, ?_⟩, hfit.out, ?_⟩, HB.out⟩
  · show Value.agg #[_, _, .slice _ m m] = Value.agg #[_, _, .slice _ (List.replicate m noW).length m]
    rw [List.length_replicate]
    rfl
  · exact els_row (pre := []) (post := []) wcells_len (by rw [List.nil_append, List.append_nil, HX.out]; exact HW.out) (by simp)
  · show (List.replicate m noW).length ≤ _
    rw [List.length_replicate]
    omega

set_option maxHeartbeats 1000000 in
theorem isNothing_calls (t : Tot) (v : Value) (w : World) (h : HasT w v t) : Calls Try.prog 19 #[v] w fun e w' => e = .returned (.bool t.isNo) ∧ Below w.heap.size w w' := by
  obtain ⟨⟨a, cap, rfl, hE⟩, _, hl⟩ := h
  obtain ⟨⟨hi, lo⟩, l⟩ := t
  simp only at hE hl
  have hX : Row (w.alloc (.cells #[.int .i64 hi, .int .u64 lo, .slice a l.length cap] 27)) w.heap.size 27 [.int .i64 hi, .int .u64 lo, .slice a l.length cap] := new_at rfl
  have hb : Below w.heap.size w (w.alloc (.cells #[.int .i64 hi, .int .u64 lo, .slice a l.length cap] 27)) := (Below.refl _ _).alloc (Nat.le_refl _) _
  show Calls Try.prog 19 #[.agg #[.int .i64 hi, .int .u64 lo, .slice a l.length cap]] w _
  have SC := Lib.hid (fun w => some_calls ⟨hi, lo⟩ w)
  have hno : Tot.isNo ⟨⟨hi, lo⟩, l⟩ = (!someW ⟨hi, lo⟩ && !l.any someW) := by unfold Tot.isNo someW; simp
  rw [hno]
  generalize someW ⟨hi, lo⟩ = B at *
  replace SC : RowKit.Hid (∀ w, Calls Try.prog 77 #[.agg #[.int .i64 hi, .int .u64 lo]] w fun e w' => e = .returned (.bool B) ∧ Below w.heap.size w w') := SC
  have x0 := hX.cell (i := 0) rfl
  have x1 := hX.cell (i := 1) rfl
  have X := Lib.hid hX
  have HB := Lib.hid hb
  have HE := Lib.hid hE
  clear hX hb hE hno
  go_enter Try.func19, Try.ntmps19
  go_wp2_with fail
  clear x0 x1
  refine (SC.out _).mono ?_
  rintro e w1 ⟨rfl, k1⟩
  have X1 := Lib.hid (X.out.below k1 X.out.lt)
  have B1 := Lib.hid (HB.out.trans (k1.mono HB.out.size))
  clear k1
  have x2 := X1.out.cell (i := 2) rfl
  cases B
  · go_wp2_with fail
    have E1 := Lib.hid (wideContains_calls a l.length cap l w1 (HE.out.keep B1.out) rfl hl)
    obtain ⟨C, hC⟩ : ∃ C, l.any someW = C := ⟨_, rfl⟩
    rw [hC] at E1
    have HC := Lib.hid hC
    clear hC
    refine E1.out.mono ?_
    rintro e w2 ⟨rfl, k2⟩
    have B2 := Lib.hid (B1.out.trans (k2.mono B1.out.size))
    clear k2
    go_wp2_with fail
    go_ret
    exact ⟨by rw [HC.out]; rfl, B2.out⟩
  · go_wp2_with fail
    go_ret
    exact ⟨rfl, B1.out⟩

set_option maxHeartbeats 1000000 in
theorem same_calls (t : Tot) (v u : Value) (w : World) (h : HasT w v t) (g : HasT w u t) : Calls Try.prog 16 #[v, u] w fun e w' => e = .returned (.bool true) ∧ Below w.heap.size w w' := by
  obtain ⟨⟨a, cap, rfl, hE⟩, _, hl⟩ := h
  obtain ⟨⟨b, cap2, rfl, gE⟩, _, _⟩ := g
  obtain ⟨⟨hi, lo⟩, l⟩ := t
  simp only at hE gE hl
  have hX : Row (w.alloc (.cells #[.int .i64 hi, .int .u64 lo, .slice a l.length cap] 27)) w.heap.size 27 [.int .i64 hi, .int .u64 lo, .slice a l.length cap] := new_at rfl
  have X0 := hX.alloc (.cells #[.int .i64 hi, .int .u64 lo, .slice b l.length cap2] 27)
  have Y0 : Row ((w.alloc (.cells #[.int .i64 hi, .int .u64 lo, .slice a l.length cap] 27)).alloc (.cells #[.int .i64 hi, .int .u64 lo, .slice b l.length cap2] 27)) (w.heap.size + 1) 27 [.int .i64 hi, .int .u64 lo, .slice b l.length cap2] := new_at (by simp)
  have b0 : Below w.heap.size w ((w.alloc (.cells #[.int .i64 hi, .int .u64 lo, .slice a l.length cap] 27)).alloc (.cells #[.int .i64 hi, .int .u64 lo, .slice b l.length cap2] 27)) := ((Below.refl _ _).alloc (Nat.le_refl _) _).alloc (by simp) _
  show Calls Try.prog 16 #[.agg #[.int .i64 hi, .int .u64 lo, .slice a l.length cap], .agg #[.int .i64 hi, .int .u64 lo, .slice b l.length cap2]] w _
  have x0 := X0.cell (i := 0) rfl
  have x1 := X0.cell (i := 1) rfl
  have x2 := X0.cell (i := 2) rfl
  have y0 := Y0.cell (i := 0) rfl
  have y1 := Y0.cell (i := 1) rfl
  have y2 := Y0.cell (i := 2) rfl
  have HX := Lib.hid X0
  have HY := Lib.hid Y0
  have HB := Lib.hid b0
  have HE := Lib.hid hE
  have GE := Lib.hid gE
  clear hX X0 Y0 b0 hE gE
  go_enter Try.func16, Try.ntmps16
  go_wp2_with fail
  generalize ((w.alloc (.cells #[.int .i64 hi, .int .u64 lo, .slice a l.length cap] 27)).alloc (.cells #[.int .i64 hi, .int .u64 lo, .slice b l.length cap2] 27)) = w1 at *
  go_loopw [5] (fun i wr => ∃ k : Nat, k ≤ l.length ∧ i = .int .i64 k ∧ Row wr w.heap.size 27 [.int .i64 hi, .int .u64 lo, .slice a l.length cap] ∧ Row wr (w.heap.size + 1) 27 [.int .i64 hi, .int .u64 lo, .slice b l.length cap2] ∧ Below w.heap.size w wr) (fun i _ => l.length - (intOf i).toNat)
  case atStart => exact ⟨0, by omega, rfl, HX.out, HY.out, HB.out⟩
  case round =>
    clear x0 x1 x2 y0 y1 y2 HX HY HB
    obtain ⟨k, hk, rfl, X, Y, B⟩ := hrel
    have x2 := X.cell (i := 2) rfl
    have y2 := Y.cell (i := 2) rfl
    have hX := Lib.hid X
    have hY := Lib.hid Y
    have hB := Lib.hid B
    clear X Y B
    by_cases hlt : k < l.length
    · have hlt' : (k : Int) < (l.length : Int) := by omega
      obtain ⟨ad, rfl, hlb, za⟩ := HE.out.all hlt
      obtain ⟨bd, rfl, hlb2, ya⟩ := GE.out.all hlt
      generalize l[k] = x at *
      obtain ⟨xh, xl⟩ := x
      have z0 := (za _ hB.out).1 _ rfl
      have z1 := (za _ hB.out).2 0 _ rfl
      have u0 := (ya _ hB.out).1 _ rfl
      have u1 := (ya _ hB.out).2 0 _ rfl
      clear za ya
      go_wp2_with fail
      go_quiet (fail)
      go_wp2_with fail
      exact ⟨⟨k + 1, by omega, by go_num, by first | exact hX.out.drew | exact hX.out.drewN _, by first | exact hY.out.drew | exact hY.out.drewN _, by first | exact hB.out.drew | exact below_drewN hB.out _⟩, by simp [intOf]; omega⟩
    · obtain rfl : k = l.length := by omega
      go_wp2_with fail
      go_ret
      exact ⟨rfl, hB.out⟩

/-- The numbers of bytes. -/
def readW : Nat → List UInt8 → List Wd
  | 0, _ => []
  | n + 1, l => unW (l.take 16) :: readW n (l.drop 16)
theorem readW_length : ∀ (n : Nat) (l : List UInt8), (readW n l).length = n
  | 0, _ => rfl
  | n + 1, l => by rw [readW, List.length_cons, readW_length n]
theorem readW_is : ∀ (n : Nat) (l : List UInt8), l.length = 16 * n → codesW (readW n l) = l ∧ ∀ s ∈ readW n l, s.fits
  | 0, l, h => by
    obtain rfl := List.eq_nil_of_length_eq_zero h
    exact ⟨rfl, fun s hs => by cases hs⟩
  | n + 1, l, h => by
    obtain ⟨h1, h2⟩ := code_unW (l := l.take 16) (by rw [List.length_take]; omega)
    obtain ⟨i1, i2⟩ := readW_is n (l.drop 16) (by rw [List.length_drop]; omega)
    constructor
    · unfold codesW at i1 ⊢
      rw [readW, List.flatMap_cons, h1, i1, List.take_append_drop]
    · intro s hs
      rcases List.mem_cons.1 hs with rfl | hs
      · exact h2
      · exact i2 s hs
theorem readW_codes : ∀ (l : List Wd), (∀ s ∈ l, s.fits) → readW l.length (codesW l) = l
  | [], _ => rfl
  | a :: l, h => by
    have e : codesW (a :: l) = a.code ++ codesW l := by simp [codesW]
    have ha := a.code_length
    rw [List.length_cons, readW, e, List.take_append_of_le_length (by omega), List.take_of_length_le (by omega), List.drop_append_of_le_length (by omega), List.drop_of_length_le (by omega), List.nil_append, unW_code (h a (by simp)), readW_codes l (fun s hs => h s (by simp [hs]))]
theorem readW_next {m k : Nat} {L : List UInt8} {ws : List Wd} (hlt : k < m) (hI : readW m L = ws ++ readW (m - k) (L.drop (16 * k))) :
    readW m L = (ws ++ [unW ((L.drop (16 * k)).take 16)]) ++ readW (m - (k + 1)) (L.drop (16 * (k + 1))) := by
  rw [hI, show m - k = (m - (k + 1)) + 1 by omega, readW, List.drop_drop, show 16 * k + 16 = 16 * (k + 1) by omega, List.append_assoc]
  rfl
def totOf (l : List Wd) : Tot := match l with
  | [] => noT
  | c :: r => ⟨c, r⟩
def rtOk (s : ByteArray) (n : Int) : Prop := 0 ≤ n ∧ n ≤ 2 ∧ (s.size : Int) = 16 * (n + 1)
instance (s : ByteArray) (n : Int) : Decidable (rtOk s n) := by unfold rtOk; exact inferInstance
def rtOut (s : ByteArray) (n : Int) : Tot × Int := if rtOk s n then (totOf (readW (n + 1).toNat s.data.toList), 0) else (noT, 3)
def RtPost (o : Tot × Int) (e : Ending) (w : World) : Prop := ∃ v, e = .returned (.tuple #[v, .int .i64 o.2]) ∧ HasT w v o.1

set_option maxHeartbeats 1000000 in
theorem rt_no (s : ByteArray) (n : Int) (h : ¬ rtOk s n) (h1 : -9223372036854775808 ≤ n) (h2 : n ≤ 9223372036854775807) (w : World) : Calls Try.prog 21 #[.string s, .int .i64 n] w fun e w' => RtPost (noT, 3) e w' ∧ Below w.heap.size w w' := by
  have hX : Row (w.alloc (.cells #[.int .i64 0, .int .u64 0, .slice none 0 0] 27)) w.heap.size 27 [.int .i64 0, .int .u64 0, .slice none 0 0] := new_at rfl
  have hb : Below w.heap.size w (w.alloc (.cells #[.int .i64 0, .int .u64 0, .slice none 0 0] 27)) := (Below.refl _ _).alloc (Nat.le_refl _) _
  have X := Lib.hid hX
  have B := Lib.hid hb
  clear hX hb
  by_cases c1 : n < 0
  · go_enter Try.func21, Try.ntmps21
    go_wp2_with fail
    exact ret_row2 X.out Try.results21 Try.underlying27 rfl (by kernel_rfl) rfl rfl ⟨⟨_, rfl, ⟨none, 0, rfl, Els.nil _ _ _ _⟩, ⟨noW_fits, fun s hs => by cases hs⟩, Nat.zero_le _⟩, B.out⟩
  · by_cases c2 : n > 2
    · go_enter Try.func21, Try.ntmps21
      go_wp2_with fail
      exact ret_row2 X.out Try.results21 Try.underlying27 rfl (by kernel_rfl) rfl rfl ⟨⟨_, rfl, ⟨none, 0, rfl, Els.nil _ _ _ _⟩, ⟨noW_fits, fun s hs => by cases hs⟩, Nat.zero_le _⟩, B.out⟩
    · have c3 : ((s.size : Int) != 16 * (n + 1)) = true := by
        simp
        intro hq
        exact h ⟨by omega, by omega, hq⟩
      clear h
      go_enter Try.func21, Try.ntmps21
      go_wp2_with fail
      exact ret_row2 X.out Try.results21 Try.underlying27 rfl (by kernel_rfl) rfl rfl ⟨⟨_, rfl, ⟨none, 0, rfl, Els.nil _ _ _ _⟩, ⟨noW_fits, fun s hs => by cases hs⟩, Nat.zero_le _⟩, B.out⟩

def szOf (v : Value) : Nat := match v with
  | .string s => s.size
  | _ => 0
set_option maxHeartbeats 2000000 in
theorem rt_yes (L : List UInt8) (j : Nat) (hj : j ≤ 2) (hL : L.length = 16 * (j + 1)) (w : World) : Calls Try.prog 21 #[.string (bs L), .int .i64 (j : Int)] w fun e w' => RtPost (totOf (readW (j + 1) L), 0) e w' ∧ Below w.heap.size w w' := by
  have hX : Row (w.alloc (.cells #[.int .i64 0, .int .u64 0, .slice none 0 0] 27)) w.heap.size 27 [.int .i64 0, .int .u64 0, .slice none 0 0] := new_at rfl
  have hb : Below w.heap.size w (w.alloc (.cells #[.int .i64 0, .int .u64 0, .slice none 0 0] 27)) := (Below.refl _ _).alloc (Nat.le_refl _) _
  have X := Lib.hid hX
  have B := Lib.hid hb
  have SZ := Lib.hid (show (w.alloc (.cells #[.int .i64 0, .int .u64 0, .slice none 0 0] 27)).heap.size = w.heap.size + 1 by simp)
  clear hX hb
  have hs : (bs L).size = 16 * (j + 1) := hL
  have c1 : ¬ (j : Int) < 0 := by omega
  have c2 : ¬ (2 : Int) < (j : Int) := by omega
  have c3 : (((bs L).size : Int) != 16 * ((j : Int) + 1)) = false := by rw [hs]; simp
  obtain ⟨S, hS⟩ : ∃ S, bs L = S := ⟨_, rfl⟩
  rw [hS] at hs c3 ⊢
  have HS := Lib.hid hS
  have HL := Lib.hid hL
  have HIS := Lib.hid (readW_is (j + 1) L hL)
  clear hS hL hs
  go_enter Try.func21, Try.ntmps21
  go_wp2_with fail
  generalize (w.alloc (.cells #[.int .i64 0, .int .u64 0, .slice none 0 0] 27)) = w1 at *
  go_loopw [0, 6] (fun sv out wr => ∃ k ws, k ≤ j + 1 ∧ ws.length = k ∧ sv = .string (bs (L.drop (16 * k))) ∧ wr.ownsRow (w.heap.size + 1) 24 2 out k (ws.flatMap Wd.cells) ∧ readW (j + 1) L = ws ++ readW (j + 1 - k) (L.drop (16 * k)) ∧ Row wr w.heap.size 27 [.int .i64 0, .int .u64 0, .slice none 0 0] ∧ Below w.heap.size w wr ∧ w.heap.size + 1 ≤ wr.heap.size) (fun sv _ _ => szOf sv)
  case atStart => exact ⟨0, [], by omega, rfl, by rw [← HS.out]; simp, World.ownsRow_nil _ _ _ _, by simp, X.out, B.out, Nat.le_of_eq SZ.out.symm⟩
  case round =>
    clear X B SZ c1 c2 c3
    obtain ⟨k, ws, hk, hwl, rfl, ho, hI, hX, hB, hsz⟩ := hrel
    have O := Lib.hid ho
    have X := Lib.hid hX
    have B := Lib.hid hB
    have I := Lib.hid hI
    clear ho hX hB hI
    by_cases hlt : k < j + 1
    · have hdl : (L.drop (16 * k)).length = 16 * (j + 1 - k) := by have := HL.out; rw [List.length_drop]; omega
      have NX := Lib.hid (readW_next hlt I.out)
      have hdd : (L.drop (16 * k)).drop 16 = L.drop (16 * (k + 1)) := by rw [List.drop_drop]; congr 1
      generalize L.drop (16 * k) = D at *
      have hsz2 : (bs D).size = 16 * (j + 1 - k) := by rw [bs_size, hdl]
      have hemp : (bs D).toList.isEmpty = false := by
        rw [bs_toList, List.isEmpty_eq_false_iff]
        intro h
        rw [h] at hdl
        simp at hdl
        omega
      have hb16 : (16 : Int) ≤ ((bs D).size : Int) := by omega
      have x16 : (bs D).extract 0 16 = bs (D.take 16) := by rw [extract_take, bs_data]
      have xd : (bs D).extract 16 (16 * (j + 1 - k)) = bs (D.drop 16) := by rw [← hsz2, extract_drop, bs_data]
      have RC := Lib.hid (fun w => read_yes (D.take 16) (by rw [List.length_take]; omega) w)
      have DD := Lib.hid hdd
      have DL := Lib.hid hdl
      clear hdd hdl I
      generalize unW (D.take 16) = x at *
      obtain ⟨xh, xl⟩ := x
      replace RC : RowKit.Hid (∀ w, Calls Try.prog 79 #[.string (bs (D.take 16))] w fun e w' => e = .returned (.tuple #[.agg #[.int .i64 xh, .int .u64 xl], .int .i64 0]) ∧ Below w.heap.size w w') := RC
      go_wp2_with fail
      refine (RC.out _).mono ?_
      rintro e w2 ⟨rfl, k2⟩
      have hY : Row (w2.alloc (.cells #[.int .i64 xh, .int .u64 xl] 24)) w2.heap.size 24 [.int .i64 xh, .int .u64 xl] := new_at rfl
      have y0 := hY.cell (i := 0) rfl
      have y1 := hY.cell (i := 1) rfl
      have O2 := Lib.hid ((Reel.own_chg O.out (chg_none k2) (fun _ _ x => x)).alloc (.cells #[.int .i64 xh, .int .u64 xl] 24))
      have X2 := Lib.hid ((X.out.below k2 X.out.lt).alloc (.cells #[.int .i64 xh, .int .u64 xl] 24))
      have B2 := B.out.trans (k2.mono B.out.size)
      have B3 := Lib.hid (B2.alloc B2.size (.cells #[.int .i64 xh, .int .u64 xl] 24))
      have hsz3 : w.heap.size + 1 ≤ (w2.alloc (.cells #[.int .i64 xh, .int .u64 xl] 24)).heap.size := by have := k2.size; simp; omega
      have HSZ : (w2.alloc (.cells #[.int .i64 xh, .int .u64 xl] 24)).heap.size = w2.heap.size + 1 := by simp
      clear hY k2 B2 O X B
      go_wp2_with (refine app1 (news := [.int .i64 xh, .int .u64 xl]) O2.out (Below.refl (w.heap.size + 1) _) hsz3 25 Try.underlying25 info_wide wide_size (by decide) (by decide) (by omega) rfl (by simp [Value.oneCell']) rfl rfl rfl (by rw [HSZ]; rfl) ?_; intro v1 w3 ho3 hb3 hg3)
      have hbl := fun i hi => (O2.out.lt i hi).1
      have C3 := chg_grown (S := fun i => w.heap.size + 1 ≤ i) hg3 hbl
      exact ⟨⟨k + 1, ws ++ [⟨xh, xl⟩], by omega, by simp [hwl], by rw [DD.out], by rw [List.flatMap_append]; exact ho3, NX.out, X2.out.chg C3 (by show ¬ w.heap.size + 1 ≤ w.heap.size; omega), B3.out.trans (C3.below B3.out.size (fun i hi => by omega)), Nat.le_trans hsz3 C3.size⟩, by show (bs (D.drop 16)).size < (bs D).size; rw [bs_size, List.length_drop, bs_size, DL.out]; omega⟩
    · obtain rfl : k = j + 1 := by omega
      have hdl : (L.drop (16 * (j + 1))).length = 0 := by have := HL.out; rw [List.length_drop]; omega
      have hd0 := List.eq_nil_of_length_eq_zero hdl
      have hI2 := I.out
      rw [hd0, Nat.sub_self] at hI2
      have hI3 : readW (j + 1) L = ws := by rw [hI2]; simp [readW]
      have hemp : (bs []).toList.isEmpty = true := by rw [bs_toList]; rfl
      rw [hd0]
      obtain ⟨a', cap', rfl, hcap, hW, hbl⟩ := els_own wcells_len O.out hwl
      have HIS2 := HIS.out
      rw [hI3] at HIS2
      obtain ⟨⟨ch, cl⟩, r, rfl⟩ : ∃ c r, ws = c :: r := by
        cases ws with
        | nil => simp at hwl
        | cons c r => exact ⟨c, r, rfl⟩
      have hrl : r.length = j := by simpa using hwl
      obtain ⟨ad, rfl, hlb, hz⟩ := hW.all (show 0 < (⟨ch, cl⟩ :: r : List Wd).length by simp)
      simp only [List.getElem_cons_zero, Nat.zero_mul] at hz
      have EZ := Lib.hid (show ∀ w', Below wr.heap.size wr w' → w'.cell? ad = some (.int .i64 ch) ∧ w'.cell? ⟨ad.block, ad.off + 1, none⟩ = some (.int .u64 cl) from fun w' hb => ⟨by have := (hz w' hb).1 _ rfl; simpa [Addr.add] using this, by have := (hz w' hb).2 0 _ rfl; simpa [Addr.add] using this⟩)
      have hdr := Els.drop hW 1
      have HD := Lib.hid hdr
      have R1 := Lib.hid hwl
      have I3 := Lib.hid hI3
      have F := Lib.hid HIS2.2
      have BL := Lib.hid (hbl _ rfl)
      clear hI2 hI3 HIS2 hz hW hd0 hdl hdr I O hbl
      have i0 : (0 : Int) < ((j + 1 : Nat) : Int) := by omega
      have i1 : (1 : Int) ≤ ((j + 1 : Nat) : Int) := by omega
      have i2 : (1 : Int) ≤ (cap' : Int) := by omega
      have i3 : ((j + 1 : Nat) : Int) ≤ (cap' : Int) := by omega
      have i4 : (1 : Int) ≤ (j : Int) + 1 := by omega
      have i5 : (j : Int) + 1 ≤ (cap' : Int) := by omega
      by_cases hc1 : cap' = 1
      · subst hc1
        obtain rfl : j = 0 := by omega
        have hr0 := List.eq_nil_of_length_eq_zero hrl
        have HR0 := Lib.hid hr0
        clear hr0
        go_wp2_with fail
        have X := Lib.hid X.out.drew
        have B := Lib.hid B.out.drew
        have E1 := Lib.hid (EZ.out _ (Below.refl _ _).drew)
        have HD := Lib.hid (HD.out.keep (Below.refl _ _).drew)
        refine Reg.start (fun w' => w'.cell? ad = some (.int .i64 ch) ∧ w'.cell? ⟨ad.block, ad.off + 1, none⟩ = some (.int .u64 cl)) (fun i => i == 6 || i == 7) (by kernel_rfl) E1.out (fun hHeld => ?_)
        generalize wr.drew = wd at *
        refine Reg.takeI 0 (v := ?_) rfl (by kernel_rfl) (by kernel_rfl) (by kernel_rfl) (by kernel_rfl) (fun _ _ _ h => h) (by rfl) ?_ hHeld ?_
        rotate_left 1
        · (intro w hSw; (try dsimp only at hSw); go_simp; try with_reducible rfl)
        try simp only [Act.put, List.setIfInBounds_toArray, List.set_cons_zero, List.set_cons_succ]
        refine Reg.takeI 1 (v := ?_) rfl (by kernel_rfl) (by kernel_rfl) (by kernel_rfl) (by kernel_rfl) (fun _ _ _ h => h) (by rfl) ?_ hHeld ?_
        rotate_left 1
        · (intro w hSw; (try dsimp only at hSw); go_simp; try with_reducible rfl)
        try simp only [Act.put, List.setIfInBounds_toArray, List.set_cons_zero, List.set_cons_succ]
        refine Reg.takeI 2 (v := ?_) rfl (by kernel_rfl) (by kernel_rfl) (by kernel_rfl) (by kernel_rfl) (fun _ _ _ h => h) (by rfl) ?_ hHeld ?_
        rotate_left 1
        · (intro w hSw; (try dsimp only at hSw); go_simp; try with_reducible rfl)
        try simp only [Act.put, List.setIfInBounds_toArray, List.set_cons_zero, List.set_cons_succ]
        refine Reg.takeI 3 (v := ?_) rfl (by kernel_rfl) (by kernel_rfl) (by kernel_rfl) (by kernel_rfl) (fun _ _ _ h => h) (by rfl) ?_ hHeld ?_
        rotate_left 1
        · (intro w hSw; (try dsimp only at hSw); go_simp; try with_reducible rfl)
        try simp only [Act.put, List.setIfInBounds_toArray, List.set_cons_zero, List.set_cons_succ]
        refine Reg.takeI 4 (v := ?_) rfl (by kernel_rfl) (by kernel_rfl) (by kernel_rfl) (by kernel_rfl) (fun _ _ _ h => h) (by rfl) ?_ hHeld ?_
        rotate_left 1
        · (intro w hSw; (try dsimp only at hSw); go_simp; try with_reducible rfl)
        try simp only [Act.put, List.setIfInBounds_toArray, List.set_cons_zero, List.set_cons_succ]
        refine Reg.takeI 5 (v := ?_) rfl (by kernel_rfl) (by kernel_rfl) (by kernel_rfl) (by kernel_rfl) (fun _ _ _ h => h) (by rfl) ?_ hHeld ?_
        rotate_left 1
        · (intro w hSw; (try dsimp only at hSw); go_simp; try with_reducible rfl)
        try simp only [Act.put, List.setIfInBounds_toArray, List.set_cons_zero, List.set_cons_succ]
        refine Reg.oneI 6 rfl (by kernel_rfl) (by rfl) (fun K hK => ?_)
        have z0 := X.out.cell (i := 0) rfl
        have z1 := X.out.cell (i := 1) rfl
        have z2 := X.out.cell (i := 2) rfl
        have f0 := X.out.frozen 0 (by simp)
        have f1 := X.out.frozen 1 (by simp)
        have f2 := X.out.frozen 2 (by simp)
        go_simp
        refine hK.out _ _ (fun h => by cases h) (fun _ => ?_)
        clear hK K
        try simp only [Act.put, List.setIfInBounds_toArray, List.set_cons_zero, List.set_cons_succ]
        refine Reg.oneI 7 rfl (by kernel_rfl) (by rfl) (fun K hK => ?_)
        go_simp
        refine hK.out _ _ (fun h => by cases h) (fun _ => ?_)
        clear hK K
        try simp only [Act.put, List.setIfInBounds_toArray, List.set_cons_zero, List.set_cons_succ]
        refine Reg.doneI (by kernel_rfl) ?_
        have ZF := Lib.hid ((((X.out.set 0 (.int .i64 ch)).set 1 (.int .u64 cl)).set 2 (Value.slice (some ad) 0 0)).cast (cs' := [.int .i64 ch, .int .u64 cl, Value.slice (some ad) 0 0]) rfl)
        have BF := Lib.hid (((B.out.setCell (p := ⟨w.heap.size, 0, none⟩) (Nat.le_refl _) (.int .i64 ch)).setCell (p := ⟨w.heap.size, 1, none⟩) (Nat.le_refl _) (.int .u64 cl)).setCell (p := ⟨w.heap.size, 2, none⟩) (Nat.le_refl _) (Value.slice (some ad) 0 0))
        have CF := (((Chg.refl (One w.heap.size) wd).put 0 (.int .i64 ch)).put 1 (.int .u64 cl)).put 2 (Value.slice (some ad) 0 0)
        have HF := Lib.hid (show Els Wd.cells 2 (((wd.setCell ⟨w.heap.size, 0, none⟩ (.int .i64 ch)).setCell ⟨w.heap.size, 1, none⟩ (.int .u64 cl)).setCell ⟨w.heap.size, 2, none⟩ (Value.slice (some ad) 0 0)) (some ad) r from by rw [HR0.out]; exact Els.nil _ _ _ _)
        clear CF z0 z1 z2 f0 f1 f2
        go_wp2_with fail
        refine ret_row2 ZF.out Try.results21 Try.underlying27 rfl (by kernel_rfl) rfl rfl ⟨?_, BF.out⟩
        rw [I3.out]
        refine ⟨_, rfl, ⟨some ad, 0, ?_, HF.out⟩, ⟨F.out _ List.mem_cons_self, fun s hs => F.out _ (List.mem_cons_of_mem _ hs)⟩, by show r.length ≤ _; omega⟩
        show Value.agg #[.int .i64 ch, .int .u64 cl, .slice (some ad) 0 0] = Value.agg #[.int .i64 ch, .int .u64 cl, .slice (some ad) r.length 0]
        rw [hrl]
      · go_wp2_with fail
        have X := Lib.hid X.out.drew
        have B := Lib.hid B.out.drew
        have E1 := Lib.hid (EZ.out _ (Below.refl _ _).drew)
        have HD := Lib.hid (HD.out.keep (Below.refl _ _).drew)
        refine Reg.start (fun w' => w'.cell? ad = some (.int .i64 ch) ∧ w'.cell? ⟨ad.block, ad.off + 1, none⟩ = some (.int .u64 cl)) (fun i => i == 6 || i == 7) (by kernel_rfl) E1.out (fun hHeld => ?_)
        generalize wr.drew = wd at *
        refine Reg.takeI 0 (v := ?_) rfl (by kernel_rfl) (by kernel_rfl) (by kernel_rfl) (by kernel_rfl) (fun _ _ _ h => h) (by rfl) ?_ hHeld ?_
        rotate_left 1
        · (intro w hSw; (try dsimp only at hSw); go_simp; try with_reducible rfl)
        try simp only [Act.put, List.setIfInBounds_toArray, List.set_cons_zero, List.set_cons_succ]
        refine Reg.takeI 1 (v := ?_) rfl (by kernel_rfl) (by kernel_rfl) (by kernel_rfl) (by kernel_rfl) (fun _ _ _ h => h) (by rfl) ?_ hHeld ?_
        rotate_left 1
        · (intro w hSw; (try dsimp only at hSw); go_simp; try with_reducible rfl)
        try simp only [Act.put, List.setIfInBounds_toArray, List.set_cons_zero, List.set_cons_succ]
        refine Reg.takeI 2 (v := ?_) rfl (by kernel_rfl) (by kernel_rfl) (by kernel_rfl) (by kernel_rfl) (fun _ _ _ h => h) (by rfl) ?_ hHeld ?_
        rotate_left 1
        · (intro w hSw; (try dsimp only at hSw); go_simp; try with_reducible rfl)
        try simp only [Act.put, List.setIfInBounds_toArray, List.set_cons_zero, List.set_cons_succ]
        refine Reg.takeI 3 (v := ?_) rfl (by kernel_rfl) (by kernel_rfl) (by kernel_rfl) (by kernel_rfl) (fun _ _ _ h => h) (by rfl) ?_ hHeld ?_
        rotate_left 1
        · (intro w hSw; (try dsimp only at hSw); go_simp; try with_reducible rfl)
        try simp only [Act.put, List.setIfInBounds_toArray, List.set_cons_zero, List.set_cons_succ]
        refine Reg.takeI 4 (v := ?_) rfl (by kernel_rfl) (by kernel_rfl) (by kernel_rfl) (by kernel_rfl) (fun _ _ _ h => h) (by rfl) ?_ hHeld ?_
        rotate_left 1
        · (intro w hSw; (try dsimp only at hSw); go_simp; try with_reducible rfl)
        try simp only [Act.put, List.setIfInBounds_toArray, List.set_cons_zero, List.set_cons_succ]
        refine Reg.takeI 5 (v := ?_) rfl (by kernel_rfl) (by kernel_rfl) (by kernel_rfl) (by kernel_rfl) (fun _ _ _ h => h) (by rfl) ?_ hHeld ?_
        rotate_left 1
        · (intro w hSw; (try dsimp only at hSw); go_simp; try with_reducible rfl)
        try simp only [Act.put, List.setIfInBounds_toArray, List.set_cons_zero, List.set_cons_succ]
        refine Reg.oneI 6 rfl (by kernel_rfl) (by rfl) (fun K hK => ?_)
        have z0 := X.out.cell (i := 0) rfl
        have z1 := X.out.cell (i := 1) rfl
        have z2 := X.out.cell (i := 2) rfl
        have f0 := X.out.frozen 0 (by simp)
        have f1 := X.out.frozen 1 (by simp)
        have f2 := X.out.frozen 2 (by simp)
        go_simp
        refine hK.out _ _ (fun h => by cases h) (fun _ => ?_)
        clear hK K
        try simp only [Act.put, List.setIfInBounds_toArray, List.set_cons_zero, List.set_cons_succ]
        refine Reg.oneI 7 rfl (by kernel_rfl) (by rfl) (fun K hK => ?_)
        go_simp
        refine hK.out _ _ (fun h => by cases h) (fun _ => ?_)
        clear hK K
        try simp only [Act.put, List.setIfInBounds_toArray, List.set_cons_zero, List.set_cons_succ]
        refine Reg.doneI (by kernel_rfl) ?_
        have ZF := Lib.hid ((((X.out.set 0 (.int .i64 ch)).set 1 (.int .u64 cl)).set 2 (Value.slice (some ⟨ad.block, ad.off + 2, none⟩) j (cap' - 1))).cast (cs' := [.int .i64 ch, .int .u64 cl, Value.slice (some ⟨ad.block, ad.off + 2, none⟩) j (cap' - 1)]) rfl)
        have BF := Lib.hid (((B.out.setCell (p := ⟨w.heap.size, 0, none⟩) (Nat.le_refl _) (.int .i64 ch)).setCell (p := ⟨w.heap.size, 1, none⟩) (Nat.le_refl _) (.int .u64 cl)).setCell (p := ⟨w.heap.size, 2, none⟩) (Nat.le_refl _) (Value.slice (some ⟨ad.block, ad.off + 2, none⟩) j (cap' - 1)))
        have CF := (((Chg.refl (One w.heap.size) wd).put 0 (.int .i64 ch)).put 1 (.int .u64 cl)).put 2 (Value.slice (some ⟨ad.block, ad.off + 2, none⟩) j (cap' - 1))
        have HF := Lib.hid (HD.out.chg CF (fun ad' had x => by have := BL.out; cases had; rw [els_block] at x; have e : ad.block = w.heap.size := x; omega))
        clear CF z0 z1 z2 f0 f1 f2
        go_wp2_with fail
        refine ret_row2 ZF.out Try.results21 Try.underlying27 rfl (by kernel_rfl) rfl rfl ⟨?_, BF.out⟩
        rw [I3.out]
        refine ⟨_, rfl, ⟨some ⟨ad.block, ad.off + 2, none⟩, cap' - 1, ?_, HF.out⟩, ⟨F.out _ List.mem_cons_self, fun s hs => F.out _ (List.mem_cons_of_mem _ hs)⟩, by show r.length ≤ _; omega⟩
        show Value.agg #[.int .i64 ch, .int .u64 cl, .slice (some ⟨ad.block, ad.off + 2, none⟩) j (cap' - 1)] = Value.agg #[.int .i64 ch, .int .u64 cl, .slice (some ⟨ad.block, ad.off + 2, none⟩) r.length (cap' - 1)]
        rw [hrl]

theorem readTotal_calls (s : ByteArray) (n : Int) (h1 : -9223372036854775808 ≤ n) (h2 : n ≤ 9223372036854775807) (w : World) : Calls Try.prog 21 #[.string s, .int .i64 n] w fun e w' => RtPost (rtOut s n) e w' ∧ Below w.heap.size w w' := by
  unfold rtOut
  by_cases h : rtOk s n
  · rw [if_pos h]
    obtain ⟨a, b, c⟩ := h
    obtain ⟨j, rfl⟩ := Int.eq_ofNat_of_zero_le a
    have e : ((j : Int) + 1).toNat = j + 1 := by omega
    rw [e]
    have := rt_yes s.data.toList j (by omega) (by show s.size = _; omega) w
    rwa [bs_of] at this
  · rw [if_neg h]
    exact rt_no s n h h1 h2 w
end Go.Proofs.Ytcfjooeagfollaa.Plan
