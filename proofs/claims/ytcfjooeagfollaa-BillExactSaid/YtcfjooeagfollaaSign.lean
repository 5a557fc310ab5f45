/- Contracts of sign: values, codes. -/
import Derived.Test.YtcfjooeagfollaaNum
import Derived.Test.YtcfjooeagfollaaAgg
import Derived.Test.YtcfjooeagfollaaApp
import Derived.Test.YtcfjooeagfollaaShelf
import Derived.LoopTactic
import Derived.Lib.Hide
namespace Go.Proofs.Ytcfjooeagfollaa.Sign
open Go.RowKit Go.Proofs.Ytcfjooeagfollaa.Mem Go.Proofs.Ytcfjooeagfollaa.Bytes Go.Proofs.Ytcfjooeagfollaa.Num
set_option linter.unusedSimpArgs false
set_option linter.unusedVariables false
set_option maxRecDepth 20000

structure V where
  k : Int
  n : Int
  s : ByteArray
def V.cells (v : V) : List Value := [.int .i64 v.k, .int .i64 v.n, .string v.s]
abbrev V.val (v : V) : Value := .agg v.cells.toArray
def V.good (v : V) : Bool := (decide (v.k = 1) && decide (v.s.size = 0)) || (decide (v.k = 2) && decide (v.n = 0) && decide (v.s.size ≤ 7))
def V.fits (v : V) : Prop := -9223372036854775808 ≤ v.n ∧ v.n ≤ 9223372036854775807
def noV : V := ⟨0, 0, ⟨#[]⟩⟩
/-- The code of a value that can be. -/
def V.code (v : V) : List UInt8 := if v.k = 1 then 1 :: be (up v.n) 8 else 2 :: (v.s.data.toList ++ List.replicate (7 - v.s.size) 0 ++ [UInt8.ofNat v.s.size])
theorem V.good_iff (v : V) : v.good = true ↔ (v.k = 1 ∧ v.s.size = 0) ∨ (v.k = 2 ∧ v.n = 0 ∧ v.s.size ≤ 7) := by
  simp [V.good, and_assoc]
theorem V.code_length {v : V} (h : v.good = true) : v.code.length = 9 := by
  unfold V.code
  rcases (V.good_iff v).1 h with ⟨h1, _⟩ | ⟨h1, _, h2⟩
  · rw [if_pos h1, List.length_cons, be_length]
  · rw [if_neg (by omega)]
    have e : v.s.data.toList.length = v.s.size := rfl
    simp only [List.length_cons, List.length_append, List.length_replicate, List.length_nil, e]
    omega
theorem size_zero {s : ByteArray} (h : s.size = 0) : s = ⟨#[]⟩ := by
  have : s.data.size = 0 := h
  rw [← bs_of s]
  unfold bs
  have e : s.data.toList = [] := List.eq_nil_of_length_eq_zero (by simpa using this)
  rw [e]
theorem empty_false {s : ByteArray} (h : ¬ s.size = 0) : s.toList.isEmpty = false ∧ ¬ s.toList = [] := by
  have e : ¬ s.toList = [] := fun he => h (by
    rw [ByteArray.toList_eq] at he
    have := congrArg List.length he
    simpa using this)
  exact ⟨by simpa using e, e⟩

set_option maxHeartbeats 1000000 in
theorem good_calls (v : V) (w : World) : Calls Try.prog 144 #[v.val] w fun e w' => e = .returned (.bool v.good) ∧ Below w.heap.size w w' := by
  obtain ⟨k, n, s⟩ := v
  have hb : Below w.heap.size w (w.alloc (.cells (V.cells ⟨k, n, s⟩).toArray 81)) := (Below.refl _ _).alloc (Nat.le_refl _) _
  have hX := Row.new w 81 (V.cells ⟨k, n, s⟩)
  have x0 := hX.cell (i := 0) rfl
  have x1 := hX.cell (i := 1) rfl
  have x2 := hX.cell (i := 2) rfl
  simp only at x0 x1 x2
  clear hX
  by_cases h1 : k = 1
  · subst h1
    by_cases hs : s.size = 0
    · have hg : V.good ⟨1, n, s⟩ = true := by simp [V.good, hs]
      rw [hg]
      obtain rfl := size_zero hs
      clear hg hs
      go_enter Try.func144, Try.ntmps144
      go_wp2_with fail
      go_ret
      exact ⟨rfl, hb⟩
    · have hg : V.good ⟨1, n, s⟩ = false := by simp [V.good, hs]
      rw [hg]
      obtain ⟨e1, e2⟩ := empty_false hs
      clear hg hs
      go_enter Try.func144, Try.ntmps144
      go_wp2_with fail
      go_ret
      exact ⟨by simp [e1, e2], hb⟩
  · have d1 : ((k : Int) == 1) = false := by simpa using h1
    by_cases h2 : k = 2
    · subst h2
      by_cases hn : n = 0
      · subst hn
        have hg : V.good ⟨2, 0, s⟩ = decide (s.size ≤ 7) := by simp [V.good]
        rw [hg]
        have hc : decide (s.size ≤ 7) = decide ((s.size : Int) ≤ 7) := by simp; omega
        have HC := Lib.hid hc
        clear hg d1 h1 hc
        go_enter Try.func144, Try.ntmps144
        go_wp2_with fail
        go_ret
        exact ⟨by rw [HC.out]; rfl, hb⟩
      · have hg : V.good ⟨2, n, s⟩ = false := by simp [V.good, hn]
        rw [hg]
        have dn : ((n : Int) == 0) = false := by simpa using hn
        clear hg hn d1 h1
        go_enter Try.func144, Try.ntmps144
        go_wp2_with fail
        go_ret
        exact ⟨rfl, hb⟩
    · have hg : V.good ⟨k, n, s⟩ = false := by simp [V.good, h1, h2]
      rw [hg]
      have d2 : ((k : Int) == 2) = false := by simpa using h2
      clear hg h1 h2
      go_enter Try.func144, Try.ntmps144
      go_wp2_with fail
      go_ret
      exact ⟨rfl, hb⟩

set_option maxHeartbeats 1000000 in
theorem number_calls (n : Int) (w : World) (h0 : -9223372036854775808 ≤ n) (h1 : n ≤ 9223372036854775807) : Calls Try.prog 170 #[.int .i64 n] w fun e w' => e = .returned (.string (bs (be (up n) 8))) ∧ Below w.heap.size w w' := by
  have hmk : ∀ w, (Instr.makeSlice 112 (.int .i64 8) (.int .i64 8)).run Try.prog w = .ok (.slice (some ⟨w.heap.size, 0, none⟩) 8 8) (w.alloc (.cells #[.int .u8 0, .int .u8 0, .int .u8 0, .int .u8 0, .int .u8 0, .int .u8 0, .int .u8 0, .int .u8 0] 5)) := fun _ => by kernel_rfl
  have hx := up_xor h0 h1
  have hu := up_lt h0 h1
  generalize up n = u at hx hu ⊢
  go_enter Try.func170, Try.ntmps170
  go_wp2_with fail
  go_loopw [12] (fun i wr => ∃ k : Nat, k ≤ 8 ∧ i = .int .i64 k ∧ Row wr w.heap.size 5 (List.replicate (8 - k) (.int .u8 0) ++ ((le u k).reverse).map bv) ∧ Below w.heap.size w wr) (fun i _ => 8 - (intOf i).toNat)
  case atStart => exact ⟨0, by omega, rfl, Row.new' _ _ _, (Below.refl _ _).alloc (Nat.le_refl _) _⟩
  case round =>
    obtain ⟨k, hk, rfl, hr, hb⟩ := hrel
    by_cases hlt : k < 8
    · obtain ⟨m, hm⟩ : ∃ m, 8 - k = m + 1 := ⟨7 - k, by omega⟩
      have hmk7 : m = 7 - k := by omega
      have hc : wr.cell? ⟨w.heap.size, 7 - k, none⟩ = some (.int .u8 0) := by
        refine hr.cell ?_
        rw [List.getElem?_append_left (by rw [List.length_replicate]; omega), List.getElem?_replicate, if_pos (by omega)]
      have hf := hr.frozen (7 - k) (by simp [le_length]; omega)
      have i1 : (0 : Int) ≤ 7 - (k : Int) := by omega
      have i2 : (7 : Int) - (k : Int) < 8 := by omega
      have i3 : (7 - (k : Int)).toNat = 7 - k := by omega
      clear hx hmk
      have hby : ((u : Int) / 2 ^ (8 * k) % 256) = ((UInt8.ofNat (u / 256 ^ k)).toNat : Int) := by
        have e : (256 : Nat) ^ k = 2 ^ (8 * k) := by rw [show (256 : Nat) = 2 ^ 8 from rfl, ← Nat.pow_mul]
        rw [e]
        simp
      have hset := hr.set (7 - k) (bv (UInt8.ofNat (u / 256 ^ k)))
      have e2 : (List.replicate (8 - k) (Value.int .u8 0) ++ ((le u k).reverse).map bv).set (7 - k) (bv (UInt8.ofNat (u / 256 ^ k))) = List.replicate (8 - (k + 1)) (.int .u8 0) ++ ((le u (k + 1)).reverse).map bv := by
        have e3 : List.replicate (8 - k) (Value.int .u8 0) = List.replicate (7 - k) (.int .u8 0) ++ [.int .u8 0] := by
          rw [show 8 - k = (7 - k) + 1 by omega, List.replicate_succ']
        rw [e3, List.append_assoc, List.set_append_right _ _ (by simp), List.length_replicate, Nat.sub_self, show 8 - (k + 1) = 7 - k by omega, le, List.reverse_append]
        simp
      rw [e2] at hset
      have hbs := hb.setCell (Nat.le_refl _) (p := ⟨w.heap.size, 7 - k, none⟩) (bv (UInt8.ofNat (u / 256 ^ k)))
      have HS := Lib.hid hset
      have HBS := Lib.hid hbs
      have HBY := Lib.hid hby
      clear hset hbs e2 hby hm hmk7
      go_wp2_with fail
      rw [HBY.out]
      exact ⟨⟨k + 1, by omega, by go_num, HS.out, HBS.out⟩, by simp [intOf]; omega⟩
    · obtain rfl : k = 8 := by omega
      have hcv := run_string_row (P := Try.prog) (l := be u 8) (r := []) (w := wr) (b := w.heap.size) (e' := 5) (by rw [List.append_nil]; exact hr) Try.underlying112 Try.underlying5 Try.underlying9 8
      rw [be_length] at hcv
      go_wp2_with fail
      go_ret
      exact ⟨rfl, hb⟩

theorem repeat_zero (c : Nat) : Lib.repeatL [0] c = List.replicate c (0 : UInt8) := by
  induction c with
  | zero => rfl
  | succ c ih =>
    show [0] ++ Lib.repeatL [0] c = _
    rw [ih]
    rfl
theorem rep_calls (c : Int) (w : World) (h0 : 0 ≤ c) (h1 : c ≤ 7) : Calls Try.prog 171 #[.string ⟨#[0]⟩, .int .i64 c] w fun e w' => e = .returned (.string (bs (List.replicate c.toNat 0))) ∧ Below w.heap.size w w' := by
  obtain ⟨k, rfl⟩ := Int.eq_ofNat_of_zero_le h0
  have h := Try.strings_Repeat ⟨#[0]⟩ k w (by omega) (by show 1 * k ≤ _; omega)
  rw [Int.toNat_natCast, ← repeat_zero]
  exact h
set_option maxRecDepth 100000 in
theorem rune_text (m : Nat) (h : m ≤ 7) : ∀ wx, (convert 21 9 (.int .i32 (m : Int))).run Try.prog wx = .ok (.string (bs [UInt8.ofNat m])) wx := by
  rcases (by omega : m = 0 ∨ m = 1 ∨ m = 2 ∨ m = 3 ∨ m = 4 ∨ m = 5 ∨ m = 6 ∨ m = 7) with rfl | rfl | rfl | rfl | rfl | rfl | rfl | rfl <;> exact fun _ => by kernel_rfl
def codeOut (v : V) : List UInt8 × Int := if v.good then (v.code, 0) else ([], 1)
theorem app_bs (l : List UInt8) (a : ByteArray) : bs l ++ a = bs (l ++ a.data.toList) := by rw [← bs_of a, bs_append]; rfl

set_option maxHeartbeats 1000000 in
theorem code_calls (v : V) (w : World) (hf : v.fits) : Calls Try.prog 145 #[v.val] w fun e w' => e = .returned (.tuple #[.string (bs (codeOut v).1), .int .i64 (codeOut v).2]) ∧ Below w.heap.size w w' := by
  have hg := good_calls v
  obtain ⟨k, n, s⟩ := v
  obtain ⟨hn1, hn2⟩ := hf
  simp only at hn1 hn2
  have hb : Below w.heap.size w (w.alloc (.cells (V.cells ⟨k, n, s⟩).toArray 81)) := (Below.refl _ _).alloc (Nat.le_refl _) _
  have hX := Row.new w 81 (V.cells ⟨k, n, s⟩)
  have x0 := hX.cell (i := 0) rfl
  have x1 := hX.cell (i := 1) rfl
  have x2 := hX.cell (i := 2) rfl
  simp only at x0 x1 x2
  cases hgd : V.good ⟨k, n, s⟩
  · have ho : codeOut ⟨k, n, s⟩ = ([], 1) := by simp [codeOut, hgd]
    rw [ho]
    rw [hgd] at hg
    clear hgd ho hX
    have G := Lib.hid hg
    clear hg
    go_enter Try.func145, Try.ntmps145
    go_wp2_with fail
    refine (G.out _).mono ?_
    rintro e w1 ⟨rfl, hb1⟩
    clear x0 x1 x2
    go_wp2_with fail
    go_ret2
    exact ⟨rfl, hb.trans (hb1.mono hb.size)⟩
  · have ho : codeOut ⟨k, n, s⟩ = (V.code ⟨k, n, s⟩, 0) := by simp [codeOut, hgd]
    rw [ho]
    rw [hgd] at hg
    have G := Lib.hid hg
    clear hg ho
    rcases (V.good_iff _).1 hgd with ⟨h1, h2⟩ | ⟨h1, h2, h3⟩
    · simp only at h1 h2
      subst h1
      have hc : V.code ⟨1, n, s⟩ = 1 :: be (up n) 8 := rfl
      have hcat : (⟨#[1]⟩ : ByteArray) ++ bs (be (up n) 8) = bs (1 :: be (up n) 8) := app_bs [1] _
      have hsz : (bs (be (up n) 8)).size = 8 := be_length _ _
      rw [hc]
      have HC := Lib.hid hcat
      clear hgd hc hcat h2
      go_enter Try.func145, Try.ntmps145
      go_wp2_with fail
      refine (G.out _).mono ?_
      rintro e w1 ⟨rfl, hb1⟩
      have hX1 := hX.below hb1 hX.lt
      clear x0 x1 x2
      have x0 := hX1.cell (i := 0) rfl
      have x1 := hX1.cell (i := 1) rfl
      simp only at x0 x1
      go_wp2_with fail
      refine (number_calls n _ hn1 hn2).mono ?_
      rintro e w2 ⟨rfl, hb2⟩
      have hfin := (hb.trans (hb1.mono hb.size)).trans (hb2.mono (Nat.le_trans hb.size hb1.size))
      go_wp2_with fail
      go_ret2
      exact ⟨by rw [HC.out]; rfl, hfin⟩
    · simp only at h1 h2 h3
      subst h1 h2
      have hc : V.code ⟨2, 0, s⟩ = 2 :: (s.data.toList ++ List.replicate (7 - s.size) 0 ++ [UInt8.ofNat s.size]) := rfl
      have hcat : (⟨#[2]⟩ : ByteArray) ++ s ++ bs (List.replicate (7 - s.size) 0) ++ bs [UInt8.ofNat s.size] = bs (2 :: (s.data.toList ++ List.replicate (7 - s.size) 0 ++ [UInt8.ofNat s.size])) := by
        rw [show (⟨#[2]⟩ : ByteArray) = bs [2] from rfl]
        simp only [app_bs, bs_data, List.append_assoc, List.cons_append, List.nil_append]
      have hcv := rune_text s.size h3
      have hz1 : (bs (List.replicate (7 - s.size) (0 : UInt8))).size = 7 - s.size := by rw [bs_size, List.length_replicate]
      have hz2 : (bs [UInt8.ofNat s.size]).size = 1 := rfl
      have h3' : (s.size : Int) ≤ 7 := by omega
      have ht : (7 - (s.size : Int)).toNat = 7 - s.size := by omega
      have hr := fun w => rep_calls (7 - (s.size : Int)) w (by omega) (by omega)
      rw [ht] at hr
      rw [hc]
      have HC := Lib.hid hcat
      have HR := Lib.hid hr
      clear hgd hc hcat hr ht
      go_enter Try.func145, Try.ntmps145
      go_wp2_with fail
      refine (G.out _).mono ?_
      rintro e w1 ⟨rfl, hb1⟩
      have hX1 := hX.below hb1 hX.lt
      clear x0 x1 x2
      have x0 := hX1.cell (i := 0) rfl
      have x2 := hX1.cell (i := 2) rfl
      simp only at x0 x2
      go_wp2_with fail
      refine (HR.out _).mono ?_
      rintro e w2 ⟨rfl, hb2⟩
      have hX2 := hX1.below hb2 hX1.lt
      clear x0 x2
      have x2 := hX2.cell (i := 2) rfl
      simp only at x2
      have hfin := (hb.trans (hb1.mono hb.size)).trans (hb2.mono (Nat.le_trans hb.size hb1.size))
      go_wp2_with fail
      go_ret2
      exact ⟨by rw [HC.out]; rfl, hfin⟩
end Go.Proofs.Ytcfjooeagfollaa.Sign
