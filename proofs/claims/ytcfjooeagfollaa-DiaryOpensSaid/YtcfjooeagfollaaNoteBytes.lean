/- note.Bytes: what it writes. -/
import Derived.Test.YtcfjooeagfollaaNoteGood
import Derived.Test.YtcfjooeagfollaaCrc
import Derived.Laws.BitsLemmas
namespace Go.Proofs.Ytcfjooeagfollaa.Note
open Go.RowKit Go.Proofs.Ytcfjooeagfollaa.Mem Go.Proofs.Ytcfjooeagfollaa.Bytes
set_option linter.unusedSimpArgs false
set_option linter.unusedVariables false
set_option maxRecDepth 20000

def pageBytes (x : Int × ByteArray) : List UInt8 := le x.1.toNat 2 ++ x.2.data.toList
def openBytes (x : Int × Int) : List UInt8 := le x.1.toNat 4 ++ le x.2.toNat 4
def dirtBytes (x : Int × Int) : List UInt8 := le x.1.toNat 2 ++ le x.2.toNat 4
/-- A record's bytes ahead of the check sum, without its length. -/
def Rec.body (r : Rec) : List UInt8 := le r.kind.toNat 1 ++ le r.deal.toNat 4 ++ le r.prev.toNat 4 ++ le r.next.toNat 4 ++ le r.ukind.toNat 1 ++ le r.utree.toNat 1
  ++ (le r.key.size 1 ++ r.key.data.toList) ++ (le r.val.size 1 ++ r.val.data.toList) ++ le r.pages.length 1 ++ r.pages.flatMap pageBytes ++ le r.opens.length 1 ++ r.opens.flatMap openBytes ++ le r.dirts.length 2 ++ r.dirts.flatMap dirtBytes

theorem inb_iff {n top : Int} : inb n top = true ↔ 0 ≤ n ∧ n ≤ top := by simp [inb]
theorem flat_len {Y : Type} (f : Int × Y → List UInt8) (k : Nat) (xs : List (Int × Y)) (h : ∀ x ∈ xs, (f x).length = k) : (xs.flatMap f).length = k * xs.length := by
  induction xs with
  | nil => simp
  | cons x xs ih =>
    rw [List.flatMap_cons, List.length_append, h x (by simp), ih (fun y hy => h y (by simp [hy])), List.length_cons, Nat.mul_add]
    omega
theorem page_len {x : Int × ByteArray} (h : badPage x = false) : (pageBytes x).length = 258 := by
  have hs : x.2.size = 256 := by simp [badPage] at h; exact h.2
  have : x.2.data.toList.length = 256 := by rw [← hs]; rfl
  rw [pageBytes, List.length_append, le_length, this]
/-- The length that Size tells. -/
theorem body_len (r : Rec) (h : r.good = true) : r.body.length + 8 = r.size := by
  have hg := h
  simp only [Rec.good, Bool.and_eq_true, Bool.not_eq_true'] at hg
  obtain ⟨⟨⟨_, hp⟩, ho⟩, hd⟩ := hg
  have e0 := flat_len pageBytes 258 r.pages (fun x hx => page_len (by
    have := List.any_eq_false.1 hp x hx
    simpa using this))
  have e1 := flat_len openBytes 8 r.opens (fun x _ => by simp [openBytes, le_length])
  have e2 := flat_len dirtBytes 6 r.dirts (fun x _ => by simp [dirtBytes, le_length])
  have k1 : r.key.data.toList.length = r.key.size := rfl
  have k2 : r.val.data.toList.length = r.val.size := rfl
  simp only [Rec.body, List.length_append, le_length, e0, e1, e2, k1, k2, Rec.size, h, if_true]
  omega

set_option maxHeartbeats 1600000 in
set_option maxRecDepth 8000 in
theorem bytes_bad (r : Rec) (hg : r.good = false) (a0 : Option Addr) (n0 c0 : Nat) (a1 : Option Addr) (n1 c1 : Nat) (a2 : Option Addr) (n2 c2 : Nat) (w : World) (h0 : Pairs Value.string w a0 n0 r.pages) (h1 : Pairs (Value.int .i64) w a1 n1 r.opens) (h2 : Pairs (Value.int .i64) w a2 n2 r.dirts) :
    Calls Try.prog 113 #[.agg (r.cells (.slice a0 n0 c0) (.slice a1 n1 c1) (.slice a2 n2 c2)).toArray] w fun e w' => e = .returned (.tuple #[.string ⟨#[]⟩, .int .i64 1]) ∧ Below w.heap.size w w' := by
  have hX := Row.new w 58 (r.cells (.slice a0 n0 c0) (.slice a1 n1 c1) (.slice a2 n2 c2))
  have hbx : Below w.heap.size w (w.alloc (.cells (r.cells (.slice a0 n0 c0) (.slice a1 n1 c1) (.slice a2 n2 c2)).toArray 58)) := (Below.refl _ _).alloc (Nat.le_refl _) _
  have hgood := good_calls r a0 n0 c0 a1 n1 c1 a2 n2 c2 _ (h0.keep hbx) (h1.keep hbx) (h2.keep hbx)
  have x0 := hX.cell (i := 0) rfl
  have x1 := hX.cell (i := 1) rfl
  have x2 := hX.cell (i := 2) rfl
  have x3 := hX.cell (i := 3) rfl
  have x4 := hX.cell (i := 4) rfl
  have x5 := hX.cell (i := 5) rfl
  have x6 := hX.cell (i := 6) rfl
  have x7 := hX.cell (i := 7) rfl
  have x8 := hX.cell (i := 8) rfl
  have x9 := hX.cell (i := 9) rfl
  have x10 := hX.cell (i := 10) rfl
  clear hX
  rw [hg] at hgood
  clear hg
  go_enter Try.func113, Try.ntmps113
  go_wp2_with fail
  refine hgood.mono ?_
  rintro e w4 ⟨rfl, hb4⟩
  clear x0 x1 x2 x3 x4 x5 x6 x7 x8 x9 x10 hgood
  replace hbx := hbx.trans (hb4.mono (by simp))
  go_wp2_with fail
  go_ret2
  exact ⟨rfl, hbx⟩

/-- What holds of the numbers of a record that can be. -/
theorem good_nums {r : Rec} (h : r.good = true) : (1 ≤ r.kind ∧ r.kind ≤ 6) ∧ (0 ≤ r.deal ∧ r.deal ≤ 2147483647) ∧ (0 ≤ r.prev ∧ r.prev ≤ 2147483647) ∧ (0 ≤ r.next ∧ r.next ≤ 2147483647) ∧ (0 ≤ r.ukind ∧ r.ukind ≤ 4) ∧ (0 ≤ r.utree ∧ r.utree ≤ 255) ∧ r.key.size ≤ 255 ∧ r.val.size ≤ 255 ∧ r.pages.length ≤ 8 ∧ r.opens.length ≤ 16 ∧ r.dirts.length ≤ 256 ∧ r.pages.any badPage = false ∧ r.opens.any badOpen = false ∧ r.dirts.any badDirty = false := by
  simp only [Rec.good, Rec.fits, undoGood, inb, Bool.and_eq_true, Bool.not_eq_true', decide_eq_true_eq] at h
  obtain ⟨⟨⟨⟨⟨⟨⟨⟨⟨a1, a2⟩, b⟩, c⟩, d⟩, ⟨⟨⟨e1, e2⟩, e3⟩, e4⟩⟩, ⟨⟨f1, f2⟩, f3⟩⟩, g1⟩, g2⟩, g3⟩ := h
  exact ⟨⟨a1, a2⟩, b, c, d, e1, e2, e3, e4, f1, f2, f3, g1, g2, g3⟩

theorem numI_calls (F : Nat → Prop) (b : Nat) (l : List UInt8) (n : Int) (k : Nat) (w : World) (h : Pen w F b l) (h0 : 0 ≤ n) (hn : n ≤ 9223372036854775807) (hk : k ≤ 8) (hl : l.length ≤ 90000000) :
    Calls Try.prog 160 #[.pointer (some ⟨b, 0, none⟩), .int .i64 n, .int .i64 (k : Int)] w fun e w' => e = .returned (.tuple #[]) ∧ Pen w' F b (l ++ le n.toNat k) ∧ Chg (Bld.Own F b) w w' := by
  obtain ⟨m, rfl⟩ := Int.eq_ofNat_of_zero_le h0
  rw [Int.toNat_natCast]
  exact num_calls F b l m k w h (by omega) hk hl

/-- The blocks behind one. -/
abbrev Past (P : Nat) : Nat → Prop := fun k => P < k
theorem past_below {P : Nat} {w0 w w' : World} (hB : Below P w0 w) (h : Chg (Bld.Own (Past P) P) w w') (hs : P ≤ w.heap.size) : Below P w0 w' := hB.trans (h.below hs (fun b hb => by rcases hb with rfl | hb <;> omega))
theorem past_below_but {P c : Nat} {w0 w w' : World} (hB : Below P w0 w) (h : Chg (Bld.Own (fun k => Past P k ∧ k ≠ c) P) w w') (hs : P ≤ w.heap.size) : Below P w0 w' := hB.trans (h.below hs (fun b hb => by
  rcases hb with rfl | hb
  · exact Nat.le_refl _
  · exact Nat.le_of_lt hb.1))
theorem pen_lt {w : World} {F : Nat → Prop} {P : Nat} {l : List UInt8} (h : Pen w F P l) : P < w.heap.size := by
  obtain ⟨_, _, p, v, _, hr, _⟩ := h
  exact hr.lt

theorem len_le {l : List UInt8} {n k N : Nat} (h : l.length ≤ N) : (l ++ le n k).length ≤ N + k := by rw [List.length_append, le_length]; omega
theorem len_text {l : List UInt8} {s : ByteArray} {N : Nat} (h : l.length ≤ N) (hs : s.size ≤ 255) : (l ++ le s.size 1 ++ s.data.toList).length ≤ N + 256 := by
  have : s.data.toList.length = s.size := rfl
  rw [List.length_append, List.length_append, le_length, this]; omega


set_option maxHeartbeats 4000000 in
set_option maxRecDepth 8000 in
theorem bytes_good (r : Rec) (hg : r.good = true) (a0 : Option Addr) (n0 c0 : Nat) (a1 : Option Addr) (n1 c1 : Nat) (a2 : Option Addr) (n2 c2 : Nat) (w : World) (h0 : Pairs Value.string w a0 n0 r.pages) (h1 : Pairs (Value.int .i64) w a1 n1 r.opens) (h2 : Pairs (Value.int .i64) w a2 n2 r.dirts) :
    Calls Try.prog 113 #[.agg (r.cells (.slice a0 n0 c0) (.slice a1 n1 c1) (.slice a2 n2 c2)).toArray] w fun e w' => e = .returned (.tuple #[.string (bs (Crc.sealed (le r.body.length 4 ++ r.body))), .int .i64 0]) ∧ Below w.heap.size w w' := by
  have hnums := Lib.hid (good_nums hg)
  have hX := Row.new w 58 (r.cells (.slice a0 n0 c0) (.slice a1 n1 c1) (.slice a2 n2 c2))
  have hbx : Below w.heap.size w (w.alloc (.cells (r.cells (.slice a0 n0 c0) (.slice a1 n1 c1) (.slice a2 n2 c2)).toArray 58)) := (Below.refl _ _).alloc (Nat.le_refl _) _
  have hgood := good_calls r a0 n0 c0 a1 n1 c1 a2 n2 c2 _ (h0.keep hbx) (h1.keep hbx) (h2.keep hbx)
  have hbl := Lib.hid (body_len r hg)
  have hsf := Lib.hid (show r.size = 29 + r.key.size + r.val.size + 258 * r.pages.length + 8 * r.opens.length + 6 * r.dirts.length by simp [Rec.size, hg])
  have hXg : ∀ i v, (r.cells (.slice a0 n0 c0) (.slice a1 n1 c1) (.slice a2 n2 c2))[i]? = some v → World.cell? (w.alloc (.cells (r.cells (.slice a0 n0 c0) (.slice a1 n1 c1) (.slice a2 n2 c2)).toArray 58)) ⟨w.heap.size, i, none⟩ = some v := fun i v h => hX.cell h

  have x0 := hXg 0 _ rfl
  have x1 := hXg 1 _ rfl
  have x2 := hXg 2 _ rfl
  have x3 := hXg 3 _ rfl
  have x4 := hXg 4 _ rfl
  have x5 := hXg 5 _ rfl
  have x6 := hXg 6 _ rfl
  have x7 := hXg 7 _ rfl
  have x8 := hXg 8 _ rfl
  have x9 := hXg 9 _ rfl
  have x10 := hXg 10 _ rfl
  clear hXg
  rw [hg] at hgood
  clear hg
  go_enter Try.func113, Try.ntmps113
  go_wp2_with fail
  refine hgood.mono ?_
  rintro e w4 ⟨rfl, hb4⟩
  have hX4 := hX.below hb4 (by simp)
  clear x0 x1 x2 x3 x4 x5 x6 x7 x8 x9 x10 hgood hX
  replace hbx := hbx.trans (hb4.mono (by simp))
  have hPx : w.heap.size < w4.heap.size := hX4.lt
  have hX5 := hX4.alloc (.cells #[.pointer none, .slice none 0 0] 245)
  have hp0 : Pen (w4.alloc (.cells #[.pointer none, .slice none 0 0] 245)) (Past w4.heap.size) w4.heap.size [] := Bld.Is.fresh (Row.new' _ _ _) (by omega) (by intro k hk; simp at hk; show w4.heap.size < k; omega)
  have hbw := hbx.alloc (Nat.le_of_lt hX4.lt) (.cells #[.pointer none, .slice none 0 0] 245)
  obtain ⟨hk1, hk2⟩ := hnums.out.1
  obtain ⟨hd1, hd2⟩ := hnums.out.2.1
  obtain ⟨hv1, hv2⟩ := hnums.out.2.2.1
  obtain ⟨hn1, hn2⟩ := hnums.out.2.2.2.1
  obtain ⟨hu1, hu2⟩ := hnums.out.2.2.2.2.1
  obtain ⟨ht1, ht2⟩ := hnums.out.2.2.2.2.2.1
  have hks := hnums.out.2.2.2.2.2.2.1
  have hvs := hnums.out.2.2.2.2.2.2.2.1
  have hn0 : n0 ≤ 8 := by have := hnums.out.2.2.2.2.2.2.2.2.1; have := h0.1; omega
  have hn1' : n1 ≤ 16 := by have := hnums.out.2.2.2.2.2.2.2.2.2.1; have := h1.1; omega
  have hn2' : n2 ≤ 256 := by have := hnums.out.2.2.2.2.2.2.2.2.2.2.1; have := h2.1; omega
  have hzs : 8 ≤ r.size := by have := hbl.out; omega
  have hzt : r.size ≤ 1000000 := by
    have := hsf.out
    have := hnums.out.2.2.2.2.2.2.2.2.1
    have := hnums.out.2.2.2.2.2.2.2.2.2.1
    have := hnums.out.2.2.2.2.2.2.2.2.2.2.1
    omega
  have hzn : ((r.size : Int) - 4 - 4).toNat = r.body.length := by have := hbl.out; omega
  have HZN := Lib.hid hzn
  clear hzn
  have hsize := size_calls r a0 n0 c0 a1 n1 c1 a2 n2 c2 _ (h0.keep hbw) (h1.keep hbw) (h2.keep hbw) (by omega) (by omega) (by omega) (by omega) (by omega)
  have hXg : ∀ i v, (r.cells (.slice a0 n0 c0) (.slice a1 n1 c1) (.slice a2 n2 c2))[i]? = some v → World.cell? (w4.alloc (.cells #[.pointer none, .slice none 0 0] 245)) ⟨w.heap.size, i, none⟩ = some v := fun i v h => hX5.cell h

  have x0 := hXg 0 _ rfl
  have x1 := hXg 1 _ rfl
  have x2 := hXg 2 _ rfl
  have x3 := hXg 3 _ rfl
  have x4 := hXg 4 _ rfl
  have x5 := hXg 5 _ rfl
  have x6 := hXg 6 _ rfl
  have x7 := hXg 7 _ rfl
  have x8 := hXg 8 _ rfl
  have x9 := hXg 9 _ rfl
  have x10 := hXg 10 _ rfl
  clear hXg
  go_wp2_with fail
  refine hsize.mono ?_
  clear x0 x1 x2 x3 x4 x5 x6 x7 x8 x9 x10 hsize
  rintro e w5 ⟨rfl, hb5⟩
  have hX6 := hX5.below hb5 hX5.lt
  have hp5 := hp0.below hb5
  have hs5 := hb5.size
  have hB : Below w4.heap.size (w4.alloc (.cells #[.pointer none, .slice none 0 0] 245)) w5 := hb5.mono (by simp)
  have hl : ([] : List UInt8).length ≤ 0 := Nat.le_refl _
  clear hX6 hp0 hb5

  go_wp2_with fail
  refine (numI_calls _ w4.heap.size _ (r.size - 4 - 4) 4 _ hp5 (by omega) (by omega) (by omega) (by omega)).mono ?_
  rintro e w6 ⟨rfl, hp6, hc6⟩
  replace hB := past_below hB hc6 (Nat.le_of_lt (pen_lt hp5))
  replace hl := len_le (n := ((r.size - 4 - 4) : Int).toNat) (k := 4) hl
  replace hp5 := hp6
  clear hp6 hc6
  rw [HZN.out] at hp5 hl
  have xx := (hX5.below hB (by omega)).cell (i := 0) rfl
  go_wp2_with fail
  refine (numI_calls _ w4.heap.size _ r.kind 1 _ hp5 (by omega) (by omega) (by omega) (by omega)).mono ?_
  clear xx
  rintro e w6 ⟨rfl, hp6, hc6⟩
  replace hB := past_below hB hc6 (Nat.le_of_lt (pen_lt hp5))
  replace hl := len_le (n := (r.kind : Int).toNat) (k := 1) hl
  replace hp5 := hp6
  clear hp6 hc6
  have xx := (hX5.below hB (by omega)).cell (i := 1) rfl
  go_wp2_with fail
  refine (numI_calls _ w4.heap.size _ r.deal 4 _ hp5 (by omega) (by omega) (by omega) (by omega)).mono ?_
  clear xx
  rintro e w6 ⟨rfl, hp6, hc6⟩
  replace hB := past_below hB hc6 (Nat.le_of_lt (pen_lt hp5))
  replace hl := len_le (n := (r.deal : Int).toNat) (k := 4) hl
  replace hp5 := hp6
  clear hp6 hc6
  have xx := (hX5.below hB (by omega)).cell (i := 2) rfl
  go_wp2_with fail
  refine (numI_calls _ w4.heap.size _ r.prev 4 _ hp5 (by omega) (by omega) (by omega) (by omega)).mono ?_
  clear xx
  rintro e w6 ⟨rfl, hp6, hc6⟩
  replace hB := past_below hB hc6 (Nat.le_of_lt (pen_lt hp5))
  replace hl := len_le (n := (r.prev : Int).toNat) (k := 4) hl
  replace hp5 := hp6
  clear hp6 hc6
  have xx := (hX5.below hB (by omega)).cell (i := 3) rfl
  go_wp2_with fail
  refine (numI_calls _ w4.heap.size _ r.next 4 _ hp5 (by omega) (by omega) (by omega) (by omega)).mono ?_
  clear xx
  rintro e w6 ⟨rfl, hp6, hc6⟩
  replace hB := past_below hB hc6 (Nat.le_of_lt (pen_lt hp5))
  replace hl := len_le (n := (r.next : Int).toNat) (k := 4) hl
  replace hp5 := hp6
  clear hp6 hc6
  have xx := (hX5.below hB (by omega)).cell (i := 5) rfl
  go_wp2_with fail
  refine (numI_calls _ w4.heap.size _ r.ukind 1 _ hp5 (by omega) (by omega) (by omega) (by omega)).mono ?_
  clear xx
  rintro e w6 ⟨rfl, hp6, hc6⟩
  replace hB := past_below hB hc6 (Nat.le_of_lt (pen_lt hp5))
  replace hl := len_le (n := (r.ukind : Int).toNat) (k := 1) hl
  replace hp5 := hp6
  clear hp6 hc6
  have xx := (hX5.below hB (by omega)).cell (i := 6) rfl
  go_wp2_with fail
  refine (numI_calls _ w4.heap.size _ r.utree 1 _ hp5 (by omega) (by omega) (by omega) (by omega)).mono ?_
  clear xx
  rintro e w6 ⟨rfl, hp6, hc6⟩
  replace hB := past_below hB hc6 (Nat.le_of_lt (pen_lt hp5))
  replace hl := len_le (n := (r.utree : Int).toNat) (k := 1) hl
  replace hp5 := hp6
  clear hp6 hc6
  have xx := (hX5.below hB (by omega)).cell (i := 7) rfl
  go_wp2_with fail
  refine (text_calls _ w4.heap.size _ r.key _ hp5 hks (by omega)).mono ?_
  clear xx
  rintro e w6 ⟨rfl, hp6, hc6⟩
  replace hB := past_below hB hc6 (Nat.le_of_lt (pen_lt hp5))
  replace hl := len_text hl hks
  replace hp5 := hp6
  clear hp6 hc6
  have xx := (hX5.below hB (by omega)).cell (i := 8) rfl
  go_wp2_with fail
  refine (text_calls _ w4.heap.size _ r.val _ hp5 hvs (by omega)).mono ?_
  clear xx
  rintro e w6 ⟨rfl, hp6, hc6⟩
  replace hB := past_below hB hc6 (Nat.le_of_lt (pen_lt hp5))
  replace hl := len_text hl hvs
  replace hp5 := hp6
  clear hp6 hc6
  have xx := (hX5.below hB (by omega)).cell (i := 4) rfl
  go_wp2_with fail
  refine (numI_calls _ w4.heap.size _ n0 1 _ hp5 (by omega) (by omega) (by omega) (by omega)).mono ?_
  clear xx
  rintro e w6 ⟨rfl, hp6, hc6⟩
  replace hB := past_below hB hc6 (Nat.le_of_lt (pen_lt hp5))
  replace hl := len_le (n := (n0 : Int).toNat) (k := 1) hl
  replace hp5 := hp6
  clear hp6 hc6
  have xx := (hX5.below hB (by omega)).cell (i := 4) rfl
  go_wp2_with fail
  clear xx
  have hwb : w.heap.size ≤ w4.heap.size := Nat.le_of_lt hPx
  obtain ⟨l1, hl1⟩ : ∃ l1, l1 = _ := ⟨_, (rfl : _ = (((((((((([] ++ le r.body.length 4) ++ le r.kind.toNat 1) ++ le r.deal.toNat 4) ++ le r.prev.toNat 4) ++ le r.next.toNat 4) ++ le r.ukind.toNat 1) ++ le r.utree.toNat 1) ++ le r.key.size 1 ++ r.key.data.toList) ++ le r.val.size 1 ++ r.val.data.toList) ++ le (n0 : Int).toNat 1))⟩
  have HL1 := Lib.hid hl1
  rw [← hl1] at hp5 hl
  clear hl1
  have hlp : ∀ j, j ≤ n0 → ((r.pages.take j).flatMap pageBytes).length = 258 * j := fun j hj => by
    have e0 := h0.1
    have := flat_len pageBytes 258 (r.pages.take j) (fun x hx => page_len (by
      have := List.any_eq_false.1 hnums.out.2.2.2.2.2.2.2.2.2.2.2.1 x (List.mem_of_mem_take hx)
      simpa using this))
    rw [this, List.length_take]
    omega
  have HLP := Lib.hid hlp
  clear hlp
  go_loopw [66] (fun i wr => ∃ j : Nat, j ≤ n0 ∧ i = .int .i64 j ∧ Pen wr (Past w4.heap.size) w4.heap.size (l1 ++ (r.pages.take j).flatMap pageBytes) ∧ Below w4.heap.size (w4.alloc (.cells #[.pointer none, .slice none 0 0] 245)) wr) (fun i _ => n0 - (intOf i).toNat)
  case atStart => exact ⟨0, by omega, rfl, by simpa using hp5, hB⟩
  case round =>
    clear hp5 hB
    obtain ⟨j, hj, rfl, hp5, hB⟩ := hrel
    by_cases hlt : j < n0
    · have hBw := hbw.trans (hB.mono hwb)
      obtain ⟨ad, x, rfl, hx, y0, y1⟩ := h0.at hlt hBw
      have hgx := hnums.out.2.2.2.2.2.2.2.2.2.2.2.1
      have hbadx : badPage x = false := by simpa using List.any_eq_false.1 hgx x (List.mem_of_getElem? hx)
      have hxn : 0 ≤ x.1 ∧ x.1 ≤ 255 := by
        simp only [badPage, Bool.or_eq_false_iff, Bool.not_eq_false'] at hbadx
        exact inb_iff.1 hbadx.1
      have hxs : x.2.size = 256 := by
        simp only [badPage, Bool.or_eq_false_iff] at hbadx
        simpa using hbadx.2
      have HXS := Lib.hid hxs
      have hsn : (r.pages.take (j + 1)).flatMap pageBytes = (r.pages.take j).flatMap pageBytes ++ (le x.1.toNat 2 ++ x.2.data.toList) := by
        rw [List.take_add_one, hx, List.flatMap_append]; simp [pageBytes]
      have HSN := Lib.hid hsn
      have hll := HLP.out j (by omega)
      have hl2 : (l1 ++ (r.pages.take j).flatMap pageBytes).length ≤ 5000 := by rw [List.length_append, hll]; omega
      have hxs' : x.2.size ≤ 256 := by omega
      obtain ⟨hxn1, hxn2⟩ := hxn
      clear hgx hbadx hxs hsn hll hx
      have hrow : Row (wr.alloc (.cells #[.int .i64 x.1, .string x.2] 161)) wr.heap.size 161 [.int .i64 x.1, .string x.2] := Row.new' _ _ _
      have z0 := hrow.cell (i := 0) rfl
      have hp6 := hp5.beside (.cells #[.int .i64 x.1, .string x.2] 161)
      have hB6 := hB.alloc (Nat.le_of_lt (pen_lt hp5)) (.cells #[.int .i64 x.1, .string x.2] 161)
      have hplt := pen_lt hp5
      go_wp2_with fail
      refine (numI_calls _ w4.heap.size _ x.1 2 _ hp6 (by omega) (by omega) (by omega) (by omega)).mono ?_
      rintro e w7 ⟨rfl, hp7, hc7⟩
      have hrow7 := hrow.chg hc7 (by rintro (h | h) <;> omega)
      have hB7 := past_below_but hB6 hc7 (by simp; omega)
      have z1 := hrow7.cell (i := 1) rfl
      have hl3 := len_le (n := x.1.toNat) (k := 2) hl2
      clear z0 y0 y1
      go_wp2_with fail
      go_still_tail 5, (by kernel_rfl)
      change wpList _ _ _ _ _ w7.drew
      replace z1 : w7.drew.cell? ⟨wr.heap.size, 1, none⟩ = some (.string x.2) := z1
      replace hp7 := hp7.drew
      replace hB7 := hB7.drew
      clear hrow7
      generalize w7.drew = w8 at *
      go_wp2_with fail
      refine (Bld.string_calls _ 245 pen_lies _ _ x.2 _ hp7 (by omega) (by omega)).mono ?_
      clear z1
      rintro e w9 ⟨rfl, hp9, hc9⟩
      have hB9 := past_below_but hB7 hc9 (Nat.le_of_lt (pen_lt hp7))
      have hp10 := hp9.wider (F' := Past w4.heap.size) (fun k hk => hk.1) (Nat.lt_irrefl _)
      rw [List.append_assoc, List.append_assoc, ← HSN.out] at hp10
      clear hp9 hp7 hc9 hc7 hp6 hB7 hB6 hl2 hl3 hrow
      go_wp2_with fail
      exact ⟨⟨j + 1, by omega, by go_num, hp10, hB9⟩, by simp [intOf]; omega⟩
    · obtain rfl : j = n0 := by omega
      rw [List.take_of_length_le (Nat.le_of_eq h0.1)] at hp5
      have hll := HLP.out j (Nat.le_refl _)
      rw [List.take_of_length_le (Nat.le_of_eq h0.1)] at hll
      have hl2 : (l1 ++ r.pages.flatMap pageBytes).length ≤ 3000 := by rw [List.length_append, hll]; omega
      clear hll
      have xx := (hX5.below hB (by omega)).cell (i := 9) rfl
      go_wp2_with fail
      refine (numI_calls _ w4.heap.size _ n1 1 _ hp5 (by omega) (by omega) (by omega) (by omega)).mono ?_
      clear xx
      rintro e w6 ⟨rfl, hp6, hc6⟩
      replace hB := past_below hB hc6 (Nat.le_of_lt (pen_lt hp5))
      replace hl2 := len_le (n := (n1 : Int).toNat) (k := 1) hl2
      replace hp5 := hp6
      clear hp6 hc6
      have xx := (hX5.below hB (by omega)).cell (i := 9) rfl
      go_wp2_with fail
      clear xx
      obtain ⟨l2, hq2⟩ : ∃ l2, l2 = _ := ⟨_, (rfl : _ = (l1 ++ r.pages.flatMap pageBytes) ++ le (n1 : Int).toNat 1)⟩
      have HL2 := Lib.hid hq2
      rw [← hq2] at hp5 hl2
      clear hq2
      have hlp : ∀ j, j ≤ n1 → ((r.opens.take j).flatMap openBytes).length = 8 * j := fun j hj => by
        have e0 := h1.1
        have := flat_len openBytes 8 (r.opens.take j) (fun x _ => by simp [openBytes, le_length])
        rw [this, List.length_take]
        omega
      have HLP2 := Lib.hid hlp
      clear hlp
      go_loopw [89] (fun i wr => ∃ j : Nat, j ≤ n1 ∧ i = .int .i64 j ∧ Pen wr (Past w4.heap.size) w4.heap.size (l2 ++ (r.opens.take j).flatMap openBytes) ∧ Below w4.heap.size (w4.alloc (.cells #[.pointer none, .slice none 0 0] 245)) wr) (fun i _ => n1 - (intOf i).toNat)
      case atStart => exact ⟨0, by omega, rfl, by simpa using hp5, hB⟩
      case round =>
        clear hp5 hB
        obtain ⟨j, hj, rfl, hp5, hB⟩ := hrel
        by_cases hlt : j < n1
        · have hBw := hbw.trans (hB.mono hwb)
          obtain ⟨ad, x, rfl, hx, y0, y1⟩ := h1.at hlt hBw
          have hgx := hnums.out.2.2.2.2.2.2.2.2.2.2.2.2.1
          have hbadx : badOpen x = false := by simpa using List.any_eq_false.1 hgx x (List.mem_of_getElem? hx)
          obtain ⟨⟨hxn1, hxn2⟩, hym1, hym2⟩ : (0 ≤ x.1 ∧ x.1 ≤ 2147483647) ∧ 0 ≤ x.2 ∧ x.2 ≤ 2147483647 := by
            simp only [badOpen, Bool.or_eq_false_iff, Bool.not_eq_false'] at hbadx
            exact ⟨inb_iff.1 hbadx.1, inb_iff.1 hbadx.2⟩
          have hsn : (r.opens.take (j + 1)).flatMap openBytes = (r.opens.take j).flatMap openBytes ++ (le x.1.toNat 4 ++ le x.2.toNat 4) := by
            rw [List.take_add_one, hx, List.flatMap_append]; simp [openBytes]
          have HSN := Lib.hid hsn
          have hll := HLP2.out j (by omega)
          have hl3 : (l2 ++ (r.opens.take j).flatMap openBytes).length ≤ 4000 := by rw [List.length_append, hll]; omega
          clear hgx hbadx hsn hll hx
          have hrow : Row (wr.alloc (.cells #[.int .i64 x.1, .int .i64 x.2] 163)) wr.heap.size 163 [.int .i64 x.1, .int .i64 x.2] := Row.new' _ _ _
          have z0 := hrow.cell (i := 0) rfl
          have hp6 := hp5.beside (.cells #[.int .i64 x.1, .int .i64 x.2] 163)
          have hB6 := hB.alloc (Nat.le_of_lt (pen_lt hp5)) (.cells #[.int .i64 x.1, .int .i64 x.2] 163)
          have hplt := pen_lt hp5
          go_wp2_with fail
          refine (numI_calls _ w4.heap.size _ x.1 4 _ hp6 (by omega) (by omega) (by omega) (by omega)).mono ?_
          rintro e w7 ⟨rfl, hp7, hc7⟩
          have hrow7 := hrow.chg hc7 (by rintro (h | h) <;> omega)
          have hB7 := past_below_but hB6 hc7 (by simp; omega)
          have z1 := hrow7.cell (i := 1) rfl
          replace hl3 := len_le (n := x.1.toNat) (k := 4) hl3
          clear z0 y0 y1 hrow hrow7 hc7 hp6 hB6
          go_wp2_with fail
          refine (numI_calls _ w4.heap.size _ x.2 4 _ hp7 (by omega) (by omega) (by omega) (by omega)).mono ?_
          clear z1
          rintro e w9 ⟨rfl, hp9, hc9⟩
          have hB9 := past_below_but hB7 hc9 (Nat.le_of_lt (pen_lt hp7))
          have hp10 := hp9.wider (F' := Past w4.heap.size) (fun k hk => hk.1) (Nat.lt_irrefl _)
          rw [List.append_assoc, List.append_assoc, ← HSN.out] at hp10
          clear hp9 hp7 hc9 hB7 hl3
          go_wp2_with fail
          exact ⟨⟨j + 1, by omega, by go_num, hp10, hB9⟩, by simp [intOf]; omega⟩
        · obtain rfl : j = n1 := by omega
          rw [List.take_of_length_le (Nat.le_of_eq h1.1)] at hp5
          have hll := HLP2.out j (Nat.le_refl _)
          rw [List.take_of_length_le (Nat.le_of_eq h1.1)] at hll
          replace hl2 : (l2 ++ r.opens.flatMap openBytes).length ≤ 4000 := by rw [List.length_append, hll]; omega
          clear hll
          have xx := (hX5.below hB (by omega)).cell (i := 10) rfl
          go_wp2_with fail
          refine (numI_calls _ w4.heap.size _ n2 2 _ hp5 (by omega) (by omega) (by omega) (by omega)).mono ?_
          clear xx
          rintro e w6 ⟨rfl, hp6, hc6⟩
          replace hB := past_below hB hc6 (Nat.le_of_lt (pen_lt hp5))
          replace hl2 := len_le (n := (n2 : Int).toNat) (k := 2) hl2
          replace hp5 := hp6
          clear hp6 hc6
          have xx := (hX5.below hB (by omega)).cell (i := 10) rfl
          go_wp2_with fail
          clear xx
          obtain ⟨l3, hq3⟩ : ∃ l3, l3 = _ := ⟨_, (rfl : _ = (l2 ++ r.opens.flatMap openBytes) ++ le (n2 : Int).toNat 2)⟩
          have HL3 := Lib.hid hq3
          rw [← hq3] at hp5 hl2
          clear hq3
          have hlp : ∀ j, j ≤ n2 → ((r.dirts.take j).flatMap dirtBytes).length = 6 * j := fun j hj => by
            have e0 := h2.1
            have := flat_len dirtBytes 6 (r.dirts.take j) (fun x _ => by simp [dirtBytes, le_length])
            rw [this, List.length_take]
            omega
          have HLP3 := Lib.hid hlp
          clear hlp
          go_loopw [110] (fun i wr => ∃ j : Nat, j ≤ n2 ∧ i = .int .i64 j ∧ Pen wr (Past w4.heap.size) w4.heap.size (l3 ++ (r.dirts.take j).flatMap dirtBytes) ∧ Below w4.heap.size (w4.alloc (.cells #[.pointer none, .slice none 0 0] 245)) wr) (fun i _ => n2 - (intOf i).toNat)
          case atStart => exact ⟨0, by omega, rfl, by simpa using hp5, hB⟩
          case round =>
            clear hp5 hB
            obtain ⟨j, hj, rfl, hp5, hB⟩ := hrel
            by_cases hlt : j < n2
            · have hBw := hbw.trans (hB.mono hwb)
              obtain ⟨ad, x, rfl, hx, y0, y1⟩ := h2.at hlt hBw
              have hgx := hnums.out.2.2.2.2.2.2.2.2.2.2.2.2.2
              have hbadx : badDirty x = false := by simpa using List.any_eq_false.1 hgx x (List.mem_of_getElem? hx)
              obtain ⟨⟨hxn1, hxn2⟩, hym1, hym2⟩ : (0 ≤ x.1 ∧ x.1 ≤ 255) ∧ 0 ≤ x.2 ∧ x.2 ≤ 2147483647 := by
                simp only [badDirty, Bool.or_eq_false_iff, Bool.not_eq_false'] at hbadx
                exact ⟨inb_iff.1 hbadx.1, inb_iff.1 hbadx.2⟩
              have hsn : (r.dirts.take (j + 1)).flatMap dirtBytes = (r.dirts.take j).flatMap dirtBytes ++ (le x.1.toNat 2 ++ le x.2.toNat 4) := by
                rw [List.take_add_one, hx, List.flatMap_append]; simp [dirtBytes]
              have HSN := Lib.hid hsn
              have hll := HLP3.out j (by omega)
              have hl3 : (l3 ++ (r.dirts.take j).flatMap dirtBytes).length ≤ 6000 := by rw [List.length_append, hll]; omega
              clear hgx hbadx hsn hll hx
              have hrow : Row (wr.alloc (.cells #[.int .i64 x.1, .int .i64 x.2] 165)) wr.heap.size 165 [.int .i64 x.1, .int .i64 x.2] := Row.new' _ _ _
              have z0 := hrow.cell (i := 0) rfl
              have hp6 := hp5.beside (.cells #[.int .i64 x.1, .int .i64 x.2] 165)
              have hB6 := hB.alloc (Nat.le_of_lt (pen_lt hp5)) (.cells #[.int .i64 x.1, .int .i64 x.2] 165)
              have hplt := pen_lt hp5
              go_wp2_with fail
              refine (numI_calls _ w4.heap.size _ x.1 2 _ hp6 (by omega) (by omega) (by omega) (by omega)).mono ?_
              rintro e w7 ⟨rfl, hp7, hc7⟩
              have hrow7 := hrow.chg hc7 (by rintro (h | h) <;> omega)
              have hB7 := past_below_but hB6 hc7 (by simp; omega)
              have z1 := hrow7.cell (i := 1) rfl
              replace hl3 := len_le (n := x.1.toNat) (k := 2) hl3
              clear z0 y0 y1 hrow hrow7 hc7 hp6 hB6
              go_wp2_with fail
              refine (numI_calls _ w4.heap.size _ x.2 4 _ hp7 (by omega) (by omega) (by omega) (by omega)).mono ?_
              clear z1
              rintro e w9 ⟨rfl, hp9, hc9⟩
              have hB9 := past_below_but hB7 hc9 (Nat.le_of_lt (pen_lt hp7))
              have hp10 := hp9.wider (F' := Past w4.heap.size) (fun k hk => hk.1) (Nat.lt_irrefl _)
              rw [List.append_assoc, List.append_assoc, ← HSN.out] at hp10
              clear hp9 hp7 hc9 hB7 hl3
              go_wp2_with fail
              exact ⟨⟨j + 1, by omega, by go_num, hp10, hB9⟩, by simp [intOf]; omega⟩
            · obtain rfl : j = n2 := by omega
              rw [List.take_of_length_le (Nat.le_of_eq h2.1)] at hp5
              have hll := HLP3.out j (Nat.le_refl _)
              rw [List.take_of_length_le (Nat.le_of_eq h2.1)] at hll
              replace hl2 : (l3 ++ r.dirts.flatMap dirtBytes).length ≤ 6000 := by rw [List.length_append, hll]; omega
              clear hll
              have hne : l3 ++ r.dirts.flatMap dirtBytes ≠ [] := by rw [HL3.out]; simp [le]
              have hall : l3 ++ r.dirts.flatMap dirtBytes = le r.body.length 4 ++ r.body := by
                have e0 := h0.1
                have e1 := h1.1
                have e2 := h2.1
                rw [HL3.out, HL2.out, HL1.out]
                simp only [Rec.body, List.append_assoc, List.nil_append, Int.toNat_natCast, e0, e1, e2]
              have HALL := Lib.hid hall
              clear hall
              go_wp2_with fail
              refine (Bld.text_calls _ 245 _ _ _ hp5 hne).mono ?_
              rintro e w6 ⟨rfl, hc6⟩
              rw [HALL.out]
              have hB6 := past_below hB hc6 (Nat.le_of_lt (pen_lt hp5))
              have hbl2 := hbl.out
              go_wp2_with fail
              refine (Crc.seal_calls _ _ (by rw [bs_size, List.length_append, le_length]; omega)).mono ?_
              rintro e w7 ⟨rfl, hB7⟩
              have hfin := (hbw.trans (hB6.mono hwb)).trans (hB7.mono (Nat.le_trans (Nat.le_trans hwb (by have := hB6.size; simp at this; omega)) (Nat.le_refl _)))
              rw [bs_data]
              go_wp2_with fail
              go_ret2
              exact ⟨rfl, hfin⟩
end Go.Proofs.Ytcfjooeagfollaa.Note

namespace Go.Proofs.Ytcfjooeagfollaa.Note
open Go.RowKit Go.Proofs.Ytcfjooeagfollaa.Mem Go.Proofs.Ytcfjooeagfollaa.Bytes
set_option linter.unusedSimpArgs false
set_option linter.unusedVariables false
set_option maxRecDepth 20000

/-- What is left, and whether there was too little. -/
abbrev St := List UInt8 × Bool
def eTake (s : St) (n : Nat) : List UInt8 × St := if s.1.length < n then ([], (s.1, true)) else (s.1.take n, (s.1.drop n, s.2))
/-- The number of bytes, the lowest first. -/
def lev : List UInt8 → Nat
  | [] => 0
  | b :: l => b.toNat + 256 * lev l
def eNum (s : St) (k : Nat) : Nat × St := (lev (eTake s k).1, (eTake s k).2)
def eText (s : St) : List UInt8 × St := eTake (eNum s 1).2 (eNum s 1).1
theorem lev_lt (l : List UInt8) : lev l < 256 ^ l.length := by
  induction l with
  | nil => simp [lev]
  | cons b l ih =>
    have := b.toNat_lt
    simp only [lev, List.length_cons, Nat.pow_succ]
    omega
theorem lev_snoc (l : List UInt8) (b : UInt8) : lev (l ++ [b]) = lev l + b.toNat * 256 ^ l.length := by
  induction l with
  | nil => simp [lev]
  | cons c l ih =>
    simp only [List.cons_append, lev, List.length_cons, Nat.pow_succ]
    rw [ih, Nat.mul_add]
    have : 256 * (b.toNat * 256 ^ l.length) = b.toNat * (256 ^ l.length * 256) := by rw [Nat.mul_left_comm, Nat.mul_comm 256]
    omega
theorem eTake_len (s : St) (n : Nat) : (eTake s n).1.length ≤ n := by
  unfold eTake
  split
  · simp
  · simp [List.length_take]; omega
theorem eTake_rest (s : St) (n : Nat) : (eTake s n).2.1.length ≤ s.1.length := by
  unfold eTake
  split <;> simp
theorem eNum_lt (s : St) (k : Nat) : (eNum s k).1 < 256 ^ k := by
  have h := lev_lt (eTake s k).1
  have := Nat.pow_le_pow_right (show 0 < 256 by omega) (eTake_len s k)
  exact Nat.lt_of_lt_of_le h this
theorem eNum_rest (s : St) (k : Nat) : (eNum s k).2.1.length ≤ s.1.length := eTake_rest s k

theorem or_shift (a x j : Nat) (ha : a < 256 ^ j) (hx : x < 256) (hj : j ≤ 6) : Go.bits .or .i64 (a : Int) (wrap64 ((x : Int) * 2 ^ (8 * j))) = ((a + x * 256 ^ j : Nat) : Int) := by
  have e : (256 : Nat) ^ j = 2 ^ (8 * j) := by rw [show (256 : Nat) = 2 ^ 8 from rfl, ← Nat.pow_mul]
  have hp : (256 : Nat) ^ j ≤ 256 ^ 6 := Nat.pow_le_pow_right (by omega) hj
  have hlt : x * 256 ^ j ≤ 255 * 256 ^ 6 := Nat.mul_le_mul (by omega) hp
  have hw : wrap64 ((x : Int) * 2 ^ (8 * j)) = ((x * 256 ^ j : Nat) : Int) := by
    have : ((x : Int) * 2 ^ (8 * j)) = ((x * 256 ^ j : Nat) : Int) := by rw [e]; simp
    rw [this]
    generalize x * 256 ^ j = y at *
    unfold wrap64
    omega
  rw [hw]
  have hk : ∀ n : Int, 0 ≤ n → n < 2 ^ 62 → IntKind.i64.wrap n = n := fun n h0 h1 => by
    rw [IntKind.wrap_i64]
    omega
  have hb := (bits_nat .i64 62 (by decide) hk a (x * 256 ^ j) (by omega) (by omega)).2
  rw [hb]
  congr 1
  rw [e] at ha ⊢
  rw [Nat.or_comm, Nat.mul_comm x, Nat.add_comm, Nat.two_pow_add_eq_or_of_lt ha]

/-- Block b is an eye. -/
abbrev Eye (w : World) (b : Nat) (s : St) : Prop := Row w b 254 [.string (bs s.1), .bool s.2]

set_option maxHeartbeats 400000 in
theorem take_calls (b : Nat) (s : St) (n : Nat) (w : World) (h : Eye w b s) (hn : n ≤ 9223372036854775807) (hs : s.1.length ≤ 9223372036854775807) :
    Calls Try.prog 181 #[.pointer (some ⟨b, 0, none⟩), .int .i64 (n : Int)] w fun e w' => e = .returned (.string (bs (eTake s n).1)) ∧ Eye w' b (eTake s n).2 ∧ Chg (One b) w w' := by
  obtain ⟨l, bad⟩ := s
  have x0 := h.cell (i := 0) rfl
  have x1 := h.cell (i := 1) rfl
  have f0 := h.frozen 0 (by simp)
  have f1 := h.frozen 1 (by simp)
  have hsz : (bs l).size = l.length := rfl
  by_cases hlt : l.length < n
  · have e : eTake (l, bad) n = ([], (l, true)) := by simp [eTake, hlt]
    rw [e]
    have hq : (bs l).size < n := hlt
    have H := Lib.hid h
    clear h e hsz
    go_enter Try.func181, Try.ntmps181
    go_wp2
    go_ret
    exact ⟨rfl, (H.out.set 1 _).cast rfl, (Chg.refl _ _).put _ _⟩
  · have e : eTake (l, bad) n = (l.take n, (l.drop n, bad)) := by simp [eTake, hlt]
    rw [e]
    have hq : ¬ (bs l).size < n := hlt
    have hq' : n ≤ (bs l).size := Nat.le_of_not_lt hlt
    have e1 : (bs l).extract 0 n = bs (l.take n) := extract_take _ _
    have e2 : (bs l).extract n (bs l).size = bs (l.drop n) := extract_drop _ _
    have H := Lib.hid h
    have E1 := Lib.hid e1
    have E2 := Lib.hid e2
    clear h e hsz e1 e2
    go_enter Try.func181, Try.ntmps181
    go_wp2
    go_ret
    exact ⟨by rw [E1.out]; rfl, (H.out.set 0 _).cast (by rw [E2.out]; rfl), (Chg.refl _ _).put _ _⟩

set_option maxHeartbeats 400000 in
theorem enum_calls (b : Nat) (s : St) (k : Nat) (w : World) (h : Eye w b s) (hk : k ≤ 4) (hs : s.1.length ≤ 9223372036854775807) :
    Calls Try.prog 166 #[.pointer (some ⟨b, 0, none⟩), .int .i64 (k : Int)] w fun e w' => e = .returned (.int .i64 ((eNum s k).1 : Int)) ∧ Eye w' b (eNum s k).2 ∧ Chg (One b) w w' := by
  have hlen := eTake_len s k
  have he : eNum s k = (lev (eTake s k).1, (eTake s k).2) := rfl
  have ht := take_calls b s k w h (by omega) hs
  rw [he]
  clear he
  generalize eTake s k = q at *
  obtain ⟨l, s1⟩ := q
  have hl : l.length ≤ k := hlen
  go_enter Try.func166, Try.ntmps166
  go_wp2_with fail
  refine ht.mono ?_
  rintro e w1 ⟨rfl, h1, hc1⟩
  obtain ⟨c, w2, hrun, hcc, hrow, hbl, hsz⟩ := run_bytes (P := Try.prog) w1 9 112 5 (bs l) Try.underlying9 Try.underlying112 Try.underlying5
  have h2 := h1.below hbl h1.lt
  have hc2 := hc1.next (Chg.of_below (S := One b) hbl) (fun k hk x => x)
  have HC := Lib.hid hc2
  have HR := Lib.hid hrow
  have HSZ := Lib.hid hsz
  have H2 := Lib.hid h2
  clear hc1 hc2 hrow h1 h2 hbl h hsz
  rw [bs_size] at hcc hrun
  go_wp2_with fail
  go_loop [5, 13] (fun q i => ∃ j : Nat, j ≤ l.length ∧ i = .int .i64 j ∧ q = .int .i64 (lev (l.take j) : Int)) (fun q i => l.length - (intOf i).toNat)
  case atStart => exact ⟨0, by omega, rfl, by simp [lev]⟩
  case round =>
    obtain ⟨j, hj, rfl, rfl⟩ := hrel
    by_cases hlt : j < l.length
    · have hx := HR.out.cell (i := j) (v := .int .u8 (l[j].toNat : Int)) (by rw [bs_data, List.getElem?_append_left (by rw [List.length_map]; exact hlt)]; simp [hlt, bv])
      have hb0 := l[j].toNat_lt
      have hlv := lev_lt (l.take j)
      rw [List.length_take_of_le hj] at hlv
      have hor := or_shift (lev (l.take j)) l[j].toNat j hlv hb0 (by omega)
      have hsn : lev (l.take (j + 1)) = lev (l.take j) + l[j].toNat * 256 ^ j := by
        rw [List.take_succ_eq_append_getElem hlt, lev_snoc, List.length_take_of_le hj]
      rw [← hsn] at hor
      have HOR := Lib.hid hor
      clear hor hsn hlv
      go_wp2_with fail
      exact ⟨⟨j + 1, by omega, by go_num, by rw [HOR.out]⟩, by simp [intOf]; omega⟩
    · obtain rfl : j = l.length := by omega
      rw [List.take_length]
      go_wp2
      go_ret
      exact ⟨rfl, H2.out, HC.out⟩
end Go.Proofs.Ytcfjooeagfollaa.Note
