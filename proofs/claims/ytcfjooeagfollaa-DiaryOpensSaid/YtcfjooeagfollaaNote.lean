/- Contracts of note. -/
import Derived.Test.YtcfjooeagfollaaBld
import Derived.LoopTactic
namespace Go.Proofs.Ytcfjooeagfollaa.Note
open Go.RowKit Go.Proofs.Ytcfjooeagfollaa.Mem Go.Proofs.Ytcfjooeagfollaa.Bytes
set_option linter.unusedSimpArgs false
set_option linter.unusedVariables false
set_option maxRecDepth 20000

/-- A number's bytes, the lowest first. -/
def le (n : Nat) : Nat → List UInt8
  | 0 => []
  | k + 1 => le n k ++ [UInt8.ofNat (n / 256 ^ k)]
theorem le_length (n k : Nat) : (le n k).length = k := by
  induction k with
  | zero => rfl
  | succ k ih => simp [le, ih]
theorem pen_lies : Bld.Lies 245 := by unfold Bld.Lies; kernel_rfl
abbrev Pen (w : World) (F : Nat → Prop) (b : Nat) (l : List UInt8) : Prop := Bld.Is w F 245 b l

theorem byte_of (n : Nat) : IntKind.u8.wrap (n : Int) = ((UInt8.ofNat n).toNat : Int) := by
  simp [IntKind.wrap, IntKind.bits, IntKind.signed]

set_option maxHeartbeats 1000000 in
set_option maxRecDepth 8000 in
theorem num_calls (F : Nat → Prop) (b : Nat) (l : List UInt8) (n k : Nat) (w : World) (h : Pen w F b l) (hn : n ≤ 9223372036854775807) (hk : k ≤ 8) (hl : l.length ≤ 90000000) :
    Calls Try.prog 160 #[.pointer (some ⟨b, 0, none⟩), .int .i64 (n : Int), .int .i64 (k : Int)] w fun e w' => e = .returned (.tuple #[]) ∧ Pen w' F b (l ++ le n k) ∧ Chg (Bld.Own F b) w w' := by
  go_enter Try.func160, Try.ntmps160
  go_wp2_with fail
  go_loopw [1, 7] (fun q i wr => ∃ j : Nat, j ≤ k ∧ i = .int .i64 j ∧ q = .int .i64 ((n / 256 ^ j : Nat) : Int) ∧ Pen wr F b (l ++ le n j) ∧ Chg (Bld.Own F b) w wr) (fun q i _ => k - (intOf i).toNat)
  case atStart => exact ⟨0, by omega, rfl, by simp, by simpa [le] using h, Chg.refl _ _⟩
  case round =>
    clear h
    obtain ⟨j, hj, rfl, rfl, h, hc⟩ := hrel
    by_cases hlt : j < k
    · have hll : (l ++ le n j).length ≤ 100000000 := by rw [List.length_append, le_length]; omega
      have hby := byte_of (n / 256 ^ j)
      have hcall := fun w => Bld.byte_calls F 245 pen_lies b (l ++ le n j) (UInt8.ofNat (n / 256 ^ j)) w
      have hdv : ((n / 256 ^ (j + 1) : Nat) : Int) = (n : Int) / 256 ^ j / 256 := by
        rw [Nat.pow_succ, ← Nat.div_div_eq_div_mul]
        simp
      have HD := Lib.hid hdv
      clear hdv
      go_wp2_with (go_at_call 174; refine (hcall _ h hll).mono ?_; rintro e w3 ⟨rfl, h3, hc3⟩)
      exact ⟨⟨j + 1, by omega, by go_num, by rw [HD.out], by rw [le, ← List.append_assoc]; exact h3, hc.trans hc3⟩, by simp [intOf]; omega⟩
    · obtain rfl : j = k := by omega
      go_wp2
      go_end0
      exact ⟨rfl, h, hc⟩

set_option maxHeartbeats 1000000 in
set_option maxRecDepth 8000 in
theorem text_calls (F : Nat → Prop) (b : Nat) (l : List UInt8) (s : ByteArray) (w : World) (h : Pen w F b l) (hs : s.size ≤ 255) (hl : l.length ≤ 80000000) :
    Calls Try.prog 161 #[.pointer (some ⟨b, 0, none⟩), .string s] w fun e w' => e = .returned (.tuple #[]) ∧ Pen w' F b (l ++ le s.size 1 ++ s.data.toList) ∧ Chg (Bld.Own F b) w w' := by
  go_enter Try.func161, Try.ntmps161
  go_wp2_with fail
  refine (num_calls F b l s.size 1 _ h (by omega) (by omega) (by omega)).mono ?_
  rintro e w3 ⟨rfl, h3, hc3⟩
  have hll : (l ++ le s.size 1).length ≤ 100000000 := by rw [List.length_append, le_length]; omega
  go_wp2_with fail
  refine (Bld.string_calls F 245 pen_lies b _ s _ h3 hll (by omega)).mono ?_
  rintro e w4 ⟨rfl, h4, hc4⟩
  go_wp2
  go_end0
  exact ⟨rfl, h4, hc3.trans hc4⟩

/-! ### records that can be -/
def inb (n top : Int) : Bool := decide (0 ≤ n) && decide (n ≤ top)

set_option maxHeartbeats 400000 in
theorem in_calls (n top : Int) (w : World) : Calls Try.prog 117 #[.int .i64 n, .int .i64 top] w fun e w' => e = .returned (.bool (inb n top)) ∧ w' = w := by
  by_cases h : 0 ≤ n
  · have h' : inb n top = decide (n ≤ top) := by simp [inb, h]
    rw [h']
    clear h'
    go_enter Try.func117, Try.ntmps117
    go_wp2
    go_ret
    exact ⟨rfl, rfl⟩
  · have h' : inb n top = false := by simp [inb, h]
    rw [h']
    clear h'
    have h2 : decide (0 ≤ n) = false := by simp; omega
    go_enter Try.func117, Try.ntmps117
    go_wp2
    go_ret
    exact ⟨rfl, rfl⟩

def badPage (x : Int × ByteArray) : Bool := !inb x.1 255 || (x.2.size != 256)
def badOpen (x : Int × Int) : Bool := !inb x.1 2147483647 || !inb x.2 2147483647
def badDirty (x : Int × Int) : Bool := !inb x.1 255 || !inb x.2 2147483647

set_option maxHeartbeats 400000 in
theorem page_calls (x : Int × ByteArray) (w : World) : Calls Try.prog 116 #[.agg #[.int .i64 x.1, .string x.2]] w fun e w' => e = .returned (.bool (badPage x)) ∧ Below w.heap.size w w' := by
  obtain ⟨n, s⟩ := x
  have hi := in_calls n 255
  cases hn : inb n 255
  · have hb : badPage (n, s) = true := by simp [badPage, hn]
    rw [hb]
    rw [hn] at hi
    clear hn hb
    go_enter Try.func116, Try.ntmps116
    go_wp2_with (go_at_call 117; refine (hi _).mono ?_; rintro e w' ⟨rfl, rfl⟩)
    go_ret
    exact ⟨rfl, (Below.refl _ _).alloc (Nat.le_refl _) _⟩
  · by_cases hs : s.size = 256
    · have hb : badPage (n, s) = false := by simp [badPage, hn, hs]
      rw [hb]
      rw [hn] at hi
      have hs' : ((s.size : Int) != 256) = false := by simp; omega
      clear hn hb
      go_enter Try.func116, Try.ntmps116
      go_wp2_with (go_at_call 117; refine (hi _).mono ?_; rintro e w' ⟨rfl, rfl⟩)
      go_ret
      exact ⟨rfl, (Below.refl _ _).alloc (Nat.le_refl _) _⟩
    · have hb : badPage (n, s) = true := by simp [badPage, hn, hs]
      rw [hb]
      rw [hn] at hi
      have hs' : ((s.size : Int) != 256) = true := by simp; omega
      clear hn hb
      go_enter Try.func116, Try.ntmps116
      go_wp2_with (go_at_call 117; refine (hi _).mono ?_; rintro e w' ⟨rfl, rfl⟩)
      go_ret
      exact ⟨rfl, (Below.refl _ _).alloc (Nat.le_refl _) _⟩

set_option maxHeartbeats 400000 in
theorem open_calls (x : Int × Int) (w : World) : Calls Try.prog 118 #[.agg #[.int .i64 x.1, .int .i64 x.2]] w fun e w' => e = .returned (.bool (badOpen x)) ∧ Below w.heap.size w w' := by
  obtain ⟨n, s⟩ := x
  have hi := in_calls n 2147483647
  have hj := in_calls s 2147483647
  cases hn : inb n 2147483647
  · have hb : badOpen (n, s) = true := by simp [badOpen, hn]
    rw [hb]
    rw [hn] at hi
    clear hn hb
    go_enter Try.func118, Try.ntmps118
    go_wp2_with (go_at_call 117; refine (hi _).mono ?_; rintro e w' ⟨rfl, rfl⟩)
    go_ret
    exact ⟨rfl, (Below.refl _ _).alloc (Nat.le_refl _) _⟩
  · have hb : badOpen (n, s) = !inb s 2147483647 := by simp [badOpen, hn]
    rw [hb]
    rw [hn] at hi
    clear hn hb
    generalize inb s 2147483647 = q at *
    go_enter Try.func118, Try.ntmps118
    go_wp2_with fail
    refine (hi _).mono ?_
    rintro e w' ⟨rfl, rfl⟩
    go_wp2_with fail
    refine (hj _).mono ?_
    rintro e w' ⟨rfl, rfl⟩
    go_wp2_with fail
    go_ret
    exact ⟨rfl, (Below.refl _ _).alloc (Nat.le_refl _) _⟩

set_option maxHeartbeats 400000 in
theorem dirty_calls (x : Int × Int) (w : World) : Calls Try.prog 119 #[.agg #[.int .i64 x.1, .int .i64 x.2]] w fun e w' => e = .returned (.bool (badDirty x)) ∧ Below w.heap.size w w' := by
  obtain ⟨n, s⟩ := x
  have hi := in_calls n 255
  have hj := in_calls s 2147483647
  cases hn : inb n 255
  · have hb : badDirty (n, s) = true := by simp [badDirty, hn]
    rw [hb]
    rw [hn] at hi
    clear hn hb
    go_enter Try.func119, Try.ntmps119
    go_wp2_with (go_at_call 117; refine (hi _).mono ?_; rintro e w' ⟨rfl, rfl⟩)
    go_ret
    exact ⟨rfl, (Below.refl _ _).alloc (Nat.le_refl _) _⟩
  · have hb : badDirty (n, s) = !inb s 2147483647 := by simp [badDirty, hn]
    rw [hb]
    rw [hn] at hi
    clear hn hb
    generalize inb s 2147483647 = q at *
    go_enter Try.func119, Try.ntmps119
    go_wp2_with fail
    refine (hi _).mono ?_
    rintro e w' ⟨rfl, rfl⟩
    go_wp2_with fail
    refine (hj _).mono ?_
    rintro e w' ⟨rfl, rfl⟩
    go_wp2_with fail
    go_ret
    exact ⟨rfl, (Below.refl _ _).alloc (Nat.le_refl _) _⟩

/-! ### slices of pairs -/
/-- A slice of structs of a number and something. -/
def Pairs {Y : Type} (g : Y → Value) (w : World) (a : Option Addr) (n : Nat) (xs : List (Int × Y)) : Prop := xs.length = n ∧ n ≤ 9223372036854775807 ∧
  ∀ i x, xs[i]? = some x → ∃ ad, a = some ad ∧ w.cell? (ad.add (i * 2)) = some (.int .i64 x.1) ∧ w.cell? ⟨(ad.add (i * 2)).block, (ad.add (i * 2)).off + 1, none⟩ = some (g x.2)
theorem Pairs.keep {Y : Type} {g : Y → Value} {w w' : World} {a : Option Addr} {n : Nat} {xs : List (Int × Y)} (h : Pairs g w a n xs) (hb : Below w.heap.size w w') : Pairs g w' a n xs := by
  refine ⟨h.1, h.2.1, fun i x hx => ?_⟩
  obtain ⟨ad, rfl, h0, h1⟩ := h.2.2 i x hx
  exact ⟨ad, rfl, (hb.cell (World.block_lt_of_cell? w _ h0)).trans h0, (hb.cell (World.block_lt_of_cell? w _ h1)).trans h1⟩
theorem Pairs.at {Y : Type} {g : Y → Value} {w w' : World} {a : Option Addr} {n : Nat} {xs : List (Int × Y)} (h : Pairs g w a n xs) {i : Nat} (hi : i < n) (hb : Below w.heap.size w w') :
    ∃ ad x, a = some ad ∧ xs[i]? = some x ∧ w'.cell? (ad.add (i * 2)) = some (.int .i64 x.1) ∧ w'.cell? ⟨(ad.add (i * 2)).block, (ad.add (i * 2)).off + 1, none⟩ = some (g x.2) := by
  have hl : i < xs.length := by rw [h.1]; exact hi
  obtain ⟨ad, ha, h0, h1⟩ := (h.keep hb).2.2 i xs[i] (List.getElem?_eq_getElem hl)
  exact ⟨ad, xs[i], ha, List.getElem?_eq_getElem hl, h0, h1⟩

set_option maxHeartbeats 800000 in
theorem pageIndex_calls (a : Option Addr) (n c : Nat) (xs : List (Int × ByteArray)) (w : World) (h : Pairs Value.string w a n xs) :
    Calls Try.prog 163 #[.slice a n c, .func (.func 116) #[] #[]] w fun e w' => (∃ k : Int, e = .returned (.int .i64 k) ∧ decide (0 ≤ k) = xs.any badPage) ∧ Below w.heap.size w w' := by
  have hn := h.2.1
  go_enter Try.func163, Try.ntmps163
  go_wp2_with fail
  go_loopw [8] (fun i wr => ∃ j : Nat, j ≤ n ∧ i = .int .i64 j ∧ (xs.take j).any badPage = false ∧ Below w.heap.size w wr) (fun i _ => n - (intOf i).toNat)
  case atStart => exact ⟨0, by omega, rfl, rfl, Below.refl _ _⟩
  case round =>
    obtain ⟨j, hj, rfl, hany, hb⟩ := hrel
    by_cases hlt : j < n
    · obtain ⟨ad, x, rfl, hx, y0, y1⟩ := h.at hlt hb
      have hnext : (xs.take (j + 1)).any badPage = badPage x := by rw [List.take_add_one, hx, List.any_append, hany]; simp
      have hall : badPage x = true → xs.any badPage = true := fun hb => List.any_eq_true.2 ⟨x, List.mem_of_getElem? hx, hb⟩
      have HN := Lib.hid hnext
      have HA := Lib.hid hall
      have HY := Lib.hid hany
      clear hnext hall hany hx
      go_wp2_with fail
      refine (page_calls x _).mono ?_
      rintro e w2 ⟨rfl, hb2⟩
      cases hbad : badPage x
      · rw [hbad] at HN
        clear y0 y1 hbad
        replace hb := below_next hb hb2 (Nat.le_refl _)
        go_wp2
        first
        | exact ⟨⟨j + 1, by omega, by go_num, HN.out, hb⟩, by simp [intOf]; omega⟩
        | (go_roundw
           case rel => exact ⟨j + 1, by omega, by go_num, HN.out, hb⟩
           case measure => simp [intOf]; omega)
      · have hf := HA.out hbad
        have HF := Lib.hid hf
        clear y0 y1 hbad hf HA
        replace hb := below_next hb hb2 (Nat.le_refl _)
        go_wp2
        go_ret
        exact ⟨⟨j, rfl, by rw [HF.out]; simp⟩, hb⟩
    · obtain rfl : j = n := by omega
      have hx : xs.any badPage = false := by rw [← List.take_of_length_le (Nat.le_of_eq h.1)]; exact hany
      have HF := Lib.hid hx
      clear hx hany
      go_wp2
      go_ret
      exact ⟨⟨-1, rfl, by rw [HF.out]; simp⟩, hb⟩

set_option maxHeartbeats 800000 in
theorem pageContains_calls (a : Option Addr) (n c : Nat) (xs : List (Int × ByteArray)) (w : World) (h : Pairs Value.string w a n xs) :
    Calls Try.prog 121 #[.slice a n c, .func (.func 116) #[] #[]] w fun e w' => e = .returned (.bool (xs.any badPage)) ∧ Below w.heap.size w w' := by
  go_enter Try.func121, Try.ntmps121
  go_wp2_with fail
  refine (pageIndex_calls a n c xs _ h).mono ?_
  rintro e w2 ⟨⟨k, rfl, hk⟩, hb⟩
  have HK := Lib.hid hk
  clear hk
  go_wp2
  go_ret
  refine ⟨?_, hb⟩
  show Ending.returned (.bool (decide (0 ≤ k))) = _
  rw [HK.out]

set_option maxHeartbeats 800000 in
theorem openIndex_calls (a : Option Addr) (n c : Nat) (xs : List (Int × Int)) (w : World) (h : Pairs (Value.int .i64) w a n xs) :
    Calls Try.prog 164 #[.slice a n c, .func (.func 118) #[] #[]] w fun e w' => (∃ k : Int, e = .returned (.int .i64 k) ∧ decide (0 ≤ k) = xs.any badOpen) ∧ Below w.heap.size w w' := by
  have hn := h.2.1
  go_enter Try.func164, Try.ntmps164
  go_wp2_with fail
  go_loopw [8] (fun i wr => ∃ j : Nat, j ≤ n ∧ i = .int .i64 j ∧ (xs.take j).any badOpen = false ∧ Below w.heap.size w wr) (fun i _ => n - (intOf i).toNat)
  case atStart => exact ⟨0, by omega, rfl, rfl, Below.refl _ _⟩
  case round =>
    obtain ⟨j, hj, rfl, hany, hb⟩ := hrel
    by_cases hlt : j < n
    · obtain ⟨ad, x, rfl, hx, y0, y1⟩ := h.at hlt hb
      have hnext : (xs.take (j + 1)).any badOpen = badOpen x := by rw [List.take_add_one, hx, List.any_append, hany]; simp
      have hall : badOpen x = true → xs.any badOpen = true := fun hb => List.any_eq_true.2 ⟨x, List.mem_of_getElem? hx, hb⟩
      have HN := Lib.hid hnext
      have HA := Lib.hid hall
      have HY := Lib.hid hany
      clear hnext hall hany hx
      go_wp2_with fail
      refine (open_calls x _).mono ?_
      rintro e w2 ⟨rfl, hb2⟩
      cases hbad : badOpen x
      · rw [hbad] at HN
        clear y0 y1 hbad
        replace hb := below_next hb hb2 (Nat.le_refl _)
        go_wp2
        first
        | exact ⟨⟨j + 1, by omega, by go_num, HN.out, hb⟩, by simp [intOf]; omega⟩
        | (go_roundw
           case rel => exact ⟨j + 1, by omega, by go_num, HN.out, hb⟩
           case measure => simp [intOf]; omega)
      · have hf := HA.out hbad
        have HF := Lib.hid hf
        clear y0 y1 hbad hf HA
        replace hb := below_next hb hb2 (Nat.le_refl _)
        go_wp2
        go_ret
        exact ⟨⟨j, rfl, by rw [HF.out]; simp⟩, hb⟩
    · obtain rfl : j = n := by omega
      have hx : xs.any badOpen = false := by rw [← List.take_of_length_le (Nat.le_of_eq h.1)]; exact hany
      have HF := Lib.hid hx
      clear hx hany
      go_wp2
      go_ret
      exact ⟨⟨-1, rfl, by rw [HF.out]; simp⟩, hb⟩

set_option maxHeartbeats 800000 in
theorem openContains_calls (a : Option Addr) (n c : Nat) (xs : List (Int × Int)) (w : World) (h : Pairs (Value.int .i64) w a n xs) :
    Calls Try.prog 122 #[.slice a n c, .func (.func 118) #[] #[]] w fun e w' => e = .returned (.bool (xs.any badOpen)) ∧ Below w.heap.size w w' := by
  go_enter Try.func122, Try.ntmps122
  go_wp2_with fail
  refine (openIndex_calls a n c xs _ h).mono ?_
  rintro e w2 ⟨⟨k, rfl, hk⟩, hb⟩
  have HK := Lib.hid hk
  clear hk
  go_wp2
  go_ret
  refine ⟨?_, hb⟩
  show Ending.returned (.bool (decide (0 ≤ k))) = _
  rw [HK.out]

set_option maxHeartbeats 800000 in
theorem dirtyIndex_calls (a : Option Addr) (n c : Nat) (xs : List (Int × Int)) (w : World) (h : Pairs (Value.int .i64) w a n xs) :
    Calls Try.prog 165 #[.slice a n c, .func (.func 119) #[] #[]] w fun e w' => (∃ k : Int, e = .returned (.int .i64 k) ∧ decide (0 ≤ k) = xs.any badDirty) ∧ Below w.heap.size w w' := by
  have hn := h.2.1
  go_enter Try.func165, Try.ntmps165
  go_wp2_with fail
  go_loopw [8] (fun i wr => ∃ j : Nat, j ≤ n ∧ i = .int .i64 j ∧ (xs.take j).any badDirty = false ∧ Below w.heap.size w wr) (fun i _ => n - (intOf i).toNat)
  case atStart => exact ⟨0, by omega, rfl, rfl, Below.refl _ _⟩
  case round =>
    obtain ⟨j, hj, rfl, hany, hb⟩ := hrel
    by_cases hlt : j < n
    · obtain ⟨ad, x, rfl, hx, y0, y1⟩ := h.at hlt hb
      have hnext : (xs.take (j + 1)).any badDirty = badDirty x := by rw [List.take_add_one, hx, List.any_append, hany]; simp
      have hall : badDirty x = true → xs.any badDirty = true := fun hb => List.any_eq_true.2 ⟨x, List.mem_of_getElem? hx, hb⟩
      have HN := Lib.hid hnext
      have HA := Lib.hid hall
      have HY := Lib.hid hany
      clear hnext hall hany hx
      go_wp2_with fail
      refine (dirty_calls x _).mono ?_
      rintro e w2 ⟨rfl, hb2⟩
      cases hbad : badDirty x
      · rw [hbad] at HN
        clear y0 y1 hbad
        replace hb := below_next hb hb2 (Nat.le_refl _)
        go_wp2
        first
        | exact ⟨⟨j + 1, by omega, by go_num, HN.out, hb⟩, by simp [intOf]; omega⟩
        | (go_roundw
           case rel => exact ⟨j + 1, by omega, by go_num, HN.out, hb⟩
           case measure => simp [intOf]; omega)
      · have hf := HA.out hbad
        have HF := Lib.hid hf
        clear y0 y1 hbad hf HA
        replace hb := below_next hb hb2 (Nat.le_refl _)
        go_wp2
        go_ret
        exact ⟨⟨j, rfl, by rw [HF.out]; simp⟩, hb⟩
    · obtain rfl : j = n := by omega
      have hx : xs.any badDirty = false := by rw [← List.take_of_length_le (Nat.le_of_eq h.1)]; exact hany
      have HF := Lib.hid hx
      clear hx hany
      go_wp2
      go_ret
      exact ⟨⟨-1, rfl, by rw [HF.out]; simp⟩, hb⟩

set_option maxHeartbeats 800000 in
theorem dirtyContains_calls (a : Option Addr) (n c : Nat) (xs : List (Int × Int)) (w : World) (h : Pairs (Value.int .i64) w a n xs) :
    Calls Try.prog 123 #[.slice a n c, .func (.func 119) #[] #[]] w fun e w' => e = .returned (.bool (xs.any badDirty)) ∧ Below w.heap.size w w' := by
  go_enter Try.func123, Try.ntmps123
  go_wp2_with fail
  refine (dirtyIndex_calls a n c xs _ h).mono ?_
  rintro e w2 ⟨⟨k, rfl, hk⟩, hb⟩
  have HK := Lib.hid hk
  clear hk
  go_wp2
  go_ret
  refine ⟨?_, hb⟩
  show Ending.returned (.bool (decide (0 ≤ k))) = _
  rw [HK.out]
end Go.Proofs.Ytcfjooeagfollaa.Note
