/- The pen and the eye of node. Printed by node_pen.py -/
import Derived.Test.YtebmalmciakhcaaBld
import Derived.Test.YtebmalmciakhcaaAgg
import Derived.Test.YtebmalmciakhcaaCrc
import Derived.LoopTactic
namespace Go.Proofs.Ytebmalmciakhcaa.Node
open Go.RowKit Go.Proofs.Ytebmalmciakhcaa.Mem Go.Proofs.Ytebmalmciakhcaa.Bytes
set_option linter.unusedSimpArgs false
set_option linter.unusedVariables false

/-- A number's bytes, the lowest first. -/
def le (n : Nat) : Nat → List UInt8
  | 0 => []
  | k + 1 => le n k ++ [UInt8.ofNat (n / 256 ^ k)]
theorem le_length (n k : Nat) : (le n k).length = k := by
  induction k with
  | zero => rfl
  | succ k ih => simp [le, ih]
theorem pen_lies : Bld.Lies 55 := by unfold Bld.Lies; kernel_rfl
abbrev Pen (w : World) (F : Nat → Prop) (b : Nat) (l : List UInt8) : Prop := Bld.Is w F 55 b l

theorem byte_of (n : Nat) : IntKind.u8.wrap (n : Int) = ((UInt8.ofNat n).toNat : Int) := by
  simp [IntKind.wrap, IntKind.bits, IntKind.signed]

set_option maxHeartbeats 1000000 in
set_option maxRecDepth 8000 in
theorem num_calls (F : Nat → Prop) (b : Nat) (l : List UInt8) (n k : Nat) (w : World) (h : Pen w F b l) (hn : n ≤ 9223372036854775807) (hk : k ≤ 8) (hl : l.length ≤ 90000000) :
    Calls Try.prog 27 #[.pointer (some ⟨b, 0, none⟩), .int .i64 (n : Int), .int .i64 (k : Int)] w fun e w' => e = .returned (.tuple #[]) ∧ Pen w' F b (l ++ le n k) ∧ Chg (Bld.Own F b) w w' := by
  go_enter Try.func27, Try.ntmps27
  go_wp2_with fail
  go_loopw [1, 7] (fun q i wr => ∃ j : Nat, j ≤ k ∧ i = .int .i64 j ∧ q = .int .i64 ((n / 256 ^ j : Nat) : Int) ∧ Pen wr F b (l ++ le n j) ∧ Chg (Bld.Own F b) w wr) (fun q i _ => k - (intOf i).toNat)
  case atStart => exact ⟨0, by omega, rfl, by simp, by simpa [le] using h, Chg.refl _ _⟩
  case round =>
    clear h
    obtain ⟨j, hj, rfl, rfl, h, hc⟩ := hrel
    by_cases hlt : j < k
    · have hll : (l ++ le n j).length ≤ 100000000 := by rw [List.length_append, le_length]; omega
      have hby := byte_of (n / 256 ^ j)
      have hcall := fun w => Bld.byte_calls F 55 pen_lies b (l ++ le n j) (UInt8.ofNat (n / 256 ^ j)) w
      have hdv : ((n / 256 ^ (j + 1) : Nat) : Int) = (n : Int) / 256 ^ j / 256 := by
        rw [Nat.pow_succ, ← Nat.div_div_eq_div_mul]
        simp
      have HD := Lib.hid hdv
      clear hdv
      go_wp2_with (go_at_call 47; refine (hcall _ h hll).mono ?_; rintro e w3 ⟨rfl, h3, hc3⟩)
      exact ⟨⟨j + 1, by omega, by go_num, by rw [HD.out], by rw [le, ← List.append_assoc]; exact h3, hc.trans hc3⟩, by simp [intOf]; omega⟩
    · obtain rfl : j = k := by omega
      go_wp2
      go_end0
      exact ⟨rfl, h, hc⟩

def inb (n top : Int) : Bool := decide (0 ≤ n) && decide (n ≤ top)

set_option maxHeartbeats 400000 in
theorem in_calls (n top : Int) (w : World) : Calls Try.prog 34 #[.int .i64 n, .int .i64 top] w fun e w' => e = .returned (.bool (inb n top)) ∧ w' = w := by
  by_cases h : 0 ≤ n
  · have h' : inb n top = decide (n ≤ top) := by simp [inb, h]
    rw [h']
    clear h'
    go_enter Try.func34, Try.ntmps34
    go_wp2
    go_ret
    exact ⟨rfl, rfl⟩
  · have h' : inb n top = false := by simp [inb, h]
    rw [h']
    clear h'
    have h2 : decide (0 ≤ n) = false := by simp; omega
    go_enter Try.func34, Try.ntmps34
    go_wp2
    go_ret
    exact ⟨rfl, rfl⟩

theorem numI_calls (F : Nat → Prop) (b : Nat) (l : List UInt8) (n : Int) (k : Nat) (w : World) (h : Pen w F b l) (h0 : 0 ≤ n) (hn : n ≤ 9223372036854775807) (hk : k ≤ 8) (hl : l.length ≤ 90000000) :
    Calls Try.prog 27 #[.pointer (some ⟨b, 0, none⟩), .int .i64 n, .int .i64 (k : Int)] w fun e w' => e = .returned (.tuple #[]) ∧ Pen w' F b (l ++ le n.toNat k) ∧ Chg (Bld.Own F b) w w' := by
  obtain ⟨m, rfl⟩ := Int.eq_ofNat_of_zero_le h0
  rw [Int.toNat_natCast]
  exact num_calls F b l m k w h (by omega) hk hl

/-- The blocks behind one. -/
abbrev Past (P : Nat) : Nat → Prop := fun k => P < k
theorem past_below {P : Nat} {w0 w w' : World} (hB : Below P w0 w) (h : Chg (Bld.Own (Past P) P) w w') (hs : P ≤ w.heap.size) : Below P w0 w' := hB.trans (h.below hs (fun b hb => by rcases hb with rfl | hb <;> omega))
theorem past_below_but {P c : Nat} {w0 w w' : World} (hB : Below P w0 w) (h : Chg (Bld.Own (fun k => Past P k ∧ k ≠ c) P) w w') (hs : P ≤ w.heap.size) : Below P w0 w' := hB.trans (h.below hs (fun b hb => by
  rcases hb with rfl | hb
  · exact Nat.le_refl _
  · exact Nat.le_of_lt hb.1))
theorem pen_lt {w : World} {F : Nat → Prop} {P : Nat} {l : List UInt8} (h : Pen w F P l) : P < w.heap.size := by
  obtain ⟨_, _, p, v, _, hr, _⟩ := h
  exact hr.lt

theorem len_le {l : List UInt8} {n k N : Nat} (h : l.length ≤ N) : (l ++ le n k).length ≤ N + k := by rw [List.length_append, le_length]; omega
/-- What is left, and whether there was too little. -/
abbrev St := List UInt8 × Bool
def eTake (s : St) (n : Nat) : List UInt8 × St := if s.1.length < n then ([], (s.1, true)) else (s.1.take n, (s.1.drop n, s.2))
/-- The number of bytes, the lowest first. -/
def lev : List UInt8 → Nat
  | [] => 0
  | b :: l => b.toNat + 256 * lev l
def eNum (s : St) (k : Nat) : Nat × St := (lev (eTake s k).1, (eTake s k).2)
theorem lev_lt (l : List UInt8) : lev l < 256 ^ l.length := by
  induction l with
  | nil => simp [lev]
  | cons b l ih =>
    have := b.toNat_lt
    simp only [lev, List.length_cons, Nat.pow_succ]
    omega
theorem lev_snoc (l : List UInt8) (b : UInt8) : lev (l ++ [b]) = lev l + b.toNat * 256 ^ l.length := by
  induction l with
  | nil => simp [lev]
  | cons c l ih =>
    simp only [List.cons_append, lev, List.length_cons, Nat.pow_succ]
    rw [ih, Nat.mul_add]
    have : 256 * (b.toNat * 256 ^ l.length) = b.toNat * (256 ^ l.length * 256) := by rw [Nat.mul_left_comm, Nat.mul_comm 256]
    omega
theorem eTake_len (s : St) (n : Nat) : (eTake s n).1.length ≤ n := by
  unfold eTake
  split
  · simp
  · simp [List.length_take]; omega
theorem eTake_rest (s : St) (n : Nat) : (eTake s n).2.1.length ≤ s.1.length := by
  unfold eTake
  split <;> simp
theorem eNum_lt (s : St) (k : Nat) : (eNum s k).1 < 256 ^ k := by
  have h := lev_lt (eTake s k).1
  have := Nat.pow_le_pow_right (show 0 < 256 by omega) (eTake_len s k)
  exact Nat.lt_of_lt_of_le h this
theorem eNum_rest (s : St) (k : Nat) : (eNum s k).2.1.length ≤ s.1.length := eTake_rest s k

theorem or_shift (a x j : Nat) (ha : a < 256 ^ j) (hx : x < 256) (hj : j ≤ 6) : Go.bits .or .i64 (a : Int) (wrap64 ((x : Int) * 2 ^ (8 * j))) = ((a + x * 256 ^ j : Nat) : Int) := by
  have e : (256 : Nat) ^ j = 2 ^ (8 * j) := by rw [show (256 : Nat) = 2 ^ 8 from rfl, ← Nat.pow_mul]
  have hp : (256 : Nat) ^ j ≤ 256 ^ 6 := Nat.pow_le_pow_right (by omega) hj
  have hlt : x * 256 ^ j ≤ 255 * 256 ^ 6 := Nat.mul_le_mul (by omega) hp
  have hw : wrap64 ((x : Int) * 2 ^ (8 * j)) = ((x * 256 ^ j : Nat) : Int) := by
    have : ((x : Int) * 2 ^ (8 * j)) = ((x * 256 ^ j : Nat) : Int) := by rw [e]; simp
    rw [this]
    generalize x * 256 ^ j = y at *
    unfold wrap64
    omega
  rw [hw]
  have hk : ∀ n : Int, 0 ≤ n → n < 2 ^ 62 → IntKind.i64.wrap n = n := fun n h0 h1 => by
    rw [IntKind.wrap_i64]
    omega
  have hb := (bits_nat .i64 62 (by decide) hk a (x * 256 ^ j) (by omega) (by omega)).2
  rw [hb]
  congr 1
  rw [e] at ha ⊢
  rw [Nat.or_comm, Nat.mul_comm x, Nat.add_comm, Nat.two_pow_add_eq_or_of_lt ha]

/-- Block b is an eye. -/
abbrev Eye (w : World) (b : Nat) (s : St) : Prop := Row w b 75 [.string (bs s.1), .bool s.2]

set_option maxHeartbeats 400000 in
theorem take_calls (b : Nat) (s : St) (n : Nat) (w : World) (h : Eye w b s) (hn : n ≤ 9223372036854775807) (hs : s.1.length ≤ 9223372036854775807) :
    Calls Try.prog 41 #[.pointer (some ⟨b, 0, none⟩), .int .i64 (n : Int)] w fun e w' => e = .returned (.string (bs (eTake s n).1)) ∧ Eye w' b (eTake s n).2 ∧ Chg (One b) w w' := by
  obtain ⟨l, bad⟩ := s
  have x0 := h.cell (i := 0) rfl
  have x1 := h.cell (i := 1) rfl
  have f0 := h.frozen 0 (by simp)
  have f1 := h.frozen 1 (by simp)
  have hsz : (bs l).size = l.length := rfl
  by_cases hlt : l.length < n
  · have e : eTake (l, bad) n = ([], (l, true)) := by simp [eTake, hlt]
    rw [e]
    have hq : (bs l).size < n := hlt
    have H := Lib.hid h
    clear h e hsz
    go_enter Try.func41, Try.ntmps41
    go_wp2
    go_ret
    exact ⟨rfl, (H.out.set 1 _).cast rfl, (Chg.refl _ _).put _ _⟩
  · have e : eTake (l, bad) n = (l.take n, (l.drop n, bad)) := by simp [eTake, hlt]
    rw [e]
    have hq : ¬ (bs l).size < n := hlt
    have hq' : n ≤ (bs l).size := Nat.le_of_not_lt hlt
    have e1 : (bs l).extract 0 n = bs (l.take n) := extract_take _ _
    have e2 : (bs l).extract n (bs l).size = bs (l.drop n) := extract_drop _ _
    have H := Lib.hid h
    have E1 := Lib.hid e1
    have E2 := Lib.hid e2
    clear h e hsz e1 e2
    go_enter Try.func41, Try.ntmps41
    go_wp2
    go_ret
    exact ⟨by rw [E1.out]; rfl, (H.out.set 0 _).cast (by rw [E2.out]; rfl), (Chg.refl _ _).put _ _⟩

set_option maxHeartbeats 400000 in
theorem enum_calls (b : Nat) (s : St) (k : Nat) (w : World) (h : Eye w b s) (hk : k ≤ 4) (hs : s.1.length ≤ 9223372036854775807) :
    Calls Try.prog 40 #[.pointer (some ⟨b, 0, none⟩), .int .i64 (k : Int)] w fun e w' => e = .returned (.int .i64 ((eNum s k).1 : Int)) ∧ Eye w' b (eNum s k).2 ∧ Chg (One b) w w' := by
  have hlen := eTake_len s k
  have he : eNum s k = (lev (eTake s k).1, (eTake s k).2) := rfl
  have ht := take_calls b s k w h (by omega) hs
  rw [he]
  clear he
  generalize eTake s k = q at *
  obtain ⟨l, s1⟩ := q
  have hl : l.length ≤ k := hlen
  go_enter Try.func40, Try.ntmps40
  go_wp2_with fail
  refine ht.mono ?_
  rintro e w1 ⟨rfl, h1, hc1⟩
  obtain ⟨c, w2, hrun, hcc, hrow, hbl, hsz⟩ := run_bytes (P := Try.prog) w1 9 41 5 (bs l) Try.underlying9 Try.underlying41 Try.underlying5
  have h2 := h1.below hbl h1.lt
  have hc2 := hc1.next (Chg.of_below (S := One b) hbl) (fun k hk x => x)
  have HC := Lib.hid hc2
  have HR := Lib.hid hrow
  have HSZ := Lib.hid hsz
  have H2 := Lib.hid h2
  clear hc1 hc2 hrow h1 h2 hbl h hsz
  rw [bs_size] at hcc hrun
  go_wp2_with fail
  go_loop [5, 13] (fun q i => ∃ j : Nat, j ≤ l.length ∧ i = .int .i64 j ∧ q = .int .i64 (lev (l.take j) : Int)) (fun q i => l.length - (intOf i).toNat)
  case atStart => exact ⟨0, by omega, rfl, by simp [lev]⟩
  case round =>
    obtain ⟨j, hj, rfl, rfl⟩ := hrel
    by_cases hlt : j < l.length
    · have hx := HR.out.cell (i := j) (v := .int .u8 (l[j].toNat : Int)) (by rw [bs_data, List.getElem?_append_left (by rw [List.length_map]; exact hlt)]; simp [hlt, bv])
      have hb0 := l[j].toNat_lt
      have hlv := lev_lt (l.take j)
      rw [List.length_take_of_le hj] at hlv
      have hor := or_shift (lev (l.take j)) l[j].toNat j hlv hb0 (by omega)
      have hsn : lev (l.take (j + 1)) = lev (l.take j) + l[j].toNat * 256 ^ j := by
        rw [List.take_succ_eq_append_getElem hlt, lev_snoc, List.length_take_of_le hj]
      rw [← hsn] at hor
      have HOR := Lib.hid hor
      clear hor hsn hlv
      go_wp2_with fail
      exact ⟨⟨j + 1, by omega, by go_num, by rw [HOR.out]⟩, by simp [intOf]; omega⟩
    · obtain rfl : j = l.length := by omega
      rw [List.take_length]
      go_wp2
      go_ret
      exact ⟨rfl, H2.out, HC.out⟩
theorem lev_le (n k : Nat) : lev (le n k) = n % 256 ^ k := by
  induction k with
  | zero => simp [le, lev, Nat.mod_one]
  | succ k ih =>
    rw [le, lev_snoc, ih, le_length, Nat.pow_succ, Nat.mod_mul]
    have : (UInt8.ofNat (n / 256 ^ k)).toNat = n / 256 ^ k % 256 := by simp
    rw [this, Nat.mul_comm]
theorem le_head (k : Nat) : ∀ n, le n (k + 1) = UInt8.ofNat n :: le (n / 256) k := by
  induction k with
  | zero => intro n; simp [le]
  | succ k ih =>
    intro n
    rw [le, ih, le, List.cons_append, Nat.pow_succ, Nat.mul_comm, Nat.div_div_eq_div_mul]
theorem le_lev (l : List UInt8) : le (lev l) l.length = l := by
  induction l with
  | nil => rfl
  | cons b l ih =>
    rw [List.length_cons, le_head, lev]
    have h := b.toNat_lt
    have e : (b.toNat + 256 * lev l) / 256 = lev l := by omega
    rw [e, ih]
    congr 1
    apply UInt8.toNat_inj.1
    simp

theorem eTake_app (x t : List UInt8) (b : Bool) (n : Nat) (h : x.length = n) : eTake (x ++ t, b) n = (x, (t, b)) := by
  unfold eTake
  simp only [List.length_append]
  rw [if_neg (by omega)]
  subst h
  simp
theorem eNum_app (n k : Nat) (t : List UInt8) (b : Bool) (h : n < 256 ^ k) : eNum (le n k ++ t, b) k = (n, (t, b)) := by
  unfold eNum
  rw [eTake_app _ _ _ _ (le_length n k)]
  simp only [lev_le, Nat.mod_eq_of_lt h]
theorem eTake_inv {l x l' : List UInt8} {b : Bool} {n : Nat} (h : eTake (l, b) n = (x, (l', false))) : b = false ∧ l = x ++ l' ∧ x.length = n := by
  unfold eTake at h
  split at h
  · simp at h
  · rename_i hlt
    simp only [Prod.mk.injEq] at h
    obtain ⟨rfl, rfl, rfl⟩ := h
    exact ⟨rfl, by simp, by simp at hlt; simp; omega⟩
theorem eNum_inv {l l' : List UInt8} {b : Bool} {n k : Nat} (h : eNum (l, b) k = (n, (l', false))) : b = false ∧ l = le n k ++ l' := by
  unfold eNum at h
  obtain ⟨x, s, hx⟩ : ∃ x s, eTake (l, b) k = (x, s) := ⟨_, _, rfl⟩
  rw [hx, Prod.mk.injEq] at h
  simp only at h
  obtain ⟨rfl, rfl⟩ := h
  obtain ⟨h1, h2, h3⟩ := eTake_inv hx
  exact ⟨h1, by rw [h2, ← h3, le_lev]⟩
theorem sealed_length (l : List UInt8) : (Crc.sealed l).length = l.length + 4 := by simp [Crc.sealed, Crc.tail]
theorem opened_sealed (l : List UInt8) : Crc.opened (Crc.sealed l) = some l := by
  unfold Crc.opened
  rw [if_neg (by rw [sealed_length]; omega)]
  have e : (Crc.sealed l).take ((Crc.sealed l).length - 4) = l := by
    rw [sealed_length, Nat.add_sub_cancel]
    simp [Crc.sealed]
  rw [e, if_pos rfl]
theorem opened_inv {l t : List UInt8} (h : Crc.opened l = some t) : l = Crc.sealed t ∧ t.length + 4 = l.length := by
  unfold Crc.opened at h
  split at h
  · cases h
  · split at h
    · rename_i h1 h2
      cases h
      exact ⟨h2.symm, by rw [List.length_take]; omega⟩
    · cases h


def one (b : Bool) : Nat := if b then 1 else 0
set_option maxHeartbeats 400000 in
theorem truth_calls (F : Nat → Prop) (b : Nat) (l : List UInt8) (t : Bool) (w : World) (h : Pen w F b l) (hl : l.length ≤ 80000000) :
    Calls Try.prog 28 #[.pointer (some ⟨b, 0, none⟩), .bool t] w fun e w' => e = .returned (.tuple #[]) ∧ Pen w' F b (l ++ le (one t) 1) ∧ Chg (Bld.Own F b) w w' := by
  cases t
  · go_enter Try.func28, Try.ntmps28
    go_wp2_with fail
    refine (num_calls F b l 0 1 _ h (by omega) (by omega) (by omega)).mono ?_
    rintro e w3 ⟨rfl, h3, hc3⟩
    go_wp2
    go_end0
    exact ⟨rfl, h3, hc3⟩
  · go_enter Try.func28, Try.ntmps28
    go_wp2_with fail
    refine (num_calls F b l 1 1 _ h (by omega) (by omega) (by omega)).mono ?_
    rintro e w3 ⟨rfl, h3, hc3⟩
    go_wp2
    go_end0
    exact ⟨rfl, h3, hc3⟩
end Go.Proofs.Ytebmalmciakhcaa.Node
