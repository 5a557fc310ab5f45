/- Numbers as bytes: plain lemmas. -/
import Derived.Test.YtcfjooeagfollaaBytes
import Derived.Laws.BitsLemmas
import Derived.RowKit
import Derived.IntWalk
namespace Go.Proofs.Ytcfjooeagfollaa.Num
open Go.Proofs.Ytcfjooeagfollaa.Bytes Go.RowKit
set_option linter.unusedSimpArgs false
set_option linter.unusedVariables false
set_option maxRecDepth 20000

/-- A number's bytes, the lowest first. -/
def le (n : Nat) : Nat → List UInt8
  | 0 => []
  | k + 1 => le n k ++ [UInt8.ofNat (n / 256 ^ k)]
theorem le_length (n k : Nat) : (le n k).length = k := by
  induction k with
  | zero => rfl
  | succ k ih => simp [le, ih]
/-- The number of bytes, the lowest first. -/
def lev : List UInt8 → Nat
  | [] => 0
  | b :: l => b.toNat + 256 * lev l
theorem lev_lt (l : List UInt8) : lev l < 256 ^ l.length := by
  induction l with
  | nil => simp [lev]
  | cons b l ih =>
    have := b.toNat_lt
    simp only [lev, List.length_cons, Nat.pow_succ]
    omega
theorem lev_snoc (l : List UInt8) (b : UInt8) : lev (l ++ [b]) = lev l + b.toNat * 256 ^ l.length := by
  induction l with
  | nil => simp [lev]
  | cons c l ih =>
    simp only [List.cons_append, lev, List.length_cons, Nat.pow_succ]
    rw [ih, Nat.mul_add]
    have : 256 * (b.toNat * 256 ^ l.length) = b.toNat * (256 ^ l.length * 256) := by rw [Nat.mul_left_comm, Nat.mul_comm 256]
    omega
theorem lev_le (n k : Nat) : lev (le n k) = n % 256 ^ k := by
  induction k with
  | zero => simp [le, lev, Nat.mod_one]
  | succ k ih =>
    rw [le, lev_snoc, ih, le_length, Nat.pow_succ, Nat.mod_mul]
    have : (UInt8.ofNat (n / 256 ^ k)).toNat = n / 256 ^ k % 256 := by simp
    rw [this, Nat.mul_comm]
theorem le_head (k : Nat) : ∀ n, le n (k + 1) = UInt8.ofNat n :: le (n / 256) k := by
  induction k with
  | zero => intro n; simp [le]
  | succ k ih =>
    intro n
    rw [le, ih, le, List.cons_append, Nat.pow_succ, Nat.mul_comm, Nat.div_div_eq_div_mul]
theorem le_lev (l : List UInt8) : le (lev l) l.length = l := by
  induction l with
  | nil => rfl
  | cons b l ih =>
    rw [List.length_cons, le_head, lev]
    have h := b.toNat_lt
    have e : (b.toNat + 256 * lev l) / 256 = lev l := by omega
    rw [e, ih]
    congr 1
    apply UInt8.toNat_inj.1
    simp
theorem le_inj {n m k : Nat} (hn : n < 256 ^ k) (hm : m < 256 ^ k) (h : le n k = le m k) : n = m := by
  have := congrArg lev h
  rwa [lev_le, lev_le, Nat.mod_eq_of_lt hn, Nat.mod_eq_of_lt hm] at this
/-- The highest first. -/
def be (n k : Nat) : List UInt8 := (le n k).reverse
theorem be_length (n k : Nat) : (be n k).length = k := by simp [be, le_length]
def bev (l : List UInt8) : Nat := lev l.reverse
theorem bev_be {n k : Nat} (h : n < 256 ^ k) : bev (be n k) = n := by
  unfold bev be
  rw [List.reverse_reverse, lev_le, Nat.mod_eq_of_lt h]
theorem be_bev (l : List UInt8) : be (bev l) l.length = l := by
  have h := le_lev l.reverse
  rw [List.length_reverse] at h
  unfold be bev
  rw [h, List.reverse_reverse]
theorem bev_lt (l : List UInt8) : bev l < 256 ^ l.length := by
  have := lev_lt l.reverse
  rwa [List.length_reverse] at this
theorem bev_snoc (l : List UInt8) (b : UInt8) : bev (l ++ [b]) = bev l * 256 + b.toNat := by
  unfold bev
  rw [List.reverse_append, List.reverse_singleton, List.singleton_append, lev]
  omega
/-- Where it is turned at its highest bit: a number with a sign as one without. -/
def up (n : Int) : Nat := (n + 9223372036854775808).toNat
theorem up_lt {n : Int} (h0 : -9223372036854775808 ≤ n) (h1 : n ≤ 9223372036854775807) : up n < 18446744073709551616 := by unfold up; omega
theorem xor_top (x : Nat) (hx : x < 18446744073709551616) : x ^^^ 9223372036854775808 = if x < 9223372036854775808 then x + 9223372036854775808 else x - 9223372036854775808 := by
  have e : (9223372036854775808 : Nat) = 2 ^ 63 := rfl
  split
  · rename_i h
    have h1 := Nat.two_pow_add_eq_or_of_lt (i := 63) (b := x) (by omega) 1
    rw [Nat.mul_one] at h1
    apply Nat.eq_of_testBit_eq
    intro i
    rw [e, Nat.testBit_xor, Nat.testBit_two_pow, Nat.add_comm, h1, Nat.testBit_or, Nat.testBit_two_pow]
    by_cases hi : 63 = i
    · subst hi
      simp [Nat.testBit_lt_two_pow (show x < 2 ^ 63 by omega)]
    · simp [hi]
  · rename_i h
    obtain ⟨y, rfl⟩ : ∃ y, x = 2 ^ 63 + y := ⟨x - 2 ^ 63, by omega⟩
    have hy : y < 2 ^ 63 := by omega
    have h1 := Nat.two_pow_add_eq_or_of_lt (i := 63) (b := y) hy 1
    rw [Nat.mul_one] at h1
    have e2 : 2 ^ 63 + y - 9223372036854775808 = y := by omega
    rw [e2]
    apply Nat.eq_of_testBit_eq
    intro i
    rw [e, Nat.testBit_xor, Nat.testBit_two_pow, h1, Nat.testBit_or, Nat.testBit_two_pow]
    by_cases hi : 63 = i
    · subst hi
      simp [Nat.testBit_lt_two_pow hy]
    · simp [hi]
theorem xor_u64 (a b : Nat) (ha : a < 18446744073709551616) (hb : b < 18446744073709551616) : Go.bits .xor .u64 (a : Int) (b : Int) = ((a ^^^ b : Nat) : Int) := by
  have hx : a ^^^ b < 2 ^ 64 := Nat.xor_lt_two_pow (show a < 2 ^ 64 by omega) (show b < 2 ^ 64 by omega)
  show IntKind.u64.wrap ((BitVec.ofInt 64 (a : Int) ^^^ BitVec.ofInt 64 (b : Int)).toNat : Int) = _
  rw [BitVec.toNat_xor, BitVec.ofInt_natCast, BitVec.ofInt_natCast, BitVec.toNat_ofNat, BitVec.toNat_ofNat, Nat.mod_eq_of_lt (by omega), Nat.mod_eq_of_lt (by omega)]
  simp only [IntKind.wrap, IntKind.bits, IntKind.signed]
  simp
  omega
theorem wrap_u64 (n : Int) : IntKind.u64.wrap n = n % 18446744073709551616 := by simp [IntKind.wrap, IntKind.bits, IntKind.signed]
/-- 'uint64(n) ^ 1<<63'. -/
theorem up_xor {n : Int} (h0 : -9223372036854775808 ≤ n) (h1 : n ≤ 9223372036854775807) : Go.bits .xor .u64 (IntKind.u64.wrap n) 9223372036854775808 = (up n : Int) := by
  rw [wrap_u64]
  obtain ⟨x, hx⟩ := Int.eq_ofNat_of_zero_le (Int.emod_nonneg n (show (18446744073709551616 : Int) ≠ 0 by decide))
  have hl := Int.emod_lt_of_pos n (show (0 : Int) < 18446744073709551616 by decide)
  rw [hx] at hl ⊢
  have h := xor_u64 x 9223372036854775808 (by omega) (by omega)
  rw [show ((9223372036854775808 : Nat) : Int) = (9223372036854775808 : Int) from rfl] at h
  rw [h, xor_top x (by omega)]
  unfold up
  split <;> omega
/-- 'int(u ^ 1<<63)'. -/
theorem down_xor {u : Nat} (h : u < 18446744073709551616) : wrap64 (Go.bits .xor .u64 (u : Int) 9223372036854775808) = (u : Int) - 9223372036854775808 := by
  have h2 := xor_u64 u 9223372036854775808 h (by omega)
  rw [show ((9223372036854775808 : Nat) : Int) = (9223372036854775808 : Int) from rfl] at h2
  rw [h2, xor_top u h]
  unfold wrap64
  split <;> omega
end Go.Proofs.Ytcfjooeagfollaa.Num
