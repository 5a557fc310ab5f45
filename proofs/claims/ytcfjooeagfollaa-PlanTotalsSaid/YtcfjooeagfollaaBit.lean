/- Numbers as rows of bits: plain laws. -/
import Derived.Test.YtcfjooeagfollaaWide
namespace Go.Proofs.Ytcfjooeagfollaa.Wide
open Go.RowKit Go.Proofs.Ytcfjooeagfollaa.Mem Go.Proofs.Ytcfjooeagfollaa.Bytes Go.Proofs.Ytcfjooeagfollaa.Num
set_option linter.unusedSimpArgs false
set_option linter.unusedVariables false
set_option maxRecDepth 20000

/-- The number of bits, the lowest first. -/
def natOf : List Bool → Nat
  | [] => 0
  | b :: l => b.toNat + 2 * natOf l
def bitsOf (n k : Nat) : List Bool := (List.range k).map fun i => decide (n / 2 ^ i % 2 = 1)
theorem bitsOf_length (n k : Nat) : (bitsOf n k).length = k := by simp [bitsOf]
theorem natOf_append (l m : List Bool) : natOf (l ++ m) = natOf l + 2 ^ l.length * natOf m := by
  induction l with
  | nil => simp [natOf]
  | cons b l ih =>
    rw [List.cons_append, natOf, natOf, ih, List.length_cons, Nat.pow_succ, Nat.mul_add]
    have : 2 * (2 ^ l.length * natOf m) = 2 ^ l.length * 2 * natOf m := by rw [Nat.mul_comm (2 ^ l.length) 2, Nat.mul_assoc]
    omega
theorem natOf_lt (l : List Bool) : natOf l < 2 ^ l.length := by
  induction l with
  | nil => simp [natOf]
  | cons b l ih =>
    rw [natOf, List.length_cons, Nat.pow_succ]
    cases b <;> simp <;> omega
theorem bitsOf_succ (n k : Nat) : bitsOf n (k + 1) = decide (n % 2 = 1) :: bitsOf (n / 2) k := by
  unfold bitsOf
  rw [List.range_succ_eq_map, List.map_cons, List.map_map]
  congr 1
  · simp
  · apply List.map_congr_left
    intro i _
    simp only [Function.comp]
    rw [Nat.pow_succ, Nat.mul_comm, Nat.div_div_eq_div_mul]
theorem natOf_bits : ∀ (k n : Nat), natOf (bitsOf n k) = n % 2 ^ k
  | 0, n => by simp [bitsOf, natOf, Nat.mod_one]
  | k + 1, n => by
    rw [bitsOf_succ, natOf, natOf_bits k, Nat.pow_succ, Nat.mul_comm (2 ^ k) 2, Nat.mod_mul]
    have h : (decide (n % 2 = 1)).toNat = n % 2 := by
      rcases (by omega : n % 2 = 0 ∨ n % 2 = 1) with h | h <;> rw [h] <;> rfl
    rw [h]
/-- Bit by bit. -/
def cnt3 (a b c : Bool) : Nat := a.toNat + b.toNat + c.toNat
def addC : List Bool → List Bool → Bool → List Bool
  | a :: l, b :: m, c => (cnt3 a b c == 1 || cnt3 a b c == 3) :: addC l m (decide (2 ≤ cnt3 a b c))
  | _, _, _ => []
theorem addC_length : ∀ (l m : List Bool) (c : Bool), l.length = m.length → (addC l m c).length = l.length
  | [], [], _, _ => rfl
  | a :: l, b :: m, c, h => by rw [addC, List.length_cons, addC_length l m _ (by simpa using h), List.length_cons]
  | [], _ :: _, _, h => by simp at h
  | _ :: _, [], _, h => by simp at h
theorem natOf_addC : ∀ (l m : List Bool) (c : Bool), l.length = m.length → natOf (addC l m c) = (natOf l + natOf m + c.toNat) % 2 ^ l.length
  | [], [], c, _ => by simp [addC, natOf, Nat.mod_one]
  | a :: l, b :: m, c, h => by
    have hl : l.length = m.length := by simpa using h
    rw [addC, natOf, natOf_addC l m _ hl, natOf, natOf, List.length_cons, Nat.pow_succ, Nat.mul_comm (2 ^ l.length) 2]
    generalize natOf l = x
    generalize natOf m = y
    generalize 2 ^ l.length = p
    have e : a.toNat + 2 * x + (b.toNat + 2 * y) + c.toNat = cnt3 a b c + 2 * (x + y) := by unfold cnt3; omega
    rw [e, Nat.mod_mul]
    have h3 : cnt3 a b c ≤ 3 := by cases a <;> cases b <;> cases c <;> decide
    generalize cnt3 a b c = n at *
    rcases (by omega : n = 0 ∨ n = 1 ∨ n = 2 ∨ n = 3) with h | h | h | h <;> subst h
    · simp
    · simp
      have : (1 + 2 * (x + y)) % 2 = 1 := by omega
      have h2 : (1 + 2 * (x + y)) / 2 = x + y := by omega
      rw [h2]
    · simp
    · simp
      have : (3 + 2 * (x + y)) % 2 = 1 := by omega
      have h2 : (3 + 2 * (x + y)) / 2 = x + y + 1 := by omega
      rw [h2]
  | [], _ :: _, _, h => by simp at h
  | _ :: _, [], _, h => by simp at h
def Wd.bits (a : Wd) : List Bool := bitsOf a.lo.toNat 64 ++ bitsOf a.top 64
theorem Wd.bits_length (a : Wd) : a.bits.length = 128 := by rw [Wd.bits, List.length_append, bitsOf_length, bitsOf_length]
def ofBits (l : List Bool) : Wd := ⟨wrap64 (natOf (l.drop 64) : Int), (natOf (l.take 64) : Int)⟩
theorem natOf_wbits {a : Wd} (h : a.fits) : natOf a.bits = a.lo.toNat + 18446744073709551616 * a.top := by
  have ht := a.top_lt
  rw [Wd.bits, natOf_append, natOf_bits, natOf_bits, bitsOf_length]
  obtain ⟨h1, h2, h3, h4⟩ := h
  rw [Nat.mod_eq_of_lt (by omega), Nat.mod_eq_of_lt (by omega)]
theorem add_bits {a b : Wd} (ha : a.fits) (hb : b.fits) : ofBits (addC a.bits b.bits false) = a.add b := by
  have hl : a.bits.length = b.bits.length := by rw [Wd.bits_length, Wd.bits_length]
  have hn := natOf_addC a.bits b.bits false hl
  have hlen := addC_length a.bits b.bits false hl
  rw [Wd.bits_length] at hn hlen
  rw [natOf_wbits ha, natOf_wbits hb] at hn
  generalize addC a.bits b.bits false = L at *
  have hs : natOf L = natOf (L.take 64) + 18446744073709551616 * natOf (L.drop 64) := by
    have := natOf_append (L.take 64) (L.drop 64)
    rw [List.take_append_drop, List.length_take, hlen] at this
    exact this
  have k1 := natOf_lt (L.take 64)
  have k2 := natOf_lt (L.drop 64)
  rw [List.length_take, hlen] at k1
  rw [List.length_drop, hlen] at k2
  unfold ofBits
  generalize natOf (L.take 64) = x at *
  generalize natOf (L.drop 64) = y at *
  obtain ⟨a1, a2, a3, a4⟩ := ha
  obtain ⟨b1, b2, b3, b4⟩ := hb
  obtain ⟨h1, l1⟩ := a
  obtain ⟨h2, l2⟩ := b
  unfold Wd.top at hn
  simp only at a1 a2 a3 a4 b1 b2 b3 b4 hn
  unfold Wd.add wrap64
  simp only [Wd.mk.injEq]
  rw [hs] at hn
  have e64 : (2 : Nat) ^ 128 = 340282366920938463463374607431768211456 := by decide
  rw [e64] at hn
  simp only [Bool.toNat_false, Nat.add_zero] at hn
  have k1' : x < 18446744073709551616 := by simpa using k1
  have k2' : y < 18446744073709551616 := by simpa using k2
  clear hs hlen hl k1 k2 e64
  constructor <;> omega
end Go.Proofs.Ytcfjooeagfollaa.Wide
