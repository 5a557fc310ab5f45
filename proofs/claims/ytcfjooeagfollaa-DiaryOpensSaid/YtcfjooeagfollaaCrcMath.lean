/- The sum of bytes (CRC-32) as plain mathematics over BitVec 32: linear, one to one in its state; what is turned within four bytes is told. No program in sight. -/
import GoSem.Core.View
import Derived.Laws.BitsLemmas
namespace Go.Proofs.Ytcfjooeagfollaa.Crc
set_option linter.unusedSimpArgs false
set_option linter.unusedVariables false
set_option maxRecDepth 20000

def T (c : BitVec 32) : BitVec 32 := (c >>> 1) ^^^ (if c.getLsbD 0 then 0xEDB88320#32 else 0#32)

theorem T_xor (a b : BitVec 32) : T (a ^^^ b) = T a ^^^ T b := by
  unfold T
  rw [BitVec.getLsbD_xor, BitVec.ushiftRight_xor_distrib]
  cases a.getLsbD 0 <;> cases b.getLsbD 0 <;> ext i hi <;> simp <;> (try cases (a >>> 1).getLsbD i <;> cases (b >>> 1).getLsbD i <;> simp) <;> (try cases (a.getLsbD (1 + i)) <;> cases (b.getLsbD (1 + i)) <;> simp) <;> (try cases (0xEDB88320#32).getLsbD i <;> simp)

theorem T_zero : T 0 = 0 := by decide

theorem T_eq_zero {a : BitVec 32} (h : T a = 0) : a = 0 := by
  have h31 : (T a).getLsbD 31 = false := by rw [h]; simp
  unfold T at h31 h
  have h0 : a.getLsbD 0 = false := by
    cases hc : a.getLsbD 0 with
    | false => rfl
    | true =>
      rw [hc] at h31
      simp at h31
  rw [h0] at h
  simp at h
  apply BitVec.eq_of_getLsbD_eq
  intro i hi
  rcases i with _ | i
  · simpa using h0
  · have : (a >>> 1).getLsbD i = false := by rw [h]; simp
    rw [BitVec.getLsbD_ushiftRight] at this
    rw [show i + 1 = 1 + i from by omega, this]
    simp

theorem T_inj {a b : BitVec 32} (h : T a = T b) : a = b := by
  have : T (a ^^^ b) = 0 := by rw [T_xor, h]; simp
  have h2 := T_eq_zero this
  have h3 : a ^^^ b ^^^ b = 0 ^^^ b := by rw [h2]
  simpa [BitVec.xor_assoc] using h3

/-- n steps. -/
def TN : Nat → BitVec 32 → BitVec 32
  | 0, c => c
  | n + 1, c => TN n (T c)
theorem TN_xor (n : Nat) : ∀ a b : BitVec 32, TN n (a ^^^ b) = TN n a ^^^ TN n b := by
  induction n with
  | zero => intro a b; rfl
  | succ n ih => intro a b; simp only [TN]; rw [T_xor, ih]
theorem TN_inj (n : Nat) : ∀ {a b : BitVec 32}, TN n a = TN n b → a = b := by
  induction n with
  | zero => intro a b h; exact h
  | succ n ih => intro a b h; exact T_inj (ih h)
theorem TN_zero (n : Nat) : TN n 0 = 0 := by
  induction n with
  | zero => rfl
  | succ n ih => simp only [TN]; rw [T_zero, ih]
theorem TN_add (m n : Nat) : ∀ c : BitVec 32, TN (m + n) c = TN n (TN m c) := by
  induction m with
  | zero => intro c; rw [Nat.zero_add]; rfl
  | succ m ih => intro c; rw [show m + 1 + n = (m + n) + 1 from by omega]; simp only [TN]; rw [ih]

def step (c : BitVec 32) (b : UInt8) : BitVec 32 := TN 8 (c ^^^ b.toBitVec.setWidth 32)
def reg (c : BitVec 32) (l : List UInt8) : BitVec 32 := l.foldl step c
def ones : BitVec 32 := 0xFFFFFFFF#32
def sum (l : List UInt8) : BitVec 32 := reg ones l ^^^ ones
def byteOf (n : BitVec 32) (i : Nat) : UInt8 := UInt8.ofBitVec ((n >>> (8 * i)).setWidth 8)
def tail (n : BitVec 32) : List UInt8 := [byteOf n 0, byteOf n 1, byteOf n 2, byteOf n 3]
def sealed (l : List UInt8) : List UInt8 := l ++ tail (sum l)
def opened (l : List UInt8) : Option (List UInt8) := if l.length < 4 then none else if sealed (l.take (l.length - 4)) = l then some (l.take (l.length - 4)) else none

theorem reg_nil (c : BitVec 32) : reg c [] = c := rfl
theorem reg_cons (c : BitVec 32) (b : UInt8) (l : List UInt8) : reg c (b :: l) = reg (step c b) l := rfl
theorem reg_append (c : BitVec 32) (l m : List UInt8) : reg c (l ++ m) = reg (reg c l) m := List.foldl_append
theorem tail_length (n : BitVec 32) : (tail n).length = 4 := rfl
theorem sealed_length (l : List UInt8) : (sealed l).length = l.length + 4 := by simp [sealed, tail]

theorem step_xor (c d : BitVec 32) (a b : UInt8) : step (c ^^^ d) (a ^^^ b) = step c a ^^^ step d b := by
  unfold step
  rw [← TN_xor]
  congr 1
  rw [show (a ^^^ b).toBitVec = a.toBitVec ^^^ b.toBitVec from rfl, BitVec.setWidth_xor]
  ext i hi
  simp only [BitVec.getElem_xor]
  cases c[i] <;> cases d[i] <;> cases (BitVec.setWidth 32 a.toBitVec)[i] <;> cases (BitVec.setWidth 32 b.toBitVec)[i] <;> rfl

theorem reg_xor : ∀ (l m : List UInt8) (c d : BitVec 32), l.length = m.length → reg (c ^^^ d) (List.zipWith (· ^^^ ·) l m) = reg c l ^^^ reg d m
  | [], [], c, d, _ => rfl
  | [], _ :: _, _, _, h => by simp at h
  | _ :: _, [], _, _, h => by simp at h
  | a :: l, b :: m, c, d, h => by
    rw [List.zipWith_cons_cons, reg_cons, reg_cons, reg_cons, step_xor]
    exact reg_xor l m _ _ (by simpa using h)

/-- The sum of three texts of one length xor'ed. -/
theorem sum_xor3 (l m n : List UInt8) (h1 : l.length = m.length) (h2 : l.length = n.length) :
    sum (List.zipWith (· ^^^ ·) (List.zipWith (· ^^^ ·) l m) n) = sum l ^^^ sum m ^^^ sum n := by
  unfold sum
  have e : ones = ones ^^^ ones ^^^ ones := by decide
  have k := reg_xor (List.zipWith (· ^^^ ·) l m) n (ones ^^^ ones) ones (by rw [List.length_zipWith]; omega)
  rw [reg_xor l m ones ones h1, ← e] at k
  rw [k]
  generalize reg ones l = x; generalize reg ones m = y; generalize reg ones n = z
  ext i hi
  simp only [BitVec.getElem_xor]
  cases x[i] <;> cases y[i] <;> cases z[i] <;> cases ones[i] <;> rfl

/-- Zeros: the state goes on. -/
theorem reg_zero : ∀ (k : Nat) (c : BitVec 32), reg c (List.replicate k 0) = TN (8 * k) c := by
  intro k
  induction k with
  | zero => intro c; rfl
  | succ k ih =>
    intro c
    rw [List.replicate_succ, reg_cons, ih, show 8 * (k + 1) = 8 + 8 * k from by omega, TN_add]
    congr 1
    unfold step
    congr 1
    ext i hi
    simp

/-- A state whose highest bit is away, doubled, is halved. -/
theorem T_shl (x : BitVec 32) (h : x.getLsbD 31 = false) : T (x <<< 1) = x := by
  unfold T
  have h0 : (x <<< 1).getLsbD 0 = false := by simp
  rw [h0]
  simp only [Bool.false_eq_true, if_false]
  ext i hi
  simp only [BitVec.getElem_xor, BitVec.getElem_zero, BitVec.getElem_ushiftRight, BitVec.getLsbD_shiftLeft]
  rcases Nat.lt_or_ge i 31 with h3 | h3
  · have : 1 + i < 32 := by omega
    simp [this, BitVec.getLsbD_eq_getElem hi, show 1 + i - 1 = i from by omega]
  · have : i = 31 := by omega
    subst this
    rw [BitVec.getLsbD_eq_getElem (by decide)] at h
    rw [h]
    simp

theorem TN_shl (n : Nat) : ∀ (x : BitVec 32), (∀ j, j < n → x.getLsbD (31 - j) = false) → TN n (x <<< n) = x := by
  induction n with
  | zero => intro x _; simp [TN]
  | succ n ih =>
    intro x hx
    simp only [TN]
    have e : x <<< (n + 1) = (x <<< n) <<< 1 := by rw [BitVec.shiftLeft_add]
    rw [e]
    by_cases hn : n ≤ 31
    · rw [T_shl _ (by rw [BitVec.getLsbD_shiftLeft]; have := hx n (by omega); simp [this])]
      exact ih x (fun j hj => hx j (by omega))
    · have hz : x = 0 := by
        apply BitVec.eq_of_getLsbD_eq
        intro i hi
        have := hx (31 - i) (by omega)
        rw [show 31 - (31 - i) = i from by omega] at this
        rw [this]; simp
      rw [hz]
      have e0 : ∀ m : Nat, (0#32) <<< m = 0#32 := fun m => by simp
      show TN n (T (((0#32) <<< n) <<< 1)) = 0#32
      rw [e0, e0]
      exact TN_zero (n + 1)

/-- Four bytes, from a state. -/
def word (a b c d : UInt8) : BitVec 32 := a.toBitVec.setWidth 32 ^^^ b.toBitVec.setWidth 32 <<< 8 ^^^ c.toBitVec.setWidth 32 <<< 16 ^^^ d.toBitVec.setWidth 32 <<< 24

theorem byte_high (b : UInt8) (i : Nat) (h : 8 ≤ i) : (b.toBitVec.setWidth 32).getLsbD i = false := by
  rw [BitVec.getLsbD_setWidth, BitVec.getLsbD_of_ge _ _ h]
  simp

theorem reg_four (s : BitVec 32) (a b c d : UInt8) : reg s [a, b, c, d] = TN 32 (s ^^^ word a b c d) := by
  have e1 : TN 8 (b.toBitVec.setWidth 32 <<< 8) = b.toBitVec.setWidth 32 := TN_shl 8 _ (fun j hj => byte_high b _ (by omega))
  have e2 : TN 16 (c.toBitVec.setWidth 32 <<< 16) = c.toBitVec.setWidth 32 := TN_shl 16 _ (fun j hj => byte_high c _ (by omega))
  have e3 : TN 24 (d.toBitVec.setWidth 32 <<< 24) = d.toBitVec.setWidth 32 := TN_shl 24 _ (fun j hj => byte_high d _ (by omega))
  simp only [reg, List.foldl, step]
  have e32 : ∀ x : BitVec 32, TN 32 x = TN 8 (TN 8 (TN 8 (TN 8 x))) := fun x => by rw [← TN_add, ← TN_add, ← TN_add]
  rw [e32]
  unfold word
  simp only [TN_xor]
  rw [show TN 8 (TN 8 (TN 8 (d.toBitVec.setWidth 32 <<< 24))) = d.toBitVec.setWidth 32 from by rw [← TN_add, ← TN_add]; exact e3,
    show TN 8 (TN 8 (c.toBitVec.setWidth 32 <<< 16)) = c.toBitVec.setWidth 32 from by rw [← TN_add]; exact e2, e1]
  simp only [BitVec.xor_assoc]

theorem word_tail (n : BitVec 32) : word (byteOf n 0) (byteOf n 1) (byteOf n 2) (byteOf n 3) = n := by
  unfold word byteOf
  ext i hi
  simp only [BitVec.getElem_xor, BitVec.getElem_setWidth, BitVec.getElem_shiftLeft, UInt8.toBitVec_ofBitVec, BitVec.getLsbD_setWidth, BitVec.getLsbD_ushiftRight, BitVec.getLsbD_shiftLeft]
  rcases (show i < 8 ∨ (8 ≤ i ∧ i < 16) ∨ (16 ≤ i ∧ i < 24) ∨ (24 ≤ i ∧ i < 32) from by omega) with h | ⟨h, h'⟩ | ⟨h, h'⟩ | ⟨h, h'⟩
  · have a1 : i < 16 := by omega
    have a2 : i < 24 := by omega
    simp [h, a1, a2, BitVec.getLsbD_eq_getElem hi]
  · have a0 : ¬ i < 8 := by omega
    have a1 : i - 8 < 8 := by omega
    have a2 : i < 24 := by omega
    simp [h', a0, a1, a2, show 8 + (i - 8) = i from by omega, BitVec.getLsbD_eq_getElem hi]
  · have a0 : ¬ i < 8 := by omega
    have a1 : ¬ i < 16 := by omega
    have a2 : i - 16 < 8 := by omega
    have a3 : ¬ i - 8 < 8 := by omega
    simp [h', a0, a1, a2, a3, show 16 + (i - 16) = i from by omega, BitVec.getLsbD_eq_getElem hi]
  · have a0 : ¬ i < 8 := by omega
    have a1 : ¬ i < 16 := by omega
    have a2 : ¬ i < 24 := by omega
    have a3 : i - 24 < 8 := by omega
    have a4 : ¬ i - 8 < 8 := by omega
    have a5 : ¬ i - 16 < 8 := by omega
    simp [a0, a1, a2, a3, a4, a5, show 24 + (i - 24) = i from by omega, BitVec.getLsbD_eq_getElem hi]

theorem byteOf_word (a b c d : UInt8) : tail (word a b c d) = [a, b, c, d] := by
  have key : ∀ (x y : UInt8), (∀ i, i < 8 → x.toBitVec.getLsbD i = y.toBitVec.getLsbD i) → x = y := by
    intro x y h
    have : x.toBitVec = y.toBitVec := BitVec.eq_of_getLsbD_eq (fun i hi => h i hi)
    cases x; cases y; simp_all
  unfold tail
  congr 1
  · refine key _ _ (fun i hi => ?_)
    simp [byteOf, word, hi, show i < 16 from by omega, show i < 24 from by omega, show i < 32 from by omega]
  congr 1
  · refine key _ _ (fun i hi => ?_)
    have e : a.toBitVec.getLsbD (8 + i) = false := BitVec.getLsbD_of_ge _ _ (by omega)
    simp [byteOf, word, hi, show 8 + i < 16 from by omega, show 8 + i < 24 from by omega, show 8 + i < 32 from by omega, show ¬ 8 + i < 8 from by omega, show 8 + i - 8 = i from by omega, e]
  congr 1
  · refine key _ _ (fun i hi => ?_)
    have e : a.toBitVec.getLsbD (16 + i) = false := BitVec.getLsbD_of_ge _ _ (by omega)
    have e2 : b.toBitVec.getLsbD (16 + i - 8) = false := BitVec.getLsbD_of_ge _ _ (by omega)
    simp [byteOf, word, hi, show ¬ 16 + i < 16 from by omega, show 16 + i < 24 from by omega, show 16 + i < 32 from by omega, show ¬ 16 + i < 8 from by omega, show 16 + i - 16 = i from by omega, e, e2]
  congr 1
  · refine key _ _ (fun i hi => ?_)
    have e : a.toBitVec.getLsbD (24 + i) = false := BitVec.getLsbD_of_ge _ _ (by omega)
    have e2 : b.toBitVec.getLsbD (24 + i - 8) = false := BitVec.getLsbD_of_ge _ _ (by omega)
    have e3 : c.toBitVec.getLsbD (24 + i - 16) = false := BitVec.getLsbD_of_ge _ _ (by omega)
    simp [byteOf, word, hi, show ¬ 24 + i < 16 from by omega, show ¬ 24 + i < 24 from by omega, show 24 + i < 32 from by omega, show ¬ 24 + i < 8 from by omega, show 24 + i - 24 = i from by omega, e, e2, e3]

/-- What every sealed text comes to, and no other text. -/
theorem sealed_iff (l : List UInt8) (a b c d : UInt8) : l ++ [a, b, c, d] = sealed l ↔ reg ones (l ++ [a, b, c, d]) = TN 32 ones := by
  rw [reg_append, reg_four]
  unfold sealed
  constructor
  · intro h
    have h2 := List.append_cancel_left h
    unfold tail at h2
    simp only [List.cons.injEq, and_true] at h2
    obtain ⟨rfl, rfl, rfl, rfl⟩ := h2
    rw [word_tail]
    unfold sum
    congr 1
    generalize reg ones l = x
    ext i hi
    simp only [BitVec.getElem_xor]
    cases x[i] <;> cases ones[i] <;> rfl
  · intro h
    have h2 := TN_inj 32 h
    have h3 : word a b c d = sum l := by
      unfold sum
      have k : ∀ x y z : BitVec 32, x ^^^ y = z → y = x ^^^ z := by
        intro x y z h
        rw [← h, ← BitVec.xor_assoc]
        simp
      exact k _ _ _ h2
    rw [← h3, byteOf_word]

theorem split4 (l : List UInt8) (h : 4 ≤ l.length) : ∃ a b c d, l = l.take (l.length - 4) ++ [a, b, c, d] := by
  have e := List.take_append_drop (l.length - 4) l
  have hl : (l.drop (l.length - 4)).length = 4 := by rw [List.length_drop]; omega
  match hd : l.drop (l.length - 4), hl with
  | [a, b, c, d], _ => exact ⟨a, b, c, d, by rw [← hd, e]⟩

theorem opened_iff (l : List UInt8) (h : 4 ≤ l.length) : (opened l).isSome ↔ reg ones l = TN 32 ones := by
  obtain ⟨a, b, c, d, e⟩ := split4 l h
  unfold opened
  rw [if_neg (by omega)]
  generalize hm : l.take (l.length - 4) = m at e
  constructor
  · intro h2
    split at h2
    · rename_i h3
      have := (sealed_iff m a b c d).1 (by rw [← e, h3])
      rw [← e] at this
      exact this
    · simp at h2
  · intro h2
    rw [if_pos]
    · rfl
    · rw [e] at h2 ⊢
      exact ((sealed_iff m a b c d).2 h2).symm

theorem opened_sealed (l : List UInt8) : opened (sealed l) = some l := by
  unfold opened
  have h1 := sealed_length l
  have h2 : (sealed l).take ((sealed l).length - 4) = l := by
    rw [h1]
    simp [sealed]
  rw [if_neg (by omega), h2, if_pos rfl]

/-- What was turned within four bytes isn't opened. -/
theorem turned (p q : List UInt8) (a b c d a' b' c' d' : UInt8) (h : (opened (p ++ [a, b, c, d] ++ q)).isSome) (h' : (opened (p ++ [a', b', c', d'] ++ q)).isSome) :
    [a, b, c, d] = [a', b', c', d'] := by
  rw [opened_iff _ (by simp; omega)] at h h'
  rw [← h'] at h
  rw [reg_append, reg_append, reg_append, reg_append, reg_four, reg_four] at h
  have inj : ∀ (q : List UInt8) (x y : BitVec 32), reg x q = reg y q → x = y := by
    intro q
    induction q with
    | nil => intro x y h; exact h
    | cons b q ih =>
      intro x y h
      rw [reg_cons, reg_cons] at h
      have h2 := TN_inj 8 (ih _ _ h)
      have h3 : x ^^^ b.toBitVec.setWidth 32 ^^^ b.toBitVec.setWidth 32 = y ^^^ b.toBitVec.setWidth 32 ^^^ b.toBitVec.setWidth 32 := by rw [h2]
      simpa [BitVec.xor_assoc] using h3
  have h2 := TN_inj 32 (inj q _ _ h)
  have h3 : word a b c d = word a' b' c' d' := by
    have : reg ones p ^^^ (reg ones p ^^^ word a b c d) = reg ones p ^^^ (reg ones p ^^^ word a' b' c' d') := by rw [h2]
    simpa [← BitVec.xor_assoc] using this
  rw [← byteOf_word a b c d, ← byteOf_word a' b' c' d', h3]

/-- As Go's numbers. -/
def num (c : BitVec 32) : Int := (c.toNat : Int)
theorem num_range (c : BitVec 32) : 0 ≤ num c ∧ num c < 4294967296 := by unfold num; have := c.isLt; omega
theorem num_inj {a b : BitVec 32} (h : num a = num b) : a = b := BitVec.eq_of_toNat_eq (by unfold num at h; omega)
theorem ofInt_num (c : BitVec 32) : BitVec.ofInt 32 (num c) = c := by
  unfold num
  rw [BitVec.ofInt_natCast]
  apply BitVec.eq_of_toNat_eq
  simp
theorem num_of {n : Int} (h0 : 0 ≤ n) (h1 : n < 4294967296) : num (BitVec.ofInt 32 n) = n := by
  unfold num
  obtain ⟨a, rfl⟩ := Int.eq_ofNat_of_zero_le h0
  rw [BitVec.ofInt_natCast, BitVec.toNat_ofNat]
  omega
theorem wrap_num (c : BitVec 32) : IntKind.u32.wrap ((c.toNat : Nat) : Int) = num c := by
  rw [IntKind.wrap_u32]
  have := c.isLt
  unfold num
  omega
theorem xor_num (a b : BitVec 32) : Go.bits .xor .u32 (num a) (num b) = num (a ^^^ b) := by
  show IntKind.u32.wrap ((BitVec.ofInt 32 (num a) ^^^ BitVec.ofInt 32 (num b)).toNat : Int) = _
  rw [ofInt_num, ofInt_num, wrap_num]
theorem and_num (a b : BitVec 32) : Go.bits .and .u32 (num a) (num b) = num (a &&& b) := by
  show IntKind.u32.wrap ((BitVec.ofInt 32 (num a) &&& BitVec.ofInt 32 (num b)).toNat : Int) = _
  rw [ofInt_num, ofInt_num, wrap_num]
theorem half_num (a : BitVec 32) : num a / (2 : Int) = num (a >>> 1) := by
  unfold num
  rw [BitVec.toNat_ushiftRight, Nat.shiftRight_eq_div_pow]
  norm_cast
theorem low_num (a : BitVec 32) : Go.bits .and .u32 (num a) 1 = if a.getLsbD 0 then 1 else 0 := by
  have h : (1 : Int) = num 1#32 := rfl
  rw [h, and_num]
  have : a &&& 1#32 = if a.getLsbD 0 then 1#32 else 0#32 := by
    ext i hi
    rcases i with _ | i
    · cases hc : a.getLsbD 0 <;> simp_all [BitVec.getLsbD_eq_getElem]
    · cases hc : a.getLsbD 0 <;> simp
  rw [this]
  cases a.getLsbD 0 <;> rfl
theorem byte_num (b : UInt8) : ((b.toNat : Nat) : Int) % 4294967296 = num (b.toBitVec.setWidth 32) := by
  unfold num
  have h1 : b.toBitVec.toNat = b.toNat := rfl
  have := b.toBitVec.isLt
  rw [BitVec.toNat_setWidth, h1]
  omega

end Go.Proofs.Ytcfjooeagfollaa.Crc
