/- Modes of locks: plain mathematics, by lists. -/
import GoSem.Core.View
import Derived.Laws.BitsLemmas
namespace Go.Proofs.Ytlcjiofdbalplaa.Mode
set_option linter.unusedSimpArgs false
set_option linter.unusedVariables false

def nine : List Int := [1, 2, 3, 4, 5, 6, 7, 8, 9]
def goesL : List (Int × Int) := [(1, 1), (1, 2), (1, 3), (1, 4), (2, 2), (3, 3), (3, 4), (6, 6), (7, 7), (8, 8)]
def coversL : List (Int × Int) := [(2, 1), (3, 1), (4, 1), (5, 1), (5, 2), (4, 3), (5, 3), (5, 4), (5, 6), (9, 7), (9, 8)]
def good (a : Int) : Bool := decide (1 ≤ a) && decide (a ≤ 9)
def hasPair (l : List (Int × Int)) (a b : Int) : Bool := l.any fun p => p.1 == a && p.2 == b
def goes (a b : Int) : Bool := hasPair goesL a b || hasPair goesL b a
def covers (a b : Int) : Bool := good a && a == b || hasPair coversL a b
/-- c is above both, and below all that are. -/
def isLeast (a b c : Int) : Bool := nine.all fun d => !(covers d a && covers d b && !covers d c)
def join (a b : Int) : Int := (nine.find? fun c => covers c a && covers c b && isLeast a b c).getD 0
def fr (a : Int) : Int := if a = 1 then 30 else if a = 2 then 6 else if a = 3 then 26 else if a = 4 then 10 else if a = 6 then 64 else if a = 7 then 128 else if a = 8 then 256 else 0
def bl (a : Int) : Int := if a = 1 then 2 else if a = 6 then 64 else if a = 7 then 128 else if a = 8 then 256 else if a = 2 then 6 else if a = 3 then 10 else if a = 4 then 26 else if a = 5 then 126 else if a = 9 then 896 else 0

theorem good_mem {a : Int} (h : good a = true) : a ∈ nine := by
  simp only [good, Bool.and_eq_true, decide_eq_true_eq] at h
  obtain ⟨h1, h2⟩ := h
  rcases (by omega : a = 1 ∨ a = 2 ∨ a = 3 ∨ a = 4 ∨ a = 5 ∨ a = 6 ∨ a = 7 ∨ a = 8 ∨ a = 9) with rfl | rfl | rfl | rfl | rfl | rfl | rfl | rfl | rfl <;> decide
theorem goes_bits : ∀ a ∈ nine, ∀ b ∈ nine, (Go.bits .and .i64 (fr a) (2 ^ b.toNat) != 0) = goes a b := by decide +kernel
theorem covers_bits : ∀ a ∈ nine, ∀ b ∈ nine, (Go.bits .and .i64 (bl a) (2 ^ b.toNat) != 0) = covers a b := by decide +kernel
theorem list_good (l : List (Int × Int)) (hl : l.all (fun p => good p.1 && good p.2) = true) {a b : Int} (h : hasPair l a b = true) : good a = true ∧ good b = true := by
  unfold hasPair at h
  rw [List.any_eq_true] at h
  obtain ⟨p, hp, h⟩ := h
  rw [List.all_eq_true] at hl
  have := hl p hp
  simp only [Bool.and_eq_true, beq_iff_eq] at h this
  rw [← h.1, ← h.2]
  exact this
theorem goes_good {a b : Int} (h : goes a b = true) : good a = true ∧ good b = true := by
  unfold goes at h
  rw [Bool.or_eq_true] at h
  rcases h with h | h
  · exact list_good goesL (by decide) h
  · exact (list_good goesL (by decide) h).symm
theorem covers_good {a b : Int} (h : covers a b = true) : good a = true ∧ good b = true := by
  unfold covers at h
  rw [Bool.or_eq_true, Bool.and_eq_true, beq_iff_eq] at h
  rcases h with ⟨h, rfl⟩ | h
  · exact ⟨h, h⟩
  · exact list_good coversL (by decide) h
theorem goes_bad {a b : Int} (h : good a = false ∨ good b = false) : goes a b = false := by
  cases hc : goes a b with
  | false => rfl
  | true => have := goes_good hc; rcases h with h | h <;> simp_all
theorem covers_bad {a b : Int} (h : good a = false ∨ good b = false) : covers a b = false := by
  cases hc : covers a b with
  | false => rfl
  | true => have := covers_good hc; rcases h with h | h <;> simp_all
theorem join_bad {a b : Int} (h : good a = false ∨ good b = false) : join a b = 0 := by
  unfold join
  have : (nine.find? fun c => covers c a && covers c b && isLeast a b c) = none := by
    rw [List.find?_eq_none]
    intro c _
    rcases h with h | h
    · rw [covers_bad (.inr h)]; simp
    · rw [covers_bad (a := c) (b := b) (.inr h)]; simp
  rw [this]
  rfl
/-- The program's way to join. -/
def joinBy (a b : Int) : Int := if covers a b then a else if covers b a then b else if covers 5 a && covers 5 b then 5 else if covers 9 a && covers 9 b then 9 else 0
theorem joinBy_eq : ∀ a ∈ nine, ∀ b ∈ nine, joinBy a b = join a b := by decide +kernel

/-- A number, or none of the modes. -/
def nm (a : Int) : Int := if good a then a else 0
theorem nm_good {a : Int} (h : good a = true) : nm a = a := by unfold nm; rw [if_pos h]
theorem nm_mem (a : Int) : nm a = 0 ∨ nm a ∈ nine := by
  unfold nm
  cases h : good a with
  | true => right; rw [if_pos rfl]; exact good_mem h
  | false => left; simp

/-- What the laws say, of numbers 0 to 9. -/
def ten : List Int := 0 :: nine
def joinsOk (a b c : Int) : Bool :=
  let x := join a b
  let y := join b c
  if x != join b a || good a && join a a != a || x != 0 && (!good a || !good b) then false else
  if x != 0 && (!covers x a || !covers x b || goes x c && (!goes a c || !goes b c)) then false else
  if covers c a && covers c b && !covers c x then false else
  x == 0 || y == 0 || join x c == join a y
def orderOk (a b c : Int) : Bool :=
  if good a != covers a a || goes a b != goes b a then false else
  if covers a b && covers b a && a != b || covers a b && covers b c && !covers a c then false else
  !covers a b || !goes a c || goes b c
theorem joins_ten : ∀ a ∈ ten, ∀ b ∈ ten, ∀ c ∈ ten, joinsOk a b c = true := by decide +kernel
theorem order_ten : ∀ a ∈ ten, ∀ b ∈ ten, ∀ c ∈ ten, orderOk a b c = true := by decide +kernel
theorem bad_zero : good 0 = false := by decide
section
variable {a : Int} (h : good a = false)
include h
theorem cov1 (z : Int) : covers a z = covers 0 z := by rw [covers_bad (.inl h), covers_bad (.inl bad_zero)]
theorem cov2 (z : Int) : covers z a = covers z 0 := by rw [covers_bad (.inr h), covers_bad (.inr bad_zero)]
theorem go1 (z : Int) : goes a z = goes 0 z := by rw [goes_bad (.inl h), goes_bad (.inl bad_zero)]
theorem go2 (z : Int) : goes z a = goes z 0 := by rw [goes_bad (.inr h), goes_bad (.inr bad_zero)]
theorem jo1 (z : Int) : join a z = join 0 z := by rw [join_bad (.inl h), join_bad (.inl bad_zero)]
theorem jo2 (z : Int) : join z a = join z 0 := by rw [join_bad (.inr h), join_bad (.inr bad_zero)]
theorem joins_a (b c : Int) : joinsOk a b c = joinsOk 0 b c := by
  unfold joinsOk
  simp only [cov1 h, cov2 h, go1 h, go2 h, jo1 h, jo2 h, h, bad_zero, Bool.false_and]
theorem joins_b (b c : Int) : joinsOk b a c = joinsOk b 0 c := by
  unfold joinsOk
  simp only [cov1 h, cov2 h, go1 h, go2 h, jo1 h, jo2 h, h, bad_zero, Bool.false_and]
theorem joins_c (b c : Int) : joinsOk b c a = joinsOk b c 0 := by
  unfold joinsOk
  simp only [cov1 h, cov2 h, go1 h, go2 h, jo1 h, jo2 h, h, bad_zero, Bool.false_and]
theorem order_a (b c : Int) : orderOk a b c = orderOk 0 b c := by
  unfold orderOk
  simp only [cov1 h, cov2 h, go1 h, go2 h, h, bad_zero, covers_bad (a := 0) (.inl bad_zero), goes_bad (a := 0) (.inl bad_zero), Bool.false_and]
theorem order_b (b c : Int) : orderOk b a c = orderOk b 0 c := by
  unfold orderOk
  simp only [cov1 h, cov2 h, go1 h, go2 h, h, bad_zero, covers_bad (b := 0) (.inr bad_zero), goes_bad (b := 0) (.inr bad_zero), Bool.false_and]
theorem order_c (b c : Int) : orderOk b c a = orderOk b c 0 := by
  unfold orderOk
  simp only [cov1 h, cov2 h, go1 h, go2 h]
end
theorem ten_or (a : Int) : a ∈ ten ∨ good a = false := by
  cases h : good a with
  | false => exact .inr rfl
  | true => exact .inl (List.mem_cons_of_mem _ (good_mem h))
theorem joins_all (a b c : Int) : joinsOk a b c = true := by
  have z : (0 : Int) ∈ ten := List.mem_cons_self
  rcases ten_or a with ha | ha <;> rcases ten_or b with hb | hb <;> rcases ten_or c with hc | hc
  · exact joins_ten a ha b hb c hc
  · rw [joins_c hc]; exact joins_ten a ha b hb 0 z
  · rw [joins_b hb]; exact joins_ten a ha 0 z c hc
  · rw [joins_b hb, joins_c hc]; exact joins_ten a ha 0 z 0 z
  · rw [joins_a ha]; exact joins_ten 0 z b hb c hc
  · rw [joins_a ha, joins_c hc]; exact joins_ten 0 z b hb 0 z
  · rw [joins_a ha, joins_b hb]; exact joins_ten 0 z 0 z c hc
  · rw [joins_a ha, joins_b hb, joins_c hc]; exact joins_ten 0 z 0 z 0 z
theorem order_all (a b c : Int) : orderOk a b c = true := by
  have z : (0 : Int) ∈ ten := List.mem_cons_self
  rcases ten_or a with ha | ha <;> rcases ten_or b with hb | hb <;> rcases ten_or c with hc | hc
  · exact order_ten a ha b hb c hc
  · rw [order_c hc]; exact order_ten a ha b hb 0 z
  · rw [order_b hb]; exact order_ten a ha 0 z c hc
  · rw [order_b hb, order_c hc]; exact order_ten a ha 0 z 0 z
  · rw [order_a ha]; exact order_ten 0 z b hb c hc
  · rw [order_a ha, order_c hc]; exact order_ten 0 z b hb 0 z
  · rw [order_a ha, order_b hb]; exact order_ten 0 z 0 z c hc
  · rw [order_a ha, order_b hb, order_c hc]; exact order_ten 0 z 0 z 0 z
end Go.Proofs.Ytlcjiofdbalplaa.Mode
