/- Four bytes of a text turned: plain mathematics. -/
import Derived.Test.YtebmalmciakhcaaCrcMath
namespace Go.Proofs.Ytebmalmciakhcaa.Crc
set_option linter.unusedSimpArgs false
set_option linter.unusedVariables false

/-- Of the bytes from k on the first j are turned by m's bytes. -/
def flip (l : List UInt8) (k j : Nat) (m : BitVec 32) : List UInt8 := l.mapIdx fun p x => if k ≤ p ∧ p < k + j then x ^^^ byteOf m (p - k) else x

theorem flip_length (l : List UInt8) (k j : Nat) (m : BitVec 32) : (flip l k j m).length = l.length := by simp [flip]
theorem flip_zero (l : List UInt8) (k : Nat) (m : BitVec 32) : flip l k 0 m = l := by
  apply List.ext_getElem?
  intro i
  simp only [flip, List.getElem?_mapIdx]
  cases l[i]? with
  | none => rfl
  | some x => simp only [Option.map_some]; rw [if_neg (by omega)]
theorem flip_at (l : List UInt8) (k j : Nat) (m : BitVec 32) : (flip l k j m)[k + j]? = l[k + j]? := by
  simp only [flip, List.getElem?_mapIdx]
  cases l[k + j]? with
  | none => rfl
  | some x => simp only [Option.map_some]; rw [if_neg (by omega)]
theorem flip_succ (l : List UInt8) (k j : Nat) (m : BitVec 32) (x : UInt8) (h : l[k + j]? = some x) : flip l k (j + 1) m = (flip l k j m).set (k + j) (x ^^^ byteOf m j) := by
  apply List.ext_getElem?
  intro i
  rw [List.getElem?_set]
  by_cases hi : k + j = i
  · subst hi
    have hl : k + j < l.length := by
      rcases Nat.lt_or_ge (k + j) l.length with h' | h'
      · exact h'
      · rw [List.getElem?_eq_none h'] at h; cases h
    rw [if_pos rfl, flip_length, if_pos hl]
    simp only [flip, List.getElem?_mapIdx, h, Option.map_some]
    rw [if_pos (by omega), show k + j - k = j from by omega]
  · rw [if_neg hi]
    simp only [flip, List.getElem?_mapIdx]
    cases l[i]? with
    | none => rfl
    | some y =>
      simp only [Option.map_some]
      by_cases hc : k ≤ i ∧ i < k + j
      · rw [if_pos (by omega), if_pos hc]
      · rw [if_neg (by omega), if_neg hc]

theorem flip_nothing (l : List UInt8) (k j : Nat) : flip l k j 0 = l := by
  apply List.ext_getElem?
  intro i
  simp only [flip, List.getElem?_mapIdx]
  cases l[i]? with
  | none => rfl
  | some x =>
    simp only [Option.map_some]
    split
    · have : byteOf 0 (i - k) = 0 := by simp [byteOf]
      rw [this]
      simp
    · rfl

theorem four (l : List UInt8) (k : Nat) (h : k + 4 ≤ l.length) : ∃ a b c d, l = l.take k ++ [a, b, c, d] ++ l.drop (k + 4) := by
  have e1 : l.take k ++ l.drop k = l := List.take_append_drop k l
  have e2 : (l.drop k).take 4 ++ (l.drop k).drop 4 = l.drop k := List.take_append_drop 4 _
  have hl : ((l.drop k).take 4).length = 4 := by rw [List.length_take, List.length_drop]; omega
  match hd : (l.drop k).take 4, hl with
  | [a, b, c, d], _ =>
    refine ⟨a, b, c, d, ?_⟩
    rw [hd, List.drop_drop] at e2
    rw [List.append_assoc, e2, e1]

theorem flip_four (p q : List UInt8) (a b c d : UInt8) (m : BitVec 32) : flip (p ++ [a, b, c, d] ++ q) p.length 4 m = p ++ [a ^^^ byteOf m 0, b ^^^ byteOf m 1, c ^^^ byteOf m 2, d ^^^ byteOf m 3] ++ q := by
  have e : ∀ (r : List UInt8) (j : Nat), (p ++ r)[p.length + j]? = r[j]? := fun r j => by rw [List.getElem?_append_right (by omega), show p.length + j - p.length = j from by omega]
  apply List.ext_getElem?
  intro i
  simp only [flip, List.getElem?_mapIdx]
  rcases (by omega : i < p.length ∨ i = p.length ∨ i = p.length + 1 ∨ i = p.length + 2 ∨ i = p.length + 3 ∨ p.length + 4 ≤ i) with h | h | h | h | h | h
  · rw [List.append_assoc, List.append_assoc, List.getElem?_append_left h, List.getElem?_append_left h, List.getElem?_eq_getElem h]
    simp only [Option.map_some]
    rw [if_neg (by omega)]
  · subst h
    rw [List.append_assoc, List.append_assoc, show p.length = p.length + 0 from rfl, e, e]
    simp
  · subst h
    rw [List.append_assoc, List.append_assoc, e, e]
    simp
  · subst h
    rw [List.append_assoc, List.append_assoc, e, e]
    simp
  · subst h
    rw [List.append_assoc, List.append_assoc, e, e]
    simp
  · obtain ⟨j, rfl⟩ : ∃ j, i = p.length + (4 + j) := ⟨i - (p.length + 4), by omega⟩
    rw [List.append_assoc, List.append_assoc, e, e, show 4 + j = j + 4 from by omega]
    simp only [List.cons_append, List.nil_append, List.getElem?_cons_succ]
    cases q[j]? with
    | none => rfl
    | some y => simp only [Option.map_some]; rw [if_neg (by omega)]

theorem xor_byte_eq (a b : UInt8) (h : a = a ^^^ b) : b = 0 := by
  have : a ^^^ a = a ^^^ (a ^^^ b) := by rw [← h]
  rw [← UInt8.xor_assoc] at this
  simpa using this.symm

/-- What is opened isn't, once it was turned. -/
theorem flip_closed (l : List UInt8) (k : Nat) (m : BitVec 32) (h : k + 4 ≤ l.length) (ho : (opened l).isSome) (hm : m ≠ 0) : opened (flip l k 4 m) = none := by
  obtain ⟨a, b, c, d, e⟩ := four l k h
  have hk : (l.take k).length = k := by rw [List.length_take]; omega
  generalize l.take k = p at e hk
  generalize l.drop (k + 4) = q at e
  subst hk
  subst e
  rw [flip_four]
  cases hc : opened (p ++ [a ^^^ byteOf m 0, b ^^^ byteOf m 1, c ^^^ byteOf m 2, d ^^^ byteOf m 3] ++ q) with
  | none => rfl
  | some r =>
    have := turned p q a b c d _ _ _ _ ho (by rw [hc]; rfl)
    simp only [List.cons.injEq, and_true] at this
    obtain ⟨h0, h1, h2, h3⟩ := this
    have z0 := xor_byte_eq _ _ h0
    have z1 := xor_byte_eq _ _ h1
    have z2 := xor_byte_eq _ _ h2
    have z3 := xor_byte_eq _ _ h3
    have hw := word_tail m
    rw [z0, z1, z2, z3] at hw
    exact absurd (hw.symm.trans (by decide)) hm
end Go.Proofs.Ytebmalmciakhcaa.Crc
