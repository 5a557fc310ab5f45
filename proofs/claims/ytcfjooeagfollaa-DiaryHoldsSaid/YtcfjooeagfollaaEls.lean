/- Rows of elements of several cells each, as plain lists. -/
import Derived.Test.YtcfjooeagfollaaOwn
import Derived.Test.YtcfjooeagfollaaCod
namespace Go.Proofs.Ytcfjooeagfollaa.Mem
open Go.RowKit Go.Proofs.Ytcfjooeagfollaa.Bytes
set_option linter.unusedSimpArgs false
set_option linter.unusedVariables false
set_option maxRecDepth 20000

/-- The elements lie in a row, each in sz cells. -/
def Els {α : Type} (enc : α → List Value) (sz : Nat) (w : World) (a : Option Addr) (l : List α) : Prop := ∀ i (h : i < l.length), ∃ ad, a = some ad ∧ ad.block < w.heap.size ∧ ∀ w', Below w.heap.size w w' → ∀ j v, (enc l[i])[j]? = some v → w'.cell? (ad.add (i * sz + j)) = some v
section
variable {α : Type} {enc : α → List Value} {sz : Nat} {w w' : World} {a : Option Addr} {l : List α}
theorem Els.keep (h : Els enc sz w a l) (hb : Below w.heap.size w w') : Els enc sz w' a l := fun i hi =>
  let ⟨ad, ha, hl, hc⟩ := h i hi
  ⟨ad, ha, Nat.lt_of_lt_of_le hl hb.size, fun w2 h2 => hc w2 (hb.trans (h2.mono hb.size))⟩
theorem Els.nil (enc : α → List Value) (sz : Nat) (w : World) (a : Option Addr) : Els enc sz w a [] := fun i h => by simp at h
theorem els_block (ad : Addr) (n : Nat) : (ad.add n).block = ad.block := by unfold Addr.add; split <;> rfl
theorem Els.chg {S : Nat → Prop} (h : Els enc sz w a l) (hc : Chg S w w') (hn : ∀ ad, a = some ad → ¬ S ad.block) : Els enc sz w' a l := by
  intro i hi
  obtain ⟨ad, ha, hl, hx⟩ := h i hi
  refine ⟨ad, ha, Nat.lt_of_lt_of_le hl hc.size, fun w2 h2 j v hv => ?_⟩
  have e1 : w2.heap[ad.block]? = w.heap[ad.block]? := (h2.block ad.block (Nat.lt_of_lt_of_le hl hc.size)).trans (hc.block ad.block hl (hn ad ha))
  have e2 := hx w (Below.refl _ _) j v hv
  rw [← e2]
  unfold World.cell?
  rw [els_block, e1]
/-- A field's address, as the walk spells it. -/
theorem els_field (ad : Addr) (n k : Nat) : (⟨(ad.add n).block, (ad.add n).off + (k + 1), none⟩ : Addr) = ad.add (n + (k + 1)) := by
  unfold Addr.add
  rw [if_neg (show ¬ n + (k + 1) = 0 by omega)]
  split
  · simp_all
  · simp; omega
/-- The element's cells, as the walk spells their addresses. -/
theorem Els.at (h : Els enc sz w a l) {i : Nat} (hi : i < l.length) (hb : Below w.heap.size w w') : ∃ ad, a = some ad ∧ ad.block < w.heap.size ∧ (∀ v, (enc l[i])[0]? = some v → w'.cell? (ad.add (i * sz)) = some v) ∧
    ∀ j v, (enc l[i])[j + 1]? = some v → w'.cell? ⟨(ad.add (i * sz)).block, (ad.add (i * sz)).off + (j + 1), none⟩ = some v := by
  obtain ⟨ad, ha, hl, hx⟩ := h i hi
  exact ⟨ad, ha, hl, fun v hv => hx w' hb 0 v hv, fun j v hv => by rw [els_field]; exact hx w' hb (j + 1) v hv⟩
/-- The same in every later world. -/
theorem Els.all (h : Els enc sz w a l) {i : Nat} (hi : i < l.length) : ∃ ad, a = some ad ∧ ad.block < w.heap.size ∧ ∀ w', Below w.heap.size w w' → (∀ v, (enc l[i])[0]? = some v → w'.cell? (ad.add (i * sz)) = some v) ∧
    ∀ j v, (enc l[i])[j + 1]? = some v → w'.cell? ⟨(ad.add (i * sz)).block, (ad.add (i * sz)).off + (j + 1), none⟩ = some v := by
  obtain ⟨ad, ha, hl, hx⟩ := h i hi
  exact ⟨ad, ha, hl, fun w' hb => ⟨fun v hv => hx w' hb 0 v hv, fun j v hv => by rw [els_field]; exact hx w' hb (j + 1) v hv⟩⟩
theorem els_flat (hs : ∀ x, (enc x).length = sz) (l : List α) (i j : Nat) (hi : i < l.length) (hj : j < sz) : (l.flatMap enc)[i * sz + j]? = (enc l[i])[j]? := by
  induction l generalizing i with
  | nil => simp at hi
  | cons v l ih =>
    have lv := hs v
    rw [List.flatMap_cons]
    cases i with
    | zero => rw [List.getElem?_append_left (by omega)]; simp
    | succ i =>
      rw [Nat.succ_mul, List.getElem?_append_right (by omega), lv, show i * sz + sz + j - sz = i * sz + j by omega, ih i (by simpa using hi)]
      rfl
theorem els_flat_len (hs : ∀ x, (enc x).length = sz) (l : List α) : (l.flatMap enc).length = l.length * sz := by
  induction l with
  | nil => simp
  | cons v l ih => rw [List.flatMap_cons, List.length_append, hs, ih, List.length_cons, Nat.succ_mul, Nat.add_comm]
/-- A row that was made. -/
theorem els_own {base : Nat} {e : TypeId} {v : Value} {n : Nat} (hs : ∀ x, (enc x).length = sz) (h : w.ownsRow base e sz v n (l.flatMap enc)) (hn : l.length = n) : ∃ a cap, v = .slice a n cap ∧ n ≤ cap ∧ Els enc sz w a l ∧ ∀ ad, a = some ad → base ≤ ad.block := by
  rcases Reel.own_shape h with ⟨a, cap, rfl, hc, ⟨rfl, rfl, rfl⟩ | ⟨g, rfl⟩⟩
  · obtain rfl := List.eq_nil_of_length_eq_zero hn
    exact ⟨_, _, rfl, hc, Els.nil _ _ _ _, fun ad h => by cases h⟩
  · refine ⟨_, _, rfl, hc, fun i hi => ⟨_, rfl, (h.lt g rfl).2, fun w' hb j v hv => ?_⟩, fun ad had => by cases had; exact (h.lt g rfl).1⟩
    have hj : j < sz := by
      obtain ⟨hj, _⟩ := List.getElem?_eq_some_iff.1 hv
      rwa [hs] at hj
    have hc := h.cells (g := g) rfl (i * sz + j) v (by rw [els_flat hs l i j hi hj]; exact hv)
    rw [hb.cell (World.block_lt_of_cell? w _ hc)]
    exact hc
/-- A row known whole. -/
theorem els_row {b : Nat} {e : TypeId} (hs : ∀ x, (enc x).length = sz) {k : Nat} {pre : List α} {post : List Value} (h : Row w b e ((pre ++ l).flatMap enc ++ post)) (hk : k = pre.length * sz) : Els enc sz w (some ⟨b, k, none⟩) l := by
  intro i hi
  refine ⟨_, rfl, h.lt, fun w' hb j v hv => ?_⟩
  have hj : j < sz := by
    obtain ⟨hj, _⟩ := List.getElem?_eq_some_iff.1 hv
    rwa [hs] at hj
  have ha : (⟨b, k, none⟩ : Addr).add (i * sz + j) = ⟨b, k + (i * sz + j), none⟩ := by unfold Addr.add; split <;> simp_all
  rw [ha]
  refine (h.below hb h.lt).cell ?_
  have hlt : pre.length + i < (pre ++ l).length := by rw [List.length_append]; omega
  have hg := els_flat hs (pre ++ l) (pre.length + i) j hlt hj
  have hlt2 : (pre.length + i) * sz + j < ((pre ++ l).flatMap enc).length := by
    rw [els_flat_len hs]
    have := Nat.mul_le_mul_right sz (show pre.length + i + 1 ≤ (pre ++ l).length by omega)
    rw [Nat.succ_mul] at this
    omega
  rw [show k + (i * sz + j) = (pre.length + i) * sz + j by rw [hk, Nat.add_mul]; omega, List.getElem?_append_left hlt2, hg, ← hv]
  congr 2
  rw [List.getElem_append_right (by omega)]
  congr 1
  omega
/-- The row from an element on. -/
theorem Els.drop {ad : Addr} (h : Els enc sz w (some ad) l) (k : Nat) : Els enc sz w (some (ad.add (k * sz))) (l.drop k) := by
  intro i hi
  rw [List.length_drop] at hi
  obtain ⟨ad', he, hl, hx⟩ := h (k + i) (by omega)
  cases he
  refine ⟨_, rfl, by rw [els_block]; exact hl, fun w' hb j v hv => ?_⟩
  rw [List.getElem_drop] at hv
  have := hx w' hb j v hv
  rw [Nat.add_mul, Nat.add_assoc] at this
  rw [← this]
  congr 1
  unfold Addr.add
  split <;> split <;> simp_all <;> omega
end
theorem els_in {α β : Type} {enc : β → List Value} {c : Cod α} (g : α → β) {w : World} {a : Option Addr} {n : Nat} {xs : List α} (h : c.Row w a n xs) (h0 : 0 < c.sz) (hR : ∀ cs x, c.R w cs x → cs = enc (g x)) : Els enc c.sz w a (xs.map g) := by
  intro i hi
  rw [List.length_map] at hi
  obtain ⟨ad, cs, ha, hl, hc, hr⟩ := h.2 i hi
  have he := hR _ _ hr
  refine ⟨ad, ha, hl.elim (fun e => by omega) id, fun w' hb j v hv => ?_⟩
  rw [List.getElem_map, ← he] at hv
  have hj : j < c.sz := by
    obtain ⟨hj, _⟩ := List.getElem?_eq_some_iff.1 hv
    rwa [c.len hr] at hj
  have h1 := (hc j hj).trans hv
  rw [hb.cell (World.block_lt_of_cell? w _ h1)]
  exact h1
end Go.Proofs.Ytcfjooeagfollaa.Mem
