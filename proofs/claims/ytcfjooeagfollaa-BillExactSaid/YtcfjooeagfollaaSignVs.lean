/- Rows of values: how they lie, what their bytes are; gaugerref01.Row. -/
import Derived.Test.YtcfjooeagfollaaSignRead
import Derived.Test.YtcfjooeagfollaaBld
import Derived.Test.YtcfjooeagfollaaCod
namespace Go.Proofs.Ytcfjooeagfollaa.Sign
open Go.RowKit Go.Proofs.Ytcfjooeagfollaa.Mem Go.Proofs.Ytcfjooeagfollaa.Bytes Go.Proofs.Ytcfjooeagfollaa.Num
set_option linter.unusedSimpArgs false
set_option linter.unusedVariables false
set_option maxRecDepth 20000

/-- The values lie in a row. -/
def Vs (w : World) (a : Option Addr) (l : List V) : Prop := ∀ i (h : i < l.length), ∃ ad, a = some ad ∧ ad.block < w.heap.size ∧ ∀ w', Below w.heap.size w w' →
  w'.cell? (ad.add (i * 3)) = some (.int .i64 l[i].k) ∧ w'.cell? ⟨(ad.add (i * 3)).block, (ad.add (i * 3)).off + 1, none⟩ = some (.int .i64 l[i].n) ∧ w'.cell? ⟨(ad.add (i * 3)).block, (ad.add (i * 3)).off + 2, none⟩ = some (.string l[i].s)
theorem Vs.keep {w w' : World} {a : Option Addr} {l : List V} (h : Vs w a l) (hb : Below w.heap.size w w') : Vs w' a l := fun i hi =>
  let ⟨ad, ha, hl, hc⟩ := h i hi
  ⟨ad, ha, Nat.lt_of_lt_of_le hl hb.size, fun w2 h2 => hc w2 (hb.trans (h2.mono hb.size))⟩
theorem Vs.nil (w : World) (a : Option Addr) : Vs w a [] := fun i h => by simp at h
/-- A field's address, as the walk spells it. -/
theorem add_field (ad : Addr) (n k : Nat) : (⟨(ad.add n).block, (ad.add n).off + (k + 1), none⟩ : Addr) = ad.add (n + (k + 1)) := by
  unfold Addr.add
  rw [if_neg (show ¬ n + (k + 1) = 0 by omega)]
  split
  · simp_all
  · simp; omega
theorem add_block (ad : Addr) (n : Nat) : (ad.add n).block = ad.block := by unfold Addr.add; split <;> rfl
abbrev valC : Cod (Int × Int × ByteArray × Unit) := Cod.pair (Cod.int .i64) (Cod.pair (Cod.int .i64) (Cod.pair Cod.str Cod.unit))
def vOf (y : Int × Int × ByteArray × Unit) : V := ⟨y.1, y.2.1, y.2.2.1⟩
/-- The values that came in. -/
theorem vs_of {w : World} {a : Option Addr} {n cap : Nat} {xs : List (Int × Int × ByteArray × Unit)} (h : SlcIn valC w a n cap xs) :
    ∃ l : List V, l.length = n ∧ n ≤ 9223372036854775807 ∧ Vs w a l ∧ (∀ v ∈ l, v.fits ∧ v.s.size ≤ maxLen) := by
  refine ⟨xs.map vOf, by rw [List.length_map]; exact h.2.2.2.1, h.len.2, fun i hi => ?_, fun v hv => ?_⟩
  · rw [List.length_map] at hi
    obtain ⟨ad, cs, ha, hl, hc, hR⟩ := h.2.2.2.2 i hi
    obtain ⟨c1, c2, rfl, ⟨rfl, _⟩, c3, c4, rfl, ⟨rfl, _⟩, c5, c6, rfl, ⟨rfl, _⟩, hu⟩ := hR
    obtain rfl : c6 = [] := hu
    have h0 := hc 0 (by decide)
    have h1 := hc 1 (by decide)
    have h2 := hc 2 (by decide)
    simp [valC, Cod.pair, Cod.int, Cod.str, Cod.unit] at h0 h1 h2
    refine ⟨ad, ha, hl.elim (fun e => by cases e) id, fun w' hb => ?_⟩
    rw [add_field ad (i * 3) 0, add_field ad (i * 3) 1, List.getElem_map]
    exact ⟨(hb.cell (World.block_lt_of_cell? w _ h0)).trans h0, (hb.cell (World.block_lt_of_cell? w _ h1)).trans h1, (hb.cell (World.block_lt_of_cell? w _ h2)).trans h2⟩
  · obtain ⟨y, hy, rfl⟩ := List.mem_map.1 hv
    obtain ⟨i, hi, rfl⟩ := List.getElem_of_mem hy
    obtain ⟨ad, cs, ha, hl, hc, hR⟩ := h.2.2.2.2 i hi
    obtain ⟨c1, c2, rfl, ⟨rfl, _⟩, c3, c4, rfl, ⟨rfl, hn⟩, c5, c6, rfl, ⟨rfl, hs⟩, hu⟩ := hR
    refine ⟨?_, hs⟩
    simp [Lit.wf, IntKind.min, IntKind.max, IntKind.signed, IntKind.bits] at hn
    unfold V.fits vOf
    simp only
    omega
theorem flat_get (l : List V) (i j : Nat) (hi : i < l.length) (hj : j < 3) : (l.flatMap V.cells)[i * 3 + j]? = (l[i].cells)[j]? := by
  induction l generalizing i with
  | nil => simp at hi
  | cons v l ih =>
    have lv : v.cells.length = 3 := rfl
    rw [List.flatMap_cons]
    cases i with
    | zero => rw [List.getElem?_append_left (by omega)]; simp
    | succ i =>
      rw [List.getElem?_append_right (by omega), lv, show (i + 1) * 3 + j - 3 = i * 3 + j by omega, ih i (by simpa using hi)]
      rfl
/-- A row that was made. -/
theorem vs_own {w : World} {base : Nat} {e : TypeId} {v : Value} {n : Nat} {l : List V} (h : w.ownsRow base e 3 v n (l.flatMap V.cells)) (hn : l.length = n) : ∃ a cap, v = .slice a n cap ∧ Vs w a l := by
  rcases Reel.own_shape h with ⟨a, cap, rfl, hc, ⟨rfl, rfl, rfl⟩ | ⟨g, rfl⟩⟩
  · obtain rfl := List.eq_nil_of_length_eq_zero hn
    exact ⟨_, _, rfl, Vs.nil _ _⟩
  · refine ⟨_, _, rfl, fun i hi => ⟨_, rfl, (h.lt g rfl).2, fun w' hb => ?_⟩⟩
    have key : ∀ j, j < 3 → ∀ u, (l[i].cells)[j]? = some u → w'.cell? ((⟨g, 0, none⟩ : Addr).add (i * 3 + j)) = some u := fun j hj u hu => by
      have hc := h.cells (g := g) rfl (i * 3 + j) u (by rw [flat_get l i j hi hj]; exact hu)
      rw [hb.cell (World.block_lt_of_cell? w _ hc)]
      exact hc
    rw [add_field ⟨g, 0, none⟩ (i * 3) 0, add_field ⟨g, 0, none⟩ (i * 3) 1]
    exact ⟨key 0 (by omega) _ rfl, key 1 (by omega) _ rfl, key 2 (by omega) _ rfl⟩

def codes (l : List V) : List UInt8 := l.flatMap V.code
theorem codes_snoc (l : List V) (v : V) : codes (l ++ [v]) = codes l ++ v.code := by simp [codes]
theorem codes_length {l : List V} (h : ∀ v ∈ l, v.good = true) : (codes l).length = 9 * l.length := by
  induction l with
  | nil => rfl
  | cons v l ih =>
    unfold codes at ih ⊢
    rw [List.flatMap_cons, List.length_append, V.code_length (h v (by simp)), ih (fun u hu => h u (by simp [hu])), List.length_cons]
    omega
/-- A row's bytes. -/
def rowV (l : List V) : Option (List UInt8) := if l.length ≤ 4 ∧ l.all V.good = true then some (codes l) else none
theorem take_good {l : List V} {k : Nat} (h : k < l.length) (hg : ∀ v ∈ l.take k, v.good = true) (hk : l[k].good = true) : ∀ v ∈ l.take (k + 1), v.good = true := by
  rw [List.take_succ_eq_append_getElem h]
  intro v hv
  rcases List.mem_append.1 hv with hv | hv
  · exact hg v hv
  · rw [List.mem_singleton.1 hv]; exact hk
theorem codes_take {l : List V} {k : Nat} (h : k < l.length) : codes (l.take (k + 1)) = codes (l.take k) ++ l[k].code := by
  rw [List.take_succ_eq_append_getElem h, codes_snoc]
theorem rowV_bad {l : List V} {k : Nat} (h : k < l.length) (hk : l[k].good = false) : rowV l = none := by
  unfold rowV
  rw [if_neg]
  rintro ⟨_, ha⟩
  rw [List.all_eq_true] at ha
  rw [ha _ (List.getElem_mem h)] at hk
  cases hk
theorem rowV_all {l : List V} (h4 : l.length ≤ 4) (h : ∀ v ∈ l, v.good = true) : rowV l = some (codes l) := by
  unfold rowV
  rw [if_pos ⟨h4, List.all_eq_true.2 h⟩]

end Go.Proofs.Ytcfjooeagfollaa.Sign
