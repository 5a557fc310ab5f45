/- A plan that came in. -/
import Derived.Test.YtcfjooeagfollaaPlanW
namespace Go.Proofs.Ytcfjooeagfollaa.Plan
open Go.RowKit Go.Proofs.Ytcfjooeagfollaa.Mem Go.Proofs.Ytcfjooeagfollaa.Bytes Go.Proofs.Ytcfjooeagfollaa.Num
set_option linter.unusedSimpArgs false
set_option linter.unusedVariables false
set_option maxRecDepth 20000

/-- els_in, where the elements hold addresses of their own. -/
theorem els_ex {α β : Type} {enc : β → List Value} {P : β → Prop} {c : Cod α} {w : World} {a : Option Addr} {n : Nat} {xs : List α} (h : c.Row w a n xs) (h0 : 0 < c.sz) (hR : ∀ cs x, c.R w cs x → ∃ y, cs = enc y ∧ P y) :
    ∃ ys : List β, ys.length = n ∧ Els enc c.sz w a ys ∧ ∀ y ∈ ys, P y := by
  have key : ∀ i : Fin n, ∃ y : β, P y ∧ ∃ ad, a = some ad ∧ ad.block < w.heap.size ∧ ∀ w', Below w.heap.size w w' → ∀ j v, (enc y)[j]? = some v → w'.cell? (ad.add (i.val * c.sz + j)) = some v := fun i => by
    obtain ⟨ad, cs, ha, hl, hc, hr⟩ := h.2 i.val (by have := h.1; have := i.isLt; omega)
    obtain ⟨y, he, hy⟩ := hR _ _ hr
    refine ⟨y, hy, ad, ha, hl.elim (fun e => by omega) id, fun w' hb j v hv => ?_⟩
    rw [← he] at hv
    have hj : j < c.sz := by
      obtain ⟨hj, _⟩ := List.getElem?_eq_some_iff.1 hv
      rwa [c.len hr] at hj
    have h1 := (hc j hj).trans hv
    rw [hb.cell (World.block_lt_of_cell? w _ h1)]
    exact h1
  obtain ⟨f, hf⟩ := Classical.axiomOfChoice key
  refine ⟨List.ofFn f, List.length_ofFn, fun i hi => ?_, fun y hy => ?_⟩
  · rw [List.length_ofFn] at hi
    obtain ⟨_, ad, ha, hl, hc⟩ := hf ⟨i, hi⟩
    refine ⟨ad, ha, hl, fun w' hb j v hv => hc w' hb j v ?_⟩
    rw [List.getElem_ofFn] at hv
    exact hv
  · obtain ⟨i, hi, rfl⟩ := List.getElem_of_mem hy
    rw [List.getElem_ofFn]
    exact (hf _).1

abbrev tabC : Cod (List Int × Unit) := Cod.pair (Cod.slice (Cod.int .i64)) Cod.unit
abbrev viewC : Cod (Int × Int × List Int × Unit) := Cod.pair (Cod.int .i64) (Cod.pair (Cod.int .i64) (Cod.pair (Cod.slice (Cod.int .i64)) Cod.unit))
abbrev planC : Cod (List (List Int × Unit) × List (Int × Int × List Int × Unit) × Unit) := Cod.pair (Cod.slice tabC) (Cod.pair (Cod.slice viewC) Cod.unit)
def IsOk (w : World) (a : Option Addr) (l : List Int) : Prop := (Is w a l ∧ l.length ≤ 9223372036854775807) ∧ ∀ s ∈ l, -9223372036854775808 ≤ s ∧ s ≤ 9223372036854775807
theorem ints_in {w : World} {a : Option Addr} {n cap : Nat} {xs : List Int} (hn : n ≤ cap) (hc : cap ≤ maxLen) (h : (Cod.int .i64).Row w a n xs) : IsOk w a xs := by
  have h1 := els_in (enc := intC) id h (by decide) (fun cs x hx => hx.1)
  rw [List.map_id] at h1
  refine ⟨⟨h1, by rw [h.1]; unfold maxLen at hc; omega⟩, fun s hs => ?_⟩
  obtain ⟨i, hi, rfl⟩ := List.getElem_of_mem hs
  obtain ⟨ad, cs, ha, hl, hc, hR⟩ := h.2 i hi
  have hw := hR.2
  simp [Lit.wf, IntKind.min, IntKind.max, IntKind.signed, IntKind.bits] at hw
  omega
theorem tab_in {w : World} {cs : List Value} {y : List Int × Unit} (h : tabC.R w cs y) : ∃ t : Tb, cs = t.cells ∧ Is w t.a t.cols ∧ t.cols.length ≤ 9223372036854775807 := by
  obtain ⟨c1, r1, rfl, ⟨a, n, cap, rfl, hn, hc, h0, hrow⟩, hu⟩ := h
  obtain rfl : r1 = [] := hu
  have hl := hrow.1
  subst hl
  exact ⟨⟨a, cap, y.1⟩, rfl, (ints_in hn hc hrow).1⟩
theorem view_in {w : World} {cs : List Value} {y : Int × Int × List Int × Unit} (h : viewC.R w cs y) : ∃ t : Vw, cs = t.cells ∧ IsOk w t.a t.sums := by
  obtain ⟨c1, r1, rfl, ⟨rfl, _⟩, c2, r2, rfl, ⟨rfl, _⟩, c3, r3, rfl, ⟨a, n, cap, rfl, hn, hc, h0, hrow⟩, hu⟩ := h
  obtain rfl : r3 = [] := hu
  have hl := hrow.1
  subst hl
  exact ⟨⟨y.1, y.2.1, a, cap, y.2.2.1⟩, rfl, ints_in hn hc hrow⟩
theorem plan_in {w : World} {cs : List Value} {y : _} (h : planC.R w cs y) : ∃ p : Pl, cs = p.cells ∧ HasP w p ∧ p.fits := by
  obtain ⟨c1, r1, rfl, ⟨a, n, cap, rfl, hn, hc, h0, hrow⟩, c2, r2, rfl, ⟨a2, n2, cap2, rfl, hn2, hc2, h02, hrow2⟩, hu⟩ := h
  obtain rfl : r2 = [] := hu
  obtain ⟨ts, rfl, hT, hTs⟩ := els_ex (enc := Tb.cells) hrow (by decide) (fun cs x hx => tab_in hx)
  obtain ⟨vs, rfl, hV, hVs⟩ := els_ex (enc := Vw.cells) hrow2 (by decide) (fun cs x hx => view_in hx)
  unfold maxLen at hc hc2
  exact ⟨⟨a, cap, ts, a2, cap2, vs⟩, rfl, ⟨⟨hT, hTs, by show ts.length ≤ _; omega⟩, hV, fun v hv => (hVs v hv).1, by show vs.length ≤ _; omega⟩, fun v hv => (hVs v hv).2⟩
end Go.Proofs.Ytcfjooeagfollaa.Plan
