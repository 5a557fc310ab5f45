/- A region that draws its order and holds calls that only make memory: gone through once, in the text's order, over the class of the worlds that only make memory. -/
import Derived.Below
import Derived.BigQuiet
import Derived.Deep.RegionHeld3
namespace Go.Proofs.Ytcfjooeagfollaa.Lex
open Go Go.RowKit
set_option linter.unusedSimpArgs false
set_option linter.unusedVariables false
set_option maxRecDepth 20000

/-- The worlds that have only made memory since w0, as an unnamed type. -/
theorem class_of (P : Program) (w0 : World) : ∃ (Z : Type) (f : Z → World), (∀ z, Below w0.heap.size w0 (f z)) ∧ (∃ z0, f z0 = w0.drew) ∧
    ∀ (fn : FuncId) (args : Array Value) (r : Ending), (∀ w, Calls P fn args w fun e w' => e = r ∧ Below w.heap.size w w') → ∀ z, Calls P fn args (f z) fun e w'' => e = r ∧ ∃ z', w'' = f z' :=
  ⟨{w' : World // Below w0.heap.size w0 w'}, Subtype.val, fun z => z.2, ⟨⟨w0.drew, (Below.refl _ _).drew⟩, rfl⟩, fun fn args r h z =>
    (h z.val).mono fun e w'' he => ⟨he.1, ⟨w'', z.2.trans (he.2.mono z.2.size)⟩, rfl⟩⟩
theorem region_class {P : Program} {Z : Type} {f : Z → World} {z0 : Z} {id : Nat} {Q : Exit → Act → World → Prop} {a : Act} {w : World} {l : List Oper} (hz : f z0 = w.drew) (hm : P.follows .mixedOrders = true) (hB : Region.lexB .any l.toArray = true)
    (h : wpQuiet P l.toArray (fun w' => ∃ z, w' = f z) (fun a' => ∀ w', (∃ z, w' = f z) → Q .normal a' w') l a) : (Code.region id l.toArray true).wp P Q a w :=
  wp_region_quiet (C := fun w' => ∃ z, w' = f z) hm hB ⟨z0, hz.symm⟩ (by simpa using h)

section
variable {P : Program} {ops : Array Oper} {Q : Exit → Act → World → Prop} {md : Region.Mode} {S : World → Prop}
/-- One operation of a held region, in the text's order: it yields its value in every world that meets S. -/
theorem take (N : Nat) {i : Nat} {oi : Oper} {v : Value} {fuel : Nat} {listed : Array Bool} {a : Act} {w : World} (hn : i + (fuel + 1) = N) (hi : ops[i]? = some oi)
    (hs : Region.noSelect ops = true) (hf : Region.free md ops listed i = true) (hr : (Region.ready md ops listed).contains i = true)
    (hQ : ∀ c a w, Q (.panic c) (a.put oi.dst v) w → Q (.panic c) a w) (hw : Region.wanted oi (yielded ops a.tmps) = true)
    (hy : ∀ w, S w → (execOp a.eval oi).run P w = .ok (.value v) w) (hS : S w)
    (h : wpAnyH P md ops Q S fuel (listed.setIfInBounds i true) (a.put oi.dst v) w) : wpAnyH P md ops Q S (fuel + 1) listed a w :=
  wpAnyH_take hi hs hf hr hQ (.inl ⟨hw, hy⟩) hS h
/-- It alone may come up. -/
theorem call (N : Nat) {i : Nat} {oi : Oper} {fuel : Nat} {listed : Array Bool} {a : Act} {w : World} (hn : i + (fuel + 1) = N) (hi : ops[i]? = some oi)
    (hr : Region.ready md ops listed = [i]) (hw : Region.wanted oi (yielded ops a.tmps) = true)
    (h : ∀ K' : Act → World → Prop, Shut (∀ a w, S w → (S w → wpAnyH P md ops Q S fuel (listed.setIfInBounds i true) a w) → K' a w) → Oper.wp P oi a w K' Q) :
    wpAnyH P md ops Q S (fuel + 1) listed a w :=
  wpAnyH_ready hr (by simp) (AllReadyH.cons hi (fun K' hK => by rw [if_pos hw]; exact h K' hK) AllReadyH.nil)
end
end Go.Proofs.Ytcfjooeagfollaa.Lex
