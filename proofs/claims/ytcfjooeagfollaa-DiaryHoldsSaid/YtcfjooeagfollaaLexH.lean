/- A held region that draws its order, gone through in the text's order, one step per operation. -/
import Derived.Deep.RegionHeld3
namespace Go.Proofs.Ytcfjooeagfollaa.LexH
open Go
set_option linter.unusedSimpArgs false
set_option linter.unusedVariables false
set_option maxRecDepth 20000
variable {P : Program} {l : List Oper} {Q : Exit → Act → World → Prop} {md : Region.Mode} {S : World → Prop}

/-- The operations 'rest' are still to come, the first of them next. -/
def From (P : Program) (md : Region.Mode) (l : List Oper) (Q : Exit → Act → World → Prop) (S : World → Prop) (rest : List Oper) (listed : Array Bool) (a : Act) (w : World) : Prop :=
  wpAnyH P md l.toArray Q S rest.length listed a w
theorem start {id : Nat} {a : Act} {w : World} (hm : P.follows .mixedOrders = true) (hS : S w.drew)
    (h : S w.drew → From P .any l Q S l (Array.replicate l.length false) a w.drew) : (Code.region id l.toArray true).wp P Q a w :=
  wp_region_held_drew hm hS (fun hh => by simpa [From] using h hh)
theorem take {o : Oper} {rest : List Oper} {v : Value} {listed : Array Bool} {a : Act} {w : World} (hi : l.toArray[l.length - (rest.length + 1)]? = some o)
    (hs : Region.noSelect l.toArray = true) (hf : Region.free md l.toArray listed (l.length - (rest.length + 1)) = true) (hr : (Region.ready md l.toArray listed).contains (l.length - (rest.length + 1)) = true)
    (hQ : ∀ c a w, Q (.panic c) (a.put o.dst v) w → Q (.panic c) a w) (hw : Region.wanted o (yielded l.toArray a.tmps) = true)
    (hy : ∀ w, S w → (execOp a.eval o).run P w = .ok (.value v) w) (hS : S w)
    (h : From P md l Q S rest (listed.setIfInBounds (l.length - (rest.length + 1)) true) (a.put o.dst v) w) : From P md l Q S (o :: rest) listed a w :=
  wpAnyH_take hi hs hf hr hQ (.inl ⟨hw, hy⟩) hS h
theorem call {o : Oper} {rest : List Oper} {listed : Array Bool} {a : Act} {w : World} (hi : l.toArray[l.length - (rest.length + 1)]? = some o)
    (hr : Region.ready md l.toArray listed = [l.length - (rest.length + 1)]) (hw : Region.wanted o (yielded l.toArray a.tmps) = true)
    (h : ∀ K' : Act → World → Prop, Shut (∀ a w, S w → (S w → From P md l Q S rest (listed.setIfInBounds (l.length - (rest.length + 1)) true) a w) → K' a w) → Oper.wp P o a w K' Q) :
    From P md l Q S (o :: rest) listed a w :=
  wpAnyH_ready hr (by simp) (AllReadyH.cons hi (fun K' hK => by rw [if_pos hw]; exact h K' hK) AllReadyH.nil)
theorem done {listed : Array Bool} {a : Act} {w : World} (hr : Region.ready md l.toArray listed = []) (h : Q .normal a w) : From P md l Q S [] listed a w := wpAnyH_done hr h _
end Go.Proofs.Ytcfjooeagfollaa.LexH
