/- A region that draws its order, gone through in an order of one's own choosing: what yields its value wherever S holds is taken first; S need not hold behind the late operations (L), for which all that is taken waits. -/
import Derived.Test.YtcfjooeagfollaaLexH
namespace Go.Proofs.Ytcfjooeagfollaa.Reg
open Go
set_option linter.unusedSimpArgs false
set_option linter.unusedVariables false
set_option maxRecDepth 20000
variable {P : Program} {ops : Array Oper} {l : List Oper} {Q : Exit → Act → World → Prop} {md : Region.Mode} {S : World → Prop} {L : Nat → Bool}

def Any (P : Program) (md : Region.Mode) (ops : Array Oper) (Q : Exit → Act → World → Prop) (S : World → Prop) (L : Nat → Bool) : Nat → Array Bool → Act → World → Prop
  | 0, listed, a, w => Region.ready md ops listed = [] ∧ Q .normal a w
  | fuel + 1, listed, a, w =>
    (Region.ready md ops listed = [] → Q .normal a w) ∧
    ∀ i ∈ Region.ready md ops listed, wpOp P ops Q i (fun a' w' => (L i = false → S w') ∧ Any P md ops Q S L fuel (listed.setIfInBounds i true) a' w') a w
theorem any_of : ∀ (fuel : Nat) (listed : Array Bool) (a : Act) (w : World), Any P md ops Q S L fuel listed a w → wpAny P md ops Q fuel listed a w
  | 0, _, _, _, h => h
  | fuel + 1, _, _, _, h => ⟨h.1, fun i hi => wpOp_mono (fun a' w' h' => any_of fuel _ a' w' h'.2) (h.2 i hi)⟩
/-- The late operations wait for i. -/
def waits (md : Region.Mode) (ops : Array Oper) (L : Nat → Bool) (i : Nat) : Bool := (List.range ops.size).all fun j => !L j || ((ops[j]?).map fun o => o.after.any fun e => Region.binds md e && e.on == i).getD true
theorem waits_spec {i : Nat} (h : waits md ops L i = true) {j : Nat} {oj : Oper} (hj : ops[j]? = some oj) (hl : L j = true) : ∃ e ∈ oj.after, Region.binds md e = true ∧ e.on = i := by
  unfold waits at h
  rw [List.all_eq_true] at h
  have hlt : j < ops.size := by
    rcases Nat.lt_or_ge j ops.size with h' | h'
    · exact h'
    · rw [Array.getElem?_eq_none h'] at hj; cases hj
  have h1 := h j (List.mem_range.2 hlt)
  rw [hj, hl] at h1
  simp only [Bool.not_true, Bool.false_or, Option.map_some, Option.getD_some, Array.any_eq_true] at h1
  obtain ⟨k, hk, h2⟩ := h1
  rw [Bool.and_eq_true, beq_iff_eq] at h2
  exact ⟨_, Array.getElem_mem hk, h2⟩

theorem first {i : Nat} {oi : Oper} {v : Value} (hi : ops[i]? = some oi) (hsel : ∀ (j : Nat) (o : Oper) cs b, ops[j]? = some o → o.op ≠ .select cs b)
    (hQ : ∀ c a w, Q (.panic c) (a.put oi.dst v) w → Q (.panic c) a w) (hL : waits md ops L i = true) :
    ∀ (fuel : Nat) (listed : Array Bool) (a : Act) (w : World),
      (∀ j oj, ops[j]? = some oj → j ≠ i → listed.getD j true = false → (∀ e ∈ oj.after, Region.binds md e = true → e.on ≠ i) → oi.apart ops oj = true) →
      i ∈ Region.ready md ops listed → YieldsIf P ops S oi v a → S w →
      Any P md ops Q S L fuel (listed.setIfInBounds i true) (a.put oi.dst v) w → Any P md ops Q S L (fuel + 1) listed a w := by
  intro fuel
  induction fuel with
  | zero =>
    intro listed a w _ hr hy hS H
    refine ⟨fun h => (by rw [h] at hr; cases hr), fun j hj => ?_⟩
    by_cases hji : j = i
    · subst hji; exact hy.wpOp hi hS ⟨fun _ => hS, H⟩
    · have := ready_mono hj hji
      rw [H.1] at this
      cases this
  | succ fuel ih =>
    intro listed a w hfree hr hy hS H
    refine ⟨fun h => (by rw [h] at hr; cases hr), fun j hj => ?_⟩
    by_cases hji : j = i
    · subst hji; exact hy.wpOp hi hS ⟨fun _ => hS, H⟩
    · have h1 := H.2 j (ready_mono hj hji)
      obtain ⟨hjun, oj, hoj, hall⟩ := mem_ready.1 hj
      have hnot : ∀ e ∈ oj.after, Region.binds md e = true → e.on ≠ i := fun e he hb heq => by
        have h1 := hall e he hb
        have h0 := (mem_ready.1 hr).1
        rw [heq] at h1
        rcases Nat.lt_or_ge i listed.size with h' | h'
        · simp [h'] at h0 h1; rw [h0] at h1; cases h1
        · simp [Array.getElem?_eq_none h'] at h1
      have hlj : L j = false := by
        cases hl : L j
        · rfl
        · obtain ⟨e, he, hb, heq⟩ := waits_spec hL hoj hl
          exact absurd heq (hnot e he hb)
      have h2 := wpOp_putIf hoj (hfree j oj hoj hji hjun hnot) (fun cs b => hsel i oi cs b hi) (fun cs b => hsel j oj cs b hoj) hQ hy h1
      have hfree' : ∀ k ok, ops[k]? = some ok → k ≠ i → (listed.setIfInBounds j true).getD k true = false →
          (∀ e ∈ ok.after, Region.binds md e = true → e.on ≠ i) → oi.apart ops ok = true := fun k ok hk hki hun hno => by
        refine hfree k ok hk hki ?_ hno
        by_cases hjk : j = k
        · subst hjk; exact hjun
        · rw [getD_set_ne true hjk] at hun; exact hun
      refine wpOp_mono (fun a' w' h3 => ⟨fun hl => h3.2.1 hl, ih (listed.setIfInBounds j true) a' w' hfree' (ready_mono hr (Ne.symm hji)) h3.1 (h3.2.1 hlj) ?_⟩) h2
      rw [Array.setIfInBounds_comm _ _ hji]
      exact h3.2.2

theorem start (S : World → Prop) (L : Nat → Bool) {id : Nat} {a : Act} {w : World} (hm : P.follows .mixedOrders = true) (hS : S w.drew)
    (h : S w.drew → Any P .any l.toArray Q S L l.length (Array.replicate l.length false) a w.drew) : (Code.region id l.toArray true).wp P Q a w :=
  wp_region_any hm (any_of _ _ _ _ (by simpa using h hS))
/-- One that yields its value wherever S holds. -/
theorem takeI (i : Nat) {n : Nat} {o : Oper} {v : Value} {listed : Array Bool} {a : Act} {w : World} (hi : l[i]? = some o)
    (hs : Region.noSelect l.toArray = true) (hf : Region.free md l.toArray listed i = true) (hr : (Region.ready md l.toArray listed).contains i = true) (hL : waits md l.toArray L i = true)
    (hQ : ∀ c a w, Q (.panic c) (a.put o.dst v) w → Q (.panic c) a w) (hw : Region.wanted o (yielded l.toArray a.tmps) = true)
    (hy : ∀ w, S w → (execOp a.eval o).run P w = .ok (.value v) w) (hS : S w)
    (h : Any P md l.toArray Q S L n (listed.setIfInBounds i true) (a.put o.dst v) w) : Any P md l.toArray Q S L (n + 1) listed a w :=
  first (List.getElem?_toArray.trans hi) (Region.noSelect_spec hs) hQ hL n listed a w (Region.free_spec (List.getElem?_toArray.trans hi) hf) (by simpa using hr) (.inl ⟨hw, hy⟩) hS h
/-- One that is guarded, and not wanted. -/
theorem passI (i : Nat) {n : Nat} {o : Oper} {listed : Array Bool} {a : Act} {w : World} (hi : l[i]? = some o)
    (hs : Region.noSelect l.toArray = true) (hf : Region.free md l.toArray listed i = true) (hr : (Region.ready md l.toArray listed).contains i = true) (hL : waits md l.toArray L i = true)
    (hQ : ∀ c a w, Q (.panic c) (a.put o.dst undef) w → Q (.panic c) a w) (hw : Region.wanted o (yielded l.toArray a.tmps) = false) (hS : S w)
    (h : Any P md l.toArray Q S L n (listed.setIfInBounds i true) (a.put o.dst undef) w) : Any P md l.toArray Q S L (n + 1) listed a w :=
  first (List.getElem?_toArray.trans hi) (Region.noSelect_spec hs) hQ hL n listed a w (Region.free_spec (List.getElem?_toArray.trans hi) hf) (by simpa using hr) (.inr ⟨hw, rfl⟩) hS h
/-- It alone may come up. -/
theorem oneI (i : Nat) {n : Nat} {o : Oper} {listed : Array Bool} {a : Act} {w : World} (hi : l[i]? = some o)
    (hr : Region.ready md l.toArray listed = [i]) (hw : Region.wanted o (yielded l.toArray a.tmps) = true)
    (h : ∀ K' : Act → World → Prop, Shut (∀ a w, (L i = false → S w) → ((L i = false → S w) → Any P md l.toArray Q S L n (listed.setIfInBounds i true) a w) → K' a w) → Oper.wp P o a w K' Q) :
    Any P md l.toArray Q S L (n + 1) listed a w := by
  refine ⟨fun h0 => absurd (hr ▸ h0) (by simp), ?_⟩
  rw [hr]
  intro j hj
  obtain rfl := List.mem_singleton.1 hj
  exact wpOp_step (List.getElem?_toArray.trans hi) (fun K' hK => by rw [if_pos hw]; exact h K' (fun a w hS hW => hK a w ⟨hS, hW hS⟩))
theorem twoI (i j : Nat) {n : Nat} {o p : Oper} {listed : Array Bool} {a : Act} {w : World} (hi : l[i]? = some o) (hj : l[j]? = some p)
    (hr : Region.ready md l.toArray listed = [i, j]) (hw : Region.wanted o (yielded l.toArray a.tmps) = true) (hv : Region.wanted p (yielded l.toArray a.tmps) = true)
    (h : ∀ K' : Act → World → Prop, Shut (∀ a w, (L i = false → S w) → ((L i = false → S w) → Any P md l.toArray Q S L n (listed.setIfInBounds i true) a w) → K' a w) → Oper.wp P o a w K' Q)
    (h2 : ∀ K' : Act → World → Prop, Shut (∀ a w, (L j = false → S w) → ((L j = false → S w) → Any P md l.toArray Q S L n (listed.setIfInBounds j true) a w) → K' a w) → Oper.wp P p a w K' Q) :
    Any P md l.toArray Q S L (n + 1) listed a w := by
  refine ⟨fun h0 => absurd (hr ▸ h0) (by simp), ?_⟩
  rw [hr]
  intro k hk
  rcases List.mem_cons.1 hk with rfl | hk
  · exact wpOp_step (List.getElem?_toArray.trans hi) (fun K' hK => by rw [if_pos hw]; exact h K' (fun a w hS hW => hK a w ⟨hS, hW hS⟩))
  · obtain rfl := List.mem_singleton.1 hk
    exact wpOp_step (List.getElem?_toArray.trans hj) (fun K' hK => by rw [if_pos hv]; exact h2 K' (fun a w hS hW => hK a w ⟨hS, hW hS⟩))
theorem doneI {n : Nat} {listed : Array Bool} {a : Act} {w : World} (hr : Region.ready md l.toArray listed = []) (h : Q .normal a w) : Any P md l.toArray Q S L n listed a w := by
  cases n with
  | zero => exact ⟨hr, h⟩
  | succ n => exact ⟨fun _ => h, by rw [hr]; simp⟩
end Go.Proofs.Ytcfjooeagfollaa.Reg
