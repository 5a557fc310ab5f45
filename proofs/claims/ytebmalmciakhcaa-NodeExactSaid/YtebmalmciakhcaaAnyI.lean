/- A held region gone through in an order of one's own choosing; conversions and appends of bytes as its steps. -/
import Derived.Test.YtebmalmciakhcaaLexH
import Derived.Test.YtebmalmciakhcaaApp
import Derived.Test.YtebmalmciakhcaaProg
import Derived.Test.YtebmalmciakhcaaOwn
import Derived.Maps.AppendAt
namespace Go.Proofs.Ytebmalmciakhcaa.AnyI
open Go Go.RowKit Go.Proofs.Ytebmalmciakhcaa.Mem Go.Proofs.Ytebmalmciakhcaa.Bytes
set_option linter.unusedSimpArgs false
set_option linter.unusedVariables false
variable {P : Program} {l : List Oper} {Q : Exit → Act → World → Prop} {md : Region.Mode} {S : World → Prop}

theorem start {id : Nat} {a : Act} {w : World} (hm : P.follows .mixedOrders = true) (hS : S w.drew)
    (h : S w.drew → wpAnyH P .any l.toArray Q S l.length (Array.replicate l.length false) a w.drew) : (Code.region id l.toArray true).wp P Q a w :=
  wp_region_held_drew hm hS (fun hh => by simpa using h hh)
theorem takeI (i : Nat) {n : Nat} {o : Oper} {v : Value} {listed : Array Bool} {a : Act} {w : World} (hi : l[i]? = some o)
    (hs : Region.noSelect l.toArray = true) (hf : Region.free md l.toArray listed i = true) (hr : (Region.ready md l.toArray listed).contains i = true)
    (hQ : ∀ c a w, Q (.panic c) (a.put o.dst v) w → Q (.panic c) a w) (hw : Region.wanted o (yielded l.toArray a.tmps) = true)
    (hy : ∀ w, S w → (execOp a.eval o).run P w = .ok (.value v) w) (hS : S w)
    (h : wpAnyH P md l.toArray Q S n (listed.setIfInBounds i true) (a.put o.dst v) w) : wpAnyH P md l.toArray Q S (n + 1) listed a w :=
  wpAnyH_take (List.getElem?_toArray.trans hi) hs hf hr hQ (.inl ⟨hw, hy⟩) hS h
theorem oneI (i : Nat) {n : Nat} {o : Oper} {listed : Array Bool} {a : Act} {w : World} (hi : l[i]? = some o)
    (hr : Region.ready md l.toArray listed = [i]) (hw : Region.wanted o (yielded l.toArray a.tmps) = true)
    (h : ∀ K' : Act → World → Prop, Shut (∀ a w, S w → (S w → wpAnyH P md l.toArray Q S n (listed.setIfInBounds i true) a w) → K' a w) → Oper.wp P o a w K' Q) :
    wpAnyH P md l.toArray Q S (n + 1) listed a w :=
  wpAnyH_ready hr (by simp) (AllReadyH.cons (List.getElem?_toArray.trans hi) (fun K' hK => by rw [if_pos hw]; exact h K' hK) AllReadyH.nil)
theorem twoI (i j : Nat) {n : Nat} {o p : Oper} {listed : Array Bool} {a : Act} {w : World} (hi : l[i]? = some o) (hj : l[j]? = some p)
    (hr : Region.ready md l.toArray listed = [i, j]) (hw : Region.wanted o (yielded l.toArray a.tmps) = true) (hv : Region.wanted p (yielded l.toArray a.tmps) = true)
    (h : ∀ K' : Act → World → Prop, Shut (∀ a w, S w → (S w → wpAnyH P md l.toArray Q S n (listed.setIfInBounds i true) a w) → K' a w) → Oper.wp P o a w K' Q)
    (h2 : ∀ K' : Act → World → Prop, Shut (∀ a w, S w → (S w → wpAnyH P md l.toArray Q S n (listed.setIfInBounds j true) a w) → K' a w) → Oper.wp P p a w K' Q) :
    wpAnyH P md l.toArray Q S (n + 1) listed a w :=
  wpAnyH_ready hr (by simp) (AllReadyH.cons (List.getElem?_toArray.trans hi) (fun K' hK => by rw [if_pos hw]; exact h K' hK) (AllReadyH.cons (List.getElem?_toArray.trans hj) (fun K' hK => by rw [if_pos hv]; exact h2 K' hK) AllReadyH.nil))
theorem doneI {n : Nat} {listed : Array Bool} {a : Act} {w : World} (hr : Region.ready md l.toArray listed = []) (h : Q .normal a w) : wpAnyH P md l.toArray Q S n listed a w := wpAnyH_done hr h _

/-- A row of bytes of the call's own. -/
def OwnB (w : World) (base : Nat) (v : Value) (L : List UInt8) : Prop := w.ownsRow base 5 1 v L.length (L.map bv)
def Apart (v : Value) (k : Nat) : Prop := ∀ g, v.ownBlock = some g → g ≠ k
theorem Apart.next {v v' : Value} {k n : Nat} (h : Apart v k) (hk : k < n) (hv : v'.ownBlock = v.ownBlock ∨ v'.ownBlock = some n) : Apart v' k := by
  intro g hg
  rcases hv with hv | hv
  · exact h g (hv ▸ hg)
  · rw [hv] at hg
    cases hg
    omega
theorem OwnB.apart {w : World} {base : Nat} {v : Value} {L : List UInt8} (h : OwnB w base v L) {k : Nat} (hk : w.heap.size ≤ k) : Apart v k := by
  intro g hg
  have := (h.lt g hg).2
  omega
theorem OwnB.below {w w' : World} {base B : Nat} {v : Value} {L : List UInt8} (h : OwnB w base v L) (hb : Below B w w') (hB : w.heap.size ≤ B) : OwnB w' base v L := by
  refine ⟨h.1, ?_⟩
  rcases h.2 with hh | ⟨g, cap, cur, rfl, hb1, hg, hx⟩
  · exact .inl hh
  · refine .inr ⟨g, cap, cur, rfl, hb1, ?_, hx⟩
    have hlt : g < w.heap.size := by
      rcases Nat.lt_or_ge g w.heap.size with h' | h'
      · exact h'
      · rw [Array.getElem?_eq_none h'] at hg; cases hg
    rw [hb.block g (by omega)]
    exact hg
theorem apart_grown {w w' : World} {v : Value} {k : Nat} {e : TypeId} {xs : List Value} (h : Row w k e xs) (hg : w.grownBy w' v.ownBlock) (ha : Apart v k) : Row w' k e xs :=
  h.grown hg (fun e => ha k e.symm rfl)

theorem conv_step {o : Oper} {a : Act} {w : World} {K : Act → World → Prop} {x : Operand} (s : ByteArray) (ho : o.op = .convert 9 41 x) (hx : a.eval x = .string s)
    (h : ∀ c w', Row w' w.heap.size 5 (s.data.toList.map bv ++ List.replicate (c - s.size) (.int .u8 0)) → Below w.heap.size w w' → K (a.put o.dst (.slice (some ⟨w.heap.size, 0, none⟩) s.size c)) w') : o.wp Try.prog a w K Q := by
  obtain ⟨c, w1, hr, _, hrow, hb, _⟩ := run_bytes (P := Try.prog) w 9 41 5 s Try.underlying9 Try.underlying41 Try.underlying5
  unfold Oper.wp execOp
  simp only [ho, Sem.run_bind, Sem.run_pure, Result.andThen_ok, hx, hr]
  exact h c w1 hrow hb
theorem bv_one : ∀ (L : List UInt8), ∀ u ∈ L.map bv, u.oneCell' = true := by
  intro L u hu
  obtain ⟨b, _, rfl⟩ := List.mem_map.1 hu
  rfl
theorem app_step {o : Oper} {a : Act} {w0 w : World} {K : Act → World → Prop} {s x : Operand} {base k m c : Nat} {v : Value} {L M : List UInt8} {pad : List Value} (hown : OwnB w base v L) (HB : Below base w0 w) (hbase : base ≤ w.heap.size)
    (hrow : Row w k 5 (M.map bv ++ pad)) (ho : o.op = .call { callee := .builtin .append, args := #[s, x], argTypes := #[41, 41] }) (hs : a.eval s = v) (hx : a.eval x = .slice (some ⟨k, 0, none⟩) m c) (hm : M.length = m) (hL : L.length ≤ 100000) (hM : M.length ≤ 100000)
    (h : ∀ v' w', OwnB w' base v' (L ++ M) → Below base w0 w' → w.grownBy w' v.ownBlock → (v'.ownBlock = v.ownBlock ∨ v'.ownBlock = some w.heap.size) → K (a.put o.dst v') w') : o.wp Try.prog a w K Q := by
  obtain ⟨i0, hi, hzz⟩ := Option.map_eq_some_iff.1 Reel.info_u8
  simp only [Prod.mk.injEq] at hzz
  obtain ⟨hz0, hz1, hz2⟩ := hzz
  obtain ⟨v', w', hr, h2, h3, _, h5⟩ := run_append_own_at (P := Try.prog) w base 41 o.type 5 i0 (.int .u8 0) 1 1 Try.underlying41 hi hz0 hz1 hz2 rfl (by decide) v L.length (L.map bv) hown ⟨k, 0, none⟩ m c (M.map bv) (by simp [hm]) (fun j u hu => by
    have ha : (⟨k, 0, none⟩ : Addr).add j = ⟨k, j, none⟩ := by unfold Addr.add; split <;> simp_all
    rw [ha]
    exact hrow.cell (by rw [List.getElem?_append_left (by obtain ⟨hj, _⟩ := List.getElem?_eq_some_iff.1 hu; exact hj)]; exact hu)) (bv_one M) (by unfold maxLen; omega) (by omega) hbase
  unfold Oper.wp execOp
  simp only [ho, resolve, invoke, builtin, Sem.run_bind, Sem.run_pure, Result.andThen_ok, List.map_toArray, List.map_cons, List.map_nil, hs, hx, hr]
  refine h v' w' ?_ (HB.grown h3 hbase (fun k hk => (hown.lt k hk).1)) h3 h5
  unfold OwnB
  rw [List.length_append, List.map_append, hm]
  exact h2
theorem string_of {w : World} {base : Nat} {v : Value} {L : List UInt8} (h : OwnB w base v L) : (convert 41 9 v).run Try.prog w = .ok (.string (bs L)) w :=
  run_string_own h Try.underlying41 Try.underlying5 Try.underlying9
end Go.Proofs.Ytebmalmciakhcaa.AnyI
