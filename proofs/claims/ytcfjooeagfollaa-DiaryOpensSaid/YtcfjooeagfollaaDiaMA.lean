/- Merged by merge.py out of IMap, LexH, Reg, RegApp, Els, AppAt. -/
import Derived.Maps.OwnSet
import Derived.Maps.OwnOps
import Derived.WideKeyEntry
import Derived.Test.YtcfjooeagfollaaChg
import Derived.Deep.RegionHeld3
import Derived.Test.YtcfjooeagfollaaApp
import Derived.Maps.AppendAt
import Derived.Test.YtcfjooeagfollaaOwn
import Derived.Test.YtcfjooeagfollaaCod
/- Maps keyed by whole numbers, with elements of whatever type, as functions. -/
namespace Go.Proofs.Ytcfjooeagfollaa.Mem
open Go.RowKit Go.Maps Go.Proofs.Ytcfjooeagfollaa.Bytes
set_option linter.unusedSimpArgs false
set_option linter.unusedVariables false
set_option maxRecDepth 20000

/-- An element reads as itself. -/
def RV (v : Value) : Option (DataW Value × List MemPlace) := some (.held v, [])
/-- Block b is a map of at most n entries; at k it holds f k. -/
def IMap (P : Program) (K : TypeId) (w : World) (b n : Nat) (f : Int → Option Value) : Prop :=
  ∃ D, w.ownsMap P K RV b n D ∧ ∀ k : Int, (Lit.int .i64 k).wf = true → Maps.has D (.int .i64 k) = (f k).isSome ∧ ∀ z, D.atKey (.int .i64 k) (.held z) = .held ((f k).getD z)
theorem wf_i64 {k : Int} (h0 : -9223372036854775808 ≤ k) (h1 : k ≤ 9223372036854775807) : (Lit.int .i64 k).wf = true := by
  simp [Lit.wf, IntKind.min, IntKind.max, IntKind.signed, IntKind.bits]
  omega
section
variable {P : Program} {K : TypeId} {w w' : World} {b n : Nat} {f : Int → Option Value}
theorem IMap.made (P : Program) (K : TypeId) (w : World) : IMap P K (w.alloc (.map #[] 0)) w.heap.size 0 (fun _ => none) :=
  ⟨_, World.ownsMap_made _ _ _ _, fun k _ => ⟨rfl, fun z => rfl⟩⟩
theorem IMap.block (h : IMap P K w b n f) (hb : w'.heap[b]? = w.heap[b]?) : IMap P K w' b n f := by
  obtain ⟨D, ⟨es, clock, h1, h2⟩, hf⟩ := h
  exact ⟨D, ⟨es, clock, hb.trans h1, h2⟩, hf⟩
theorem IMap.lt (h : IMap P K w b n f) : b < w.heap.size := by
  obtain ⟨D, h, _⟩ := h
  exact h.lt
theorem IMap.chg {S : Nat → Prop} (h : IMap P K w b n f) (hc : Chg S w w') (hn : ¬ S b) : IMap P K w' b n f := h.block (hc.block b h.lt hn)
theorem IMap.below {B : Nat} (h : IMap P K w b n f) (hb : Below B w w') (hB : b < B) : IMap P K w' b n f := h.block (hb.block b hB)
theorem IMap.alloc (h : IMap P K w b n f) (o : Obj) : IMap P K (w.alloc o) b n f := h.block (Below.heap_alloc _ _ _ h.lt)
theorem IMap.drew (h : IMap P K w b n f) : IMap P K w.drew b n f := h.block rfl
theorem IMap.mono (h : IMap P K w b n f) {m : Nat} (hm : n ≤ m) : IMap P K w b m f := by
  obtain ⟨D, h, hf⟩ := h
  exact ⟨D, h.mono hm, hf⟩
theorem IMap.congr {g : Int → Option Value} (h : IMap P K w b n f) (hg : ∀ k, f k = g k) : IMap P K w b n g := by
  obtain rfl : f = g := funext hg
  exact h
/-- 'v, ok := m[k]'. -/
theorem IMap.look {t e : TypeId} (h : IMap P K w b n f) (hK : P.underlying K = some (.int .i64)) (ht : P.underlying t = some (.map K e)) {z : Value} (hz : (zeroValue e).run P w = .ok z w) {k : Int} (hk : (Lit.int .i64 k).wf = true) :
    (Instr.lookup t (.map (some b)) (.int .i64 k) true).run P w = .ok (.tuple #[(f k).getD z, .bool (f k).isSome]) w := by
  obtain ⟨D, h, hf⟩ := h
  obtain ⟨v, ps, hrun, hv⟩ := h.look_ok (int_keyed hK) ht hz (zd := .held z) (zp := []) rfl (keyOf_int_mk hK hk)
  obtain ⟨h1, h2⟩ := hf k hk
  have e : v = (f k).getD z := by
    have := congrArg (fun o => o.map Prod.fst) hv
    simp only [RV, Option.map_some, h2 z] at this
    have := Option.some.inj this
    injection this
  rw [hrun, h1, e]
/-- 'm[k] = v'. -/
theorem IMap.put {t e : TypeId} (h : IMap P K w b n f) (hK : P.underlying K = some (.int .i64)) (ht : P.underlying t = some (.map K e)) (hn : n < maxLen) {k : Int} (hk : (Lit.int .i64 k).wf = true) (v : Value) :
    ∃ w', (Instr.mapUpdate t (.map (some b)) (.int .i64 k) v).run P w = .ok () w' ∧ IMap P K w' b (n + 1) (fun j => if j = k then some v else f j) ∧ Chg (One b) w w' ∧ w'.heap.size = w.heap.size := by
  obtain ⟨D, h, hf⟩ := h
  obtain ⟨w1, hrun, h1, hg⟩ := h.store (int_keyed hK) ht hn (keyOf_int_mk hK hk) (show RV v = some (.held v, []) from rfl)
  have hz : w1.heap.size = w.heap.size := by
    obtain ⟨es, c, es', c', _, rfl⟩ := hg
    simp [Go.ChangeMaps.setBlock]
  have hc : Chg (One b) w w1 := (Chg.of_grown hg.grown).mono (fun k _ e => by cases e; rfl)
  refine ⟨w1, hrun, ⟨_, h1, fun j hj => ?_⟩, hc, hz⟩
  by_cases e : j = k
  · subst e
    simp only [if_true]
    have hkl : WideAt.IsKeyLit (Lit.int .i64 j) := (int_keyed hK).key (keyOf_int_mk hK hj)
    exact ⟨has_put_same (h.isMap) hkl _, fun z => atKey_put_same (h.isMap) hkl _ _⟩
  · simp only [e, if_false]
    have hne : (Lit.int .i64 j) ≠ .int .i64 k := fun h => e (by cases h; rfl)
    obtain ⟨g1, g2⟩ := hf j hj
    exact ⟨by rw [has_put_other hne]; exact g1, fun z => by rw [atKey_put_other hne]; exact g2 z⟩
/-- 'm[k], .. = v, ..' at a key that is not there yet: the entry is made, and filled later, in whatever world the block then lies in. -/
theorem IMap.entry_new {t e : TypeId} (h : IMap P K w b n f) (hK : P.underlying K = some (.int .i64)) (ht : P.underlying t = some (.map K e)) (hn : n < maxLen) {z : Value} (hz : ∀ u : World, (zeroValue e).run P u = .ok z u) {k : Int} (hk : (Lit.int .i64 k).wf = true) (hf : f k = none) :
    ∃ (st : Nat) (w1 : World), (Instr.mapEntry t (.map (some b)) (.int .i64 k)).run P w = .ok (.tuple #[z, goInt st]) w1 ∧ Chg (One b) w w1 ∧ w1.heap.size = w.heap.size ∧
      ∀ (w2 : World) (v : Value), w2.heap[b]? = w1.heap[b]? → ∃ w3, (Instr.entryStore t (.map (some b)) (goInt st) v).run P w2 = .ok () w3 ∧ IMap P K w3 b (n + 1) (fun j => if j = k then some v else f j) ∧ Chg (One b) w2 w3 ∧ w3.heap.size = w2.heap.size := by
  have KK := int_keyed hK
  have hkey := keyOf_int_mk hK hk
  have hput := fun v => h.put hK ht hn hk v
  obtain ⟨D, ⟨es, clock, hb, F, hsz, hD⟩, hfs⟩ := h
  have hset : ∀ (u : World) (o o' : Obj), u.heap[b]? = some o → (setObj b o').run P u = .ok () (Go.ChangeMaps.setBlock u b o') → Chg (One b) u (Go.ChangeMaps.setBlock u b o') ∧ (Go.ChangeMaps.setBlock u b o').heap.size = u.heap.size ∧ (Go.ChangeMaps.setBlock u b o').heap[b]? = some o' := fun u o o' hu _ => by
    have hlt : b < u.heap.size := by
      rcases Nat.lt_or_ge b u.heap.size with h | h
      · exact h
      · rw [Array.getElem?_eq_none h] at hu; cases hu
    refine ⟨⟨rfl, rfl, rfl, by simp [Go.ChangeMaps.setBlock], fun i _ hi => ?_⟩, by simp [Go.ChangeMaps.setBlock], by simp [Go.ChangeMaps.setBlock, hlt]⟩
    simp only [Go.ChangeMaps.setBlock]
    rw [Array.getElem?_setIfInBounds_ne (fun e => hi e.symm)]
  have hno : (∀ x ∈ es.toList, x.key ≠ .int .i64 k) := by
    rcases Go.Maps.fit_look true KK ht (hz w) hb F hkey with ⟨_, h2, _⟩ | ⟨e0, y, _, _, _, _, hat, _⟩
    · exact h2
    · have h1 := (hfs k hk).1
      rw [hf, hD, Maps.has_true_of_atKey hat] at h1
      cases h1
  have hfind : (Instr.findKey K (.int .i64 k) es.toList).run P w = .ok none w := by
    rcases KK.find w hkey es.toList F.keys with ⟨h1, _⟩ | ⟨j, e0, _, h2, h3⟩
    · exact h1
    · exact absurd h3 (hno e0 (List.mem_of_getElem? h2))
  obtain ⟨s1, s2, _⟩ := F.stamped
  have r1 := MapKept.run_setObj_map (P := P) (.map (es.push ⟨.int .i64 k, z, clock⟩) (clock + 1)) hb
  have q1 := hset w _ (.map (es.push ⟨.int .i64 k, z, clock⟩) (clock + 1)) hb (by simpa [Go.ChangeMaps.setBlock] using r1)
  refine ⟨clock, Go.ChangeMaps.setBlock w b (.map (es.push ⟨.int .i64 k, z, clock⟩) (clock + 1)), ?_, q1.1, q1.2.1, fun w2 v hw2 => ?_⟩
  · simp [Instr.mapEntry, run_underlying ht, MapKept.run_getObj_map hb, KK.check w false hkey, hfind, hz, r1, Result.andThen, Go.ChangeMaps.setBlock]
  · rw [q1.2.2] at hw2
    have hidx : (es.push ⟨.int .i64 k, z, clock⟩).findIdx? (fun e => ((e.born : Nat) : Int) == ((clock : Nat) : Int)) = some es.size := by
      rw [Go.WideElems.findIdx_arr]
      have := Go.WideElems.findIdx_born (l := (es.push ⟨.int .i64 k, z, clock⟩).toList) (j := es.size) (e0 := ⟨.int .i64 k, z, clock⟩) (by
        rw [Array.toList_push, List.map_append]
        refine List.nodup_append.2 ⟨s2, by simp, fun a ha c hc e1 => ?_⟩
        obtain ⟨x, hx, rfl⟩ := List.mem_map.1 ha
        have := s1 x hx
        have e2 : c = clock := by simpa using hc
        omega) (by simp)
      exact this
    have hmod : (es.push ⟨.int .i64 k, z, clock⟩).modify es.size (fun e => { e with val := v }) = es.push ⟨.int .i64 k, v, clock⟩ := by
      apply Array.ext'
      rw [Array.toList_modify, Array.toList_push, Array.toList_push, ← Array.length_toList, Go.WideElems.modify_last]
    have r2 := MapKept.run_setObj_map (P := P) (.map (es.push ⟨.int .i64 k, v, clock⟩) (clock + 1)) hw2
    have q2 := hset w2 _ (.map (es.push ⟨.int .i64 k, v, clock⟩) (clock + 1)) hw2 (by simpa [Go.ChangeMaps.setBlock] using r2)
    obtain ⟨w', hrun, hI, _, _⟩ := hput v
    have hw' : w' = Go.ChangeMaps.setBlock w b (.map (es.push ⟨.int .i64 k, v, clock⟩) (clock + 1)) := by
      have r3 := MapKept.run_setObj_map (P := P) (.map (es.push ⟨.int .i64 k, v, clock⟩) (clock + 1)) hb
      simp [Instr.mapUpdate, run_underlying ht, MapKept.run_getObj_map hb, KK.check w false hkey, hfind, r3, Result.andThen] at hrun
      rw [← hrun]
      rfl
    have q3 := hset w _ (.map (es.push ⟨.int .i64 k, v, clock⟩) (clock + 1)) hb (by simpa [Go.ChangeMaps.setBlock] using MapKept.run_setObj_map (P := P) (.map (es.push ⟨.int .i64 k, v, clock⟩) (clock + 1)) hb)
    refine ⟨_, ?_, hI.block (by rw [q2.2.2, hw', q3.2.2]), q2.1, q2.2.1⟩
    simp [Instr.entryStore, MapKept.run_getObj_map hw2, asInt, asIntOf, goInt, hidx, hmod, r2, Result.andThen, Go.ChangeMaps.setBlock]
theorem wp_put {ops : Array Oper} {rest : List Oper} {o : Oper} {a : Act} {Q : Exit → Act → World → Prop} (h : IMap P K w b n f) (hK : P.underlying K = some (.int .i64)) {t e : TypeId} (ht : P.underlying t = some (.map K e)) (hn : n < maxLen)
    (hg : o.guard = none) {m x v : Operand} (hop : o.op = .mapUpdate t m x v) {k : Int} (hk : (Lit.int .i64 k).wf = true) {u : Value} (hm : a.eval m = .map (some b)) (hx : a.eval x = .int .i64 k) (hv : a.eval v = u)
    (hK' : ∀ w', IMap P K w' b (n + 1) (fun j => if j = k then some u else f j) → Chg (One b) w w' → w'.heap.size = w.heap.size → wpList P ops Q rest (a.put o.dst undef) w') : wpList P ops Q (o :: rest) a w := by
  obtain ⟨w', hrun, h1, h2, h3⟩ := h.put hK ht hn hk u
  refine wpList_plain hg fun K' hK2 => ?_
  unfold Oper.wp
  simp [execOp, hop, hm, hx, hv, hrun, Result.andThen]
  exact hK2 _ _ (hK' w' h1 h2 h3)
end
end Go.Proofs.Ytcfjooeagfollaa.Mem

/- A held region that draws its order, gone through in the text's order, one step per operation. -/
namespace Go.Proofs.Ytcfjooeagfollaa.LexH
open Go
set_option linter.unusedSimpArgs false
set_option linter.unusedVariables false
set_option maxRecDepth 20000
variable {P : Program} {l : List Oper} {Q : Exit → Act → World → Prop} {md : Region.Mode} {S : World → Prop}

/-- The operations 'rest' are still to come, the first of them next. -/
def From (P : Program) (md : Region.Mode) (l : List Oper) (Q : Exit → Act → World → Prop) (S : World → Prop) (rest : List Oper) (listed : Array Bool) (a : Act) (w : World) : Prop :=
  wpAnyH P md l.toArray Q S rest.length listed a w
theorem start {id : Nat} {a : Act} {w : World} (hm : P.follows .mixedOrders = true) (hS : S w.drew)
    (h : S w.drew → From P .any l Q S l (Array.replicate l.length false) a w.drew) : (Code.region id l.toArray true).wp P Q a w :=
  wp_region_held_drew hm hS (fun hh => by simpa [From] using h hh)
theorem take {o : Oper} {rest : List Oper} {v : Value} {listed : Array Bool} {a : Act} {w : World} (hi : l.toArray[l.length - (rest.length + 1)]? = some o)
    (hs : Region.noSelect l.toArray = true) (hf : Region.free md l.toArray listed (l.length - (rest.length + 1)) = true) (hr : (Region.ready md l.toArray listed).contains (l.length - (rest.length + 1)) = true)
    (hQ : ∀ c a w, Q (.panic c) (a.put o.dst v) w → Q (.panic c) a w) (hw : Region.wanted o (yielded l.toArray a.tmps) = true)
    (hy : ∀ w, S w → (execOp a.eval o).run P w = .ok (.value v) w) (hS : S w)
    (h : From P md l Q S rest (listed.setIfInBounds (l.length - (rest.length + 1)) true) (a.put o.dst v) w) : From P md l Q S (o :: rest) listed a w :=
  wpAnyH_take hi hs hf hr hQ (.inl ⟨hw, hy⟩) hS h
theorem call {o : Oper} {rest : List Oper} {listed : Array Bool} {a : Act} {w : World} (hi : l.toArray[l.length - (rest.length + 1)]? = some o)
    (hr : Region.ready md l.toArray listed = [l.length - (rest.length + 1)]) (hw : Region.wanted o (yielded l.toArray a.tmps) = true)
    (h : ∀ K' : Act → World → Prop, Shut (∀ a w, S w → (S w → From P md l Q S rest (listed.setIfInBounds (l.length - (rest.length + 1)) true) a w) → K' a w) → Oper.wp P o a w K' Q) :
    From P md l Q S (o :: rest) listed a w :=
  wpAnyH_ready hr (by simp) (AllReadyH.cons hi (fun K' hK => by rw [if_pos hw]; exact h K' hK) AllReadyH.nil)
theorem done {listed : Array Bool} {a : Act} {w : World} (hr : Region.ready md l.toArray listed = []) (h : Q .normal a w) : From P md l Q S [] listed a w := wpAnyH_done hr h _
end Go.Proofs.Ytcfjooeagfollaa.LexH

/- A region that draws its order, gone through in an order of one's own choosing: what yields its value wherever S holds is taken first; S need not hold behind the late operations (L), for which all that is taken waits. -/
namespace Go.Proofs.Ytcfjooeagfollaa.Reg
open Go
set_option linter.unusedSimpArgs false
set_option linter.unusedVariables false
set_option maxRecDepth 20000
variable {P : Program} {ops : Array Oper} {l : List Oper} {Q : Exit → Act → World → Prop} {md : Region.Mode} {S : World → Prop} {L : Nat → Bool}

def Any (P : Program) (md : Region.Mode) (ops : Array Oper) (Q : Exit → Act → World → Prop) (S : World → Prop) (L : Nat → Bool) : Nat → Array Bool → Act → World → Prop
  | 0, listed, a, w => Region.ready md ops listed = [] ∧ Q .normal a w
  | fuel + 1, listed, a, w =>
    (Region.ready md ops listed = [] → Q .normal a w) ∧
    ∀ i ∈ Region.ready md ops listed, wpOp P ops Q i (fun a' w' => (L i = false → S w') ∧ Any P md ops Q S L fuel (listed.setIfInBounds i true) a' w') a w
theorem any_of : ∀ (fuel : Nat) (listed : Array Bool) (a : Act) (w : World), Any P md ops Q S L fuel listed a w → wpAny P md ops Q fuel listed a w
  | 0, _, _, _, h => h
  | fuel + 1, _, _, _, h => ⟨h.1, fun i hi => wpOp_mono (fun a' w' h' => any_of fuel _ a' w' h'.2) (h.2 i hi)⟩
/-- The late operations wait for i. -/
def waits (md : Region.Mode) (ops : Array Oper) (L : Nat → Bool) (i : Nat) : Bool := (List.range ops.size).all fun j => !L j || ((ops[j]?).map fun o => o.after.any fun e => Region.binds md e && e.on == i).getD true
theorem waits_spec {i : Nat} (h : waits md ops L i = true) {j : Nat} {oj : Oper} (hj : ops[j]? = some oj) (hl : L j = true) : ∃ e ∈ oj.after, Region.binds md e = true ∧ e.on = i := by
  unfold waits at h
  rw [List.all_eq_true] at h
  have hlt : j < ops.size := by
    rcases Nat.lt_or_ge j ops.size with h' | h'
    · exact h'
    · rw [Array.getElem?_eq_none h'] at hj; cases hj
  have h1 := h j (List.mem_range.2 hlt)
  rw [hj, hl] at h1
  simp only [Bool.not_true, Bool.false_or, Option.map_some, Option.getD_some, Array.any_eq_true] at h1
  obtain ⟨k, hk, h2⟩ := h1
  rw [Bool.and_eq_true, beq_iff_eq] at h2
  exact ⟨_, Array.getElem_mem hk, h2⟩

theorem first {i : Nat} {oi : Oper} {v : Value} (hi : ops[i]? = some oi) (hsel : ∀ (j : Nat) (o : Oper) cs b, ops[j]? = some o → o.op ≠ .select cs b)
    (hQ : ∀ c a w, Q (.panic c) (a.put oi.dst v) w → Q (.panic c) a w) (hL : waits md ops L i = true) :
    ∀ (fuel : Nat) (listed : Array Bool) (a : Act) (w : World),
      (∀ j oj, ops[j]? = some oj → j ≠ i → listed.getD j true = false → (∀ e ∈ oj.after, Region.binds md e = true → e.on ≠ i) → oi.apart ops oj = true) →
      i ∈ Region.ready md ops listed → YieldsIf P ops S oi v a → S w →
      Any P md ops Q S L fuel (listed.setIfInBounds i true) (a.put oi.dst v) w → Any P md ops Q S L (fuel + 1) listed a w := by
  intro fuel
  induction fuel with
  | zero =>
    intro listed a w _ hr hy hS H
    refine ⟨fun h => (by rw [h] at hr; cases hr), fun j hj => ?_⟩
    by_cases hji : j = i
    · subst hji; exact hy.wpOp hi hS ⟨fun _ => hS, H⟩
    · have := ready_mono hj hji
      rw [H.1] at this
      cases this
  | succ fuel ih =>
    intro listed a w hfree hr hy hS H
    refine ⟨fun h => (by rw [h] at hr; cases hr), fun j hj => ?_⟩
    by_cases hji : j = i
    · subst hji; exact hy.wpOp hi hS ⟨fun _ => hS, H⟩
    · have h1 := H.2 j (ready_mono hj hji)
      obtain ⟨hjun, oj, hoj, hall⟩ := mem_ready.1 hj
      have hnot : ∀ e ∈ oj.after, Region.binds md e = true → e.on ≠ i := fun e he hb heq => by
        have h1 := hall e he hb
        have h0 := (mem_ready.1 hr).1
        rw [heq] at h1
        rcases Nat.lt_or_ge i listed.size with h' | h'
        · simp [h'] at h0 h1; rw [h0] at h1; cases h1
        · simp [Array.getElem?_eq_none h'] at h1
      have hlj : L j = false := by
        cases hl : L j
        · rfl
        · obtain ⟨e, he, hb, heq⟩ := waits_spec hL hoj hl
          exact absurd heq (hnot e he hb)
      have h2 := wpOp_putIf hoj (hfree j oj hoj hji hjun hnot) (fun cs b => hsel i oi cs b hi) (fun cs b => hsel j oj cs b hoj) hQ hy h1
      have hfree' : ∀ k ok, ops[k]? = some ok → k ≠ i → (listed.setIfInBounds j true).getD k true = false →
          (∀ e ∈ ok.after, Region.binds md e = true → e.on ≠ i) → oi.apart ops ok = true := fun k ok hk hki hun hno => by
        refine hfree k ok hk hki ?_ hno
        by_cases hjk : j = k
        · subst hjk; exact hjun
        · rw [getD_set_ne true hjk] at hun; exact hun
      refine wpOp_mono (fun a' w' h3 => ⟨fun hl => h3.2.1 hl, ih (listed.setIfInBounds j true) a' w' hfree' (ready_mono hr (Ne.symm hji)) h3.1 (h3.2.1 hlj) ?_⟩) h2
      rw [Array.setIfInBounds_comm _ _ hji]
      exact h3.2.2

theorem start (S : World → Prop) (L : Nat → Bool) {id : Nat} {a : Act} {w : World} (hm : P.follows .mixedOrders = true) (hS : S w.drew)
    (h : S w.drew → Any P .any l.toArray Q S L l.length (Array.replicate l.length false) a w.drew) : (Code.region id l.toArray true).wp P Q a w :=
  wp_region_any hm (any_of _ _ _ _ (by simpa using h hS))
/-- One that yields its value wherever S holds. -/
theorem takeI (i : Nat) {n : Nat} {o : Oper} {v : Value} {listed : Array Bool} {a : Act} {w : World} (hi : l[i]? = some o)
    (hs : Region.noSelect l.toArray = true) (hf : Region.free md l.toArray listed i = true) (hr : (Region.ready md l.toArray listed).contains i = true) (hL : waits md l.toArray L i = true)
    (hQ : ∀ c a w, Q (.panic c) (a.put o.dst v) w → Q (.panic c) a w) (hw : Region.wanted o (yielded l.toArray a.tmps) = true)
    (hy : ∀ w, S w → (execOp a.eval o).run P w = .ok (.value v) w) (hS : S w)
    (h : Any P md l.toArray Q S L n (listed.setIfInBounds i true) (a.put o.dst v) w) : Any P md l.toArray Q S L (n + 1) listed a w :=
  first (List.getElem?_toArray.trans hi) (Region.noSelect_spec hs) hQ hL n listed a w (Region.free_spec (List.getElem?_toArray.trans hi) hf) (by simpa using hr) (.inl ⟨hw, hy⟩) hS h
/-- One that is guarded, and not wanted. -/
theorem passI (i : Nat) {n : Nat} {o : Oper} {listed : Array Bool} {a : Act} {w : World} (hi : l[i]? = some o)
    (hs : Region.noSelect l.toArray = true) (hf : Region.free md l.toArray listed i = true) (hr : (Region.ready md l.toArray listed).contains i = true) (hL : waits md l.toArray L i = true)
    (hQ : ∀ c a w, Q (.panic c) (a.put o.dst undef) w → Q (.panic c) a w) (hw : Region.wanted o (yielded l.toArray a.tmps) = false) (hS : S w)
    (h : Any P md l.toArray Q S L n (listed.setIfInBounds i true) (a.put o.dst undef) w) : Any P md l.toArray Q S L (n + 1) listed a w :=
  first (List.getElem?_toArray.trans hi) (Region.noSelect_spec hs) hQ hL n listed a w (Region.free_spec (List.getElem?_toArray.trans hi) hf) (by simpa using hr) (.inr ⟨hw, rfl⟩) hS h
/-- It alone may come up. -/
theorem oneI (i : Nat) {n : Nat} {o : Oper} {listed : Array Bool} {a : Act} {w : World} (hi : l[i]? = some o)
    (hr : Region.ready md l.toArray listed = [i]) (hw : Region.wanted o (yielded l.toArray a.tmps) = true)
    (h : ∀ K' : Act → World → Prop, Shut (∀ a w, (L i = false → S w) → ((L i = false → S w) → Any P md l.toArray Q S L n (listed.setIfInBounds i true) a w) → K' a w) → Oper.wp P o a w K' Q) :
    Any P md l.toArray Q S L (n + 1) listed a w := by
  refine ⟨fun h0 => absurd (hr ▸ h0) (by simp), ?_⟩
  rw [hr]
  intro j hj
  obtain rfl := List.mem_singleton.1 hj
  exact wpOp_step (List.getElem?_toArray.trans hi) (fun K' hK => by rw [if_pos hw]; exact h K' (fun a w hS hW => hK a w ⟨hS, hW hS⟩))
theorem twoI (i j : Nat) {n : Nat} {o p : Oper} {listed : Array Bool} {a : Act} {w : World} (hi : l[i]? = some o) (hj : l[j]? = some p)
    (hr : Region.ready md l.toArray listed = [i, j]) (hw : Region.wanted o (yielded l.toArray a.tmps) = true) (hv : Region.wanted p (yielded l.toArray a.tmps) = true)
    (h : ∀ K' : Act → World → Prop, Shut (∀ a w, (L i = false → S w) → ((L i = false → S w) → Any P md l.toArray Q S L n (listed.setIfInBounds i true) a w) → K' a w) → Oper.wp P o a w K' Q)
    (h2 : ∀ K' : Act → World → Prop, Shut (∀ a w, (L j = false → S w) → ((L j = false → S w) → Any P md l.toArray Q S L n (listed.setIfInBounds j true) a w) → K' a w) → Oper.wp P p a w K' Q) :
    Any P md l.toArray Q S L (n + 1) listed a w := by
  refine ⟨fun h0 => absurd (hr ▸ h0) (by simp), ?_⟩
  rw [hr]
  intro k hk
  rcases List.mem_cons.1 hk with rfl | hk
  · exact wpOp_step (List.getElem?_toArray.trans hi) (fun K' hK => by rw [if_pos hw]; exact h K' (fun a w hS hW => hK a w ⟨hS, hW hS⟩))
  · obtain rfl := List.mem_singleton.1 hk
    exact wpOp_step (List.getElem?_toArray.trans hj) (fun K' hK => by rw [if_pos hv]; exact h2 K' (fun a w hS hW => hK a w ⟨hS, hW hS⟩))
theorem doneI {n : Nat} {listed : Array Bool} {a : Act} {w : World} (hr : Region.ready md l.toArray listed = []) (h : Q .normal a w) : Any P md l.toArray Q S L n listed a w := by
  cases n with
  | zero => exact ⟨hr, h⟩
  | succ n => exact ⟨fun _ => h, by rw [hr]; simp⟩
end Go.Proofs.Ytcfjooeagfollaa.Reg

/- append of one element onto a row of the call's own, as a step of a region; min of two. -/
namespace Go.Proofs.Ytcfjooeagfollaa.Mem
open Go.RowKit Go.Proofs.Ytcfjooeagfollaa.Bytes
set_option linter.unusedSimpArgs false
set_option linter.unusedVariables false
set_option maxRecDepth 20000

theorem app1_op {P : Program} {o : Oper} {a : Act} {K : Act → World → Prop} {Q : Exit → Act → World → Prop} {W0 : World} {base : Nat} {e : TypeId} {sz : Nat} {v : Value} {n : Nat} {xs news : List Value}
    (hown : W0.ownsRow base e sz v n xs) (hbase : base ≤ W0.heap.size) (t : TypeId) {z : Value} {bytes : Nat} (ht : P.underlying t = some (.slice e)) (hinfo : (P.info? e).map (fun i => (i.zero, i.size, i.bytes)) = some (some z, sz, bytes))
    (hzs : z.cells.size = sz) (hsz : 0 < sz) (hb0 : 0 < bytes) (hbytes : (n + 1) * bytes ≤ 140737488355328) (hl : news.length = sz) (h1 : ∀ u ∈ news, u.oneCell' = true)
    {s x : Operand} (ho : o.op = .call { callee := .builtin .append, args := #[s, x], argTypes := #[t, t] }) (hs : a.eval s = v) (hx : a.eval x = .slice (some ⟨W0.heap.size, 0, none⟩) 1 1)
    (h : ∀ v' w', w'.ownsRow base e sz v' (n + 1) (xs ++ news) → W0.grownBy w' v.ownBlock → K (a.put o.dst v') w') :
    Oper.wp P o a (W0.alloc (.cells news.toArray e)) K Q := by
  obtain ⟨i0, hi, hzz⟩ := Option.map_eq_some_iff.1 hinfo
  simp only [Prod.mk.injEq] at hzz
  obtain ⟨hz0, hz1, hz2⟩ := hzz
  have hm : n + 1 ≤ maxLen := by
    have := Nat.le_trans (Nat.le_mul_of_pos_right (n + 1) hb0) hbytes
    unfold maxLen
    omega
  refine wp_append_own _ s x t ho base e i0 z sz bytes ht hi hz0 hz1 hz2 hzs hsz v n xs hs (hown.alloc _) ⟨W0.heap.size, 0, none⟩ 1 1 news hx (by omega) (fun j u hu => ?_) h1 hm hbytes (by simp; omega) ?_
  · have ha : (⟨W0.heap.size, 0, none⟩ : Addr).add j = ⟨W0.heap.size, j, none⟩ := by unfold Addr.add; split <;> simp_all
    rw [ha]
    exact (Row.new W0 e news).cell hu
  · intro v' w' h2 h3 _
    exact h v' w' h2 (grown_of_alloc h3)
theorem chg_grown {S : Nat → Prop} {w w' : World} {r : Option Nat} (h : w.grownBy w' r) (hr : ∀ k, r = some k → S k) : Chg S w w' := (Chg.of_grown h).mono (fun k _ x => hr k x.symm)
/-- A call that makes memory is a change of none of the old blocks. -/
theorem chg_none {w w' : World} (h : Below w.heap.size w w') : Chg (fun _ => False) w w' := Chg.of_below h
theorem run_min2 (P : Program) (t : TypeId) (a b : Nat) (W : World) : (Builtin.min_ #[t, t] t #[.int .i64 (a : Int), .int .i64 (b : Int)]).run P W = .ok (.int .i64 ((min a b : Nat) : Int)) W := by
  rw [min_of_two, min2_ints]
  have e : (if (b : Int) < (a : Int) then (b : Int) else (a : Int)) = ((min a b : Nat) : Int) := by split <;> omega
  rw [e]
  simp
end Go.Proofs.Ytcfjooeagfollaa.Mem

/- Rows of elements of several cells each, as plain lists. -/
namespace Go.Proofs.Ytcfjooeagfollaa.Mem
open Go.RowKit Go.Proofs.Ytcfjooeagfollaa.Bytes
set_option linter.unusedSimpArgs false
set_option linter.unusedVariables false
set_option maxRecDepth 20000

/-- The elements lie in a row, each in sz cells. -/
def Els {α : Type} (enc : α → List Value) (sz : Nat) (w : World) (a : Option Addr) (l : List α) : Prop := ∀ i (h : i < l.length), ∃ ad, a = some ad ∧ ad.block < w.heap.size ∧ ∀ w', Below w.heap.size w w' → ∀ j v, (enc l[i])[j]? = some v → w'.cell? (ad.add (i * sz + j)) = some v
section
variable {α : Type} {enc : α → List Value} {sz : Nat} {w w' : World} {a : Option Addr} {l : List α}
theorem Els.keep (h : Els enc sz w a l) (hb : Below w.heap.size w w') : Els enc sz w' a l := fun i hi =>
  let ⟨ad, ha, hl, hc⟩ := h i hi
  ⟨ad, ha, Nat.lt_of_lt_of_le hl hb.size, fun w2 h2 => hc w2 (hb.trans (h2.mono hb.size))⟩
theorem Els.nil (enc : α → List Value) (sz : Nat) (w : World) (a : Option Addr) : Els enc sz w a [] := fun i h => by simp at h
theorem els_block (ad : Addr) (n : Nat) : (ad.add n).block = ad.block := by unfold Addr.add; split <;> rfl
theorem Els.chg {S : Nat → Prop} (h : Els enc sz w a l) (hc : Chg S w w') (hn : ∀ ad, a = some ad → ¬ S ad.block) : Els enc sz w' a l := by
  intro i hi
  obtain ⟨ad, ha, hl, hx⟩ := h i hi
  refine ⟨ad, ha, Nat.lt_of_lt_of_le hl hc.size, fun w2 h2 j v hv => ?_⟩
  have e1 : w2.heap[ad.block]? = w.heap[ad.block]? := (h2.block ad.block (Nat.lt_of_lt_of_le hl hc.size)).trans (hc.block ad.block hl (hn ad ha))
  have e2 := hx w (Below.refl _ _) j v hv
  rw [← e2]
  unfold World.cell?
  rw [els_block, e1]
/-- A field's address, as the walk spells it. -/
theorem els_field (ad : Addr) (n k : Nat) : (⟨(ad.add n).block, (ad.add n).off + (k + 1), none⟩ : Addr) = ad.add (n + (k + 1)) := by
  unfold Addr.add
  rw [if_neg (show ¬ n + (k + 1) = 0 by omega)]
  split
  · simp_all
  · simp; omega
/-- The element's cells, as the walk spells their addresses. -/
theorem Els.at (h : Els enc sz w a l) {i : Nat} (hi : i < l.length) (hb : Below w.heap.size w w') : ∃ ad, a = some ad ∧ ad.block < w.heap.size ∧ (∀ v, (enc l[i])[0]? = some v → w'.cell? (ad.add (i * sz)) = some v) ∧
    ∀ j v, (enc l[i])[j + 1]? = some v → w'.cell? ⟨(ad.add (i * sz)).block, (ad.add (i * sz)).off + (j + 1), none⟩ = some v := by
  obtain ⟨ad, ha, hl, hx⟩ := h i hi
  exact ⟨ad, ha, hl, fun v hv => hx w' hb 0 v hv, fun j v hv => by rw [els_field]; exact hx w' hb (j + 1) v hv⟩
/-- The same in every later world. -/
theorem Els.all (h : Els enc sz w a l) {i : Nat} (hi : i < l.length) : ∃ ad, a = some ad ∧ ad.block < w.heap.size ∧ ∀ w', Below w.heap.size w w' → (∀ v, (enc l[i])[0]? = some v → w'.cell? (ad.add (i * sz)) = some v) ∧
    ∀ j v, (enc l[i])[j + 1]? = some v → w'.cell? ⟨(ad.add (i * sz)).block, (ad.add (i * sz)).off + (j + 1), none⟩ = some v := by
  obtain ⟨ad, ha, hl, hx⟩ := h i hi
  exact ⟨ad, ha, hl, fun w' hb => ⟨fun v hv => hx w' hb 0 v hv, fun j v hv => by rw [els_field]; exact hx w' hb (j + 1) v hv⟩⟩
theorem els_flat (hs : ∀ x, (enc x).length = sz) (l : List α) (i j : Nat) (hi : i < l.length) (hj : j < sz) : (l.flatMap enc)[i * sz + j]? = (enc l[i])[j]? := by
  induction l generalizing i with
  | nil => simp at hi
  | cons v l ih =>
    have lv := hs v
    rw [List.flatMap_cons]
    cases i with
    | zero => rw [List.getElem?_append_left (by omega)]; simp
    | succ i =>
      rw [Nat.succ_mul, List.getElem?_append_right (by omega), lv, show i * sz + sz + j - sz = i * sz + j by omega, ih i (by simpa using hi)]
      rfl
theorem els_flat_len (hs : ∀ x, (enc x).length = sz) (l : List α) : (l.flatMap enc).length = l.length * sz := by
  induction l with
  | nil => simp
  | cons v l ih => rw [List.flatMap_cons, List.length_append, hs, ih, List.length_cons, Nat.succ_mul, Nat.add_comm]
/-- A row that was made. -/
theorem els_own {base : Nat} {e : TypeId} {v : Value} {n : Nat} (hs : ∀ x, (enc x).length = sz) (h : w.ownsRow base e sz v n (l.flatMap enc)) (hn : l.length = n) : ∃ a cap, v = .slice a n cap ∧ n ≤ cap ∧ Els enc sz w a l ∧ ∀ ad, a = some ad → base ≤ ad.block := by
  rcases Reel.own_shape h with ⟨a, cap, rfl, hc, ⟨rfl, rfl, rfl⟩ | ⟨g, rfl⟩⟩
  · obtain rfl := List.eq_nil_of_length_eq_zero hn
    exact ⟨_, _, rfl, hc, Els.nil _ _ _ _, fun ad h => by cases h⟩
  · refine ⟨_, _, rfl, hc, fun i hi => ⟨_, rfl, (h.lt g rfl).2, fun w' hb j v hv => ?_⟩, fun ad had => by cases had; exact (h.lt g rfl).1⟩
    have hj : j < sz := by
      obtain ⟨hj, _⟩ := List.getElem?_eq_some_iff.1 hv
      rwa [hs] at hj
    have hc := h.cells (g := g) rfl (i * sz + j) v (by rw [els_flat hs l i j hi hj]; exact hv)
    rw [hb.cell (World.block_lt_of_cell? w _ hc)]
    exact hc
/-- A row known whole. -/
theorem els_row {b : Nat} {e : TypeId} (hs : ∀ x, (enc x).length = sz) {k : Nat} {pre : List α} {post : List Value} (h : Row w b e ((pre ++ l).flatMap enc ++ post)) (hk : k = pre.length * sz) : Els enc sz w (some ⟨b, k, none⟩) l := by
  intro i hi
  refine ⟨_, rfl, h.lt, fun w' hb j v hv => ?_⟩
  have hj : j < sz := by
    obtain ⟨hj, _⟩ := List.getElem?_eq_some_iff.1 hv
    rwa [hs] at hj
  have ha : (⟨b, k, none⟩ : Addr).add (i * sz + j) = ⟨b, k + (i * sz + j), none⟩ := by unfold Addr.add; split <;> simp_all
  rw [ha]
  refine (h.below hb h.lt).cell ?_
  have hlt : pre.length + i < (pre ++ l).length := by rw [List.length_append]; omega
  have hg := els_flat hs (pre ++ l) (pre.length + i) j hlt hj
  have hlt2 : (pre.length + i) * sz + j < ((pre ++ l).flatMap enc).length := by
    rw [els_flat_len hs]
    have := Nat.mul_le_mul_right sz (show pre.length + i + 1 ≤ (pre ++ l).length by omega)
    rw [Nat.succ_mul] at this
    omega
  rw [show k + (i * sz + j) = (pre.length + i) * sz + j by rw [hk, Nat.add_mul]; omega, List.getElem?_append_left hlt2, hg, ← hv]
  congr 2
  rw [List.getElem_append_right (by omega)]
  congr 1
  omega
/-- The row from an element on. -/
theorem Els.drop {ad : Addr} (h : Els enc sz w (some ad) l) (k : Nat) : Els enc sz w (some (ad.add (k * sz))) (l.drop k) := by
  intro i hi
  rw [List.length_drop] at hi
  obtain ⟨ad', he, hl, hx⟩ := h (k + i) (by omega)
  cases he
  refine ⟨_, rfl, by rw [els_block]; exact hl, fun w' hb j v hv => ?_⟩
  rw [List.getElem_drop] at hv
  have := hx w' hb j v hv
  rw [Nat.add_mul, Nat.add_assoc] at this
  rw [← this]
  congr 1
  unfold Addr.add
  split <;> split <;> simp_all <;> omega
end
theorem els_in {α β : Type} {enc : β → List Value} {c : Cod α} (g : α → β) {w : World} {a : Option Addr} {n : Nat} {xs : List α} (h : c.Row w a n xs) (h0 : 0 < c.sz) (hR : ∀ cs x, c.R w cs x → cs = enc (g x)) : Els enc c.sz w a (xs.map g) := by
  intro i hi
  rw [List.length_map] at hi
  obtain ⟨ad, cs, ha, hl, hc, hr⟩ := h.2 i hi
  have he := hR _ _ hr
  refine ⟨ad, ha, hl.elim (fun e => by omega) id, fun w' hb j v hv => ?_⟩
  rw [List.getElem_map, ← he] at hv
  have hj : j < c.sz := by
    obtain ⟨hj, _⟩ := List.getElem?_eq_some_iff.1 hv
    rwa [c.len hr] at hj
  have h1 := (hc j hj).trans hv
  rw [hb.cell (World.block_lt_of_cell? w _ h1)]
  exact h1
end Go.Proofs.Ytcfjooeagfollaa.Mem

/- append of one element, and where the new row lies. -/
namespace Go.Proofs.Ytcfjooeagfollaa.Mem
open Go.RowKit Go.Proofs.Ytcfjooeagfollaa.Bytes
set_option linter.unusedSimpArgs false
set_option linter.unusedVariables false
set_option maxRecDepth 20000

theorem own_below {w w' : World} {base : Nat} {e : TypeId} {sz n : Nat} {v : Value} {xs : List Value} (h : w.ownsRow base e sz v n xs) (hb : Below w.heap.size w w') : w'.ownsRow base e sz v n xs :=
  Reel.own_chg h (Chg.of_below hb) (fun _ _ x => x)
theorem app1_at {P : Program} {ops : Array Oper} {rest : List Oper} {o : Oper} {a : Act} {Q : Exit → Act → World → Prop} {W0 : World} {base : Nat} {e : TypeId} {sz : Nat} {v : Value} {n : Nat} {xs news : List Value}
    (hown : W0.ownsRow base e sz v n xs) (hbase : base ≤ W0.heap.size) (t : TypeId) {z : Value} {bytes : Nat} (ht : P.underlying t = some (.slice e)) (hinfo : (P.info? e).map (fun i => (i.zero, i.size, i.bytes)) = some (some z, sz, bytes))
    (hzs : z.cells.size = sz) (hsz : 0 < sz) (hb0 : 0 < bytes) (hbytes : (n + 1) * bytes ≤ 140737488355328) (hl : news.length = sz) (h1 : ∀ u ∈ news, u.oneCell' = true)
    (hgd : o.guard = none) {s x : Operand} (ho : o.op = .call { callee := .builtin .append, args := #[s, x], argTypes := #[t, t] }) (hs : a.eval s = v) (hx : a.eval x = .slice (some ⟨W0.heap.size, 0, none⟩) 1 1)
    (h : ∀ v' w', w'.ownsRow base e sz v' (n + 1) (xs ++ news) → W0.grownBy w' v.ownBlock → (v'.ownBlock = v.ownBlock ∨ ∃ k, v'.ownBlock = some k ∧ W0.heap.size ≤ k) → wpList P ops Q rest (a.put o.dst v') w') :
    wpList P ops Q (o :: rest) a (W0.alloc (.cells news.toArray e)) := by
  obtain ⟨i0, hi, hzz⟩ := Option.map_eq_some_iff.1 hinfo
  simp only [Prod.mk.injEq] at hzz
  obtain ⟨hz0, hz1, hz2⟩ := hzz
  have hm : n + 1 ≤ maxLen := by
    have := Nat.le_trans (Nat.le_mul_of_pos_right (n + 1) hb0) hbytes
    unfold maxLen
    omega
  refine wpList_append_own_at _ hgd s x t ho base e i0 z sz bytes ht hi hz0 hz1 hz2 hzs hsz v n xs hs (hown.alloc _) ⟨W0.heap.size, 0, none⟩ 1 1 news hx (by omega) (fun j u hu => ?_) h1 hm hbytes (by simp; omega) ?_
  · have ha : (⟨W0.heap.size, 0, none⟩ : Addr).add j = ⟨W0.heap.size, j, none⟩ := by unfold Addr.add; split <;> simp_all
    rw [ha]
    exact (Row.new W0 e news).cell hu
  · intro v' w' h2 h3 _ h5
    exact h v' w' h2 (grown_of_alloc h3) (h5.imp id (fun e => ⟨_, e, by simp⟩))
end Go.Proofs.Ytcfjooeagfollaa.Mem
