/- Maps keyed by whole numbers, with elements of whatever type, as functions. -/
import Derived.Maps.OwnSet
import Derived.Maps.OwnOps
import Derived.WideKeyEntry
import Derived.Test.YtcfjooeagfollaaChg
namespace Go.Proofs.Ytcfjooeagfollaa.Mem
open Go.RowKit Go.Maps Go.Proofs.Ytcfjooeagfollaa.Bytes
set_option linter.unusedSimpArgs false
set_option linter.unusedVariables false
set_option maxRecDepth 20000

/-- An element reads as itself. -/
def RV (v : Value) : Option (DataW Value × List MemPlace) := some (.held v, [])
/-- Block b is a map of at most n entries; at k it holds f k. -/
def IMap (P : Program) (K : TypeId) (w : World) (b n : Nat) (f : Int → Option Value) : Prop :=
  ∃ D, w.ownsMap P K RV b n D ∧ ∀ k : Int, (Lit.int .i64 k).wf = true → Maps.has D (.int .i64 k) = (f k).isSome ∧ ∀ z, D.atKey (.int .i64 k) (.held z) = .held ((f k).getD z)
theorem wf_i64 {k : Int} (h0 : -9223372036854775808 ≤ k) (h1 : k ≤ 9223372036854775807) : (Lit.int .i64 k).wf = true := by
  simp [Lit.wf, IntKind.min, IntKind.max, IntKind.signed, IntKind.bits]
  omega
section
variable {P : Program} {K : TypeId} {w w' : World} {b n : Nat} {f : Int → Option Value}
theorem IMap.made (P : Program) (K : TypeId) (w : World) : IMap P K (w.alloc (.map #[] 0)) w.heap.size 0 (fun _ => none) :=
  ⟨_, World.ownsMap_made _ _ _ _, fun k _ => ⟨rfl, fun z => rfl⟩⟩
theorem IMap.block (h : IMap P K w b n f) (hb : w'.heap[b]? = w.heap[b]?) : IMap P K w' b n f := by
  obtain ⟨D, ⟨es, clock, h1, h2⟩, hf⟩ := h
  exact ⟨D, ⟨es, clock, hb.trans h1, h2⟩, hf⟩
theorem IMap.lt (h : IMap P K w b n f) : b < w.heap.size := by
  obtain ⟨D, h, _⟩ := h
  exact h.lt
theorem IMap.chg {S : Nat → Prop} (h : IMap P K w b n f) (hc : Chg S w w') (hn : ¬ S b) : IMap P K w' b n f := h.block (hc.block b h.lt hn)
theorem IMap.below {B : Nat} (h : IMap P K w b n f) (hb : Below B w w') (hB : b < B) : IMap P K w' b n f := h.block (hb.block b hB)
theorem IMap.alloc (h : IMap P K w b n f) (o : Obj) : IMap P K (w.alloc o) b n f := h.block (Below.heap_alloc _ _ _ h.lt)
theorem IMap.drew (h : IMap P K w b n f) : IMap P K w.drew b n f := h.block rfl
theorem IMap.mono (h : IMap P K w b n f) {m : Nat} (hm : n ≤ m) : IMap P K w b m f := by
  obtain ⟨D, h, hf⟩ := h
  exact ⟨D, h.mono hm, hf⟩
theorem IMap.congr {g : Int → Option Value} (h : IMap P K w b n f) (hg : ∀ k, f k = g k) : IMap P K w b n g := by
  obtain rfl : f = g := funext hg
  exact h
/-- 'v, ok := m[k]'. -/
theorem IMap.look {t e : TypeId} (h : IMap P K w b n f) (hK : P.underlying K = some (.int .i64)) (ht : P.underlying t = some (.map K e)) {z : Value} (hz : (zeroValue e).run P w = .ok z w) {k : Int} (hk : (Lit.int .i64 k).wf = true) :
    (Instr.lookup t (.map (some b)) (.int .i64 k) true).run P w = .ok (.tuple #[(f k).getD z, .bool (f k).isSome]) w := by
  obtain ⟨D, h, hf⟩ := h
  obtain ⟨v, ps, hrun, hv⟩ := h.look_ok (int_keyed hK) ht hz (zd := .held z) (zp := []) rfl (keyOf_int_mk hK hk)
  obtain ⟨h1, h2⟩ := hf k hk
  have e : v = (f k).getD z := by
    have := congrArg (fun o => o.map Prod.fst) hv
    simp only [RV, Option.map_some, h2 z] at this
    have := Option.some.inj this
    injection this
  rw [hrun, h1, e]
/-- 'm[k] = v'. -/
theorem IMap.put {t e : TypeId} (h : IMap P K w b n f) (hK : P.underlying K = some (.int .i64)) (ht : P.underlying t = some (.map K e)) (hn : n < maxLen) {k : Int} (hk : (Lit.int .i64 k).wf = true) (v : Value) :
    ∃ w', (Instr.mapUpdate t (.map (some b)) (.int .i64 k) v).run P w = .ok () w' ∧ IMap P K w' b (n + 1) (fun j => if j = k then some v else f j) ∧ Chg (One b) w w' ∧ w'.heap.size = w.heap.size := by
  obtain ⟨D, h, hf⟩ := h
  obtain ⟨w1, hrun, h1, hg⟩ := h.store (int_keyed hK) ht hn (keyOf_int_mk hK hk) (show RV v = some (.held v, []) from rfl)
  have hz : w1.heap.size = w.heap.size := by
    obtain ⟨es, c, es', c', _, rfl⟩ := hg
    simp [Go.ChangeMaps.setBlock]
  have hc : Chg (One b) w w1 := (Chg.of_grown hg.grown).mono (fun k _ e => by cases e; rfl)
  refine ⟨w1, hrun, ⟨_, h1, fun j hj => ?_⟩, hc, hz⟩
  by_cases e : j = k
  · subst e
    simp only [if_true]
    have hkl : WideAt.IsKeyLit (Lit.int .i64 j) := (int_keyed hK).key (keyOf_int_mk hK hj)
    exact ⟨has_put_same (h.isMap) hkl _, fun z => atKey_put_same (h.isMap) hkl _ _⟩
  · simp only [e, if_false]
    have hne : (Lit.int .i64 j) ≠ .int .i64 k := fun h => e (by cases h; rfl)
    obtain ⟨g1, g2⟩ := hf j hj
    exact ⟨by rw [has_put_other hne]; exact g1, fun z => by rw [atKey_put_other hne]; exact g2 z⟩
/-- 'm[k], .. = v, ..' at a key that is not there yet: the entry is made, and filled later, in whatever world the block then lies in. -/
theorem IMap.entry_new {t e : TypeId} (h : IMap P K w b n f) (hK : P.underlying K = some (.int .i64)) (ht : P.underlying t = some (.map K e)) (hn : n < maxLen) {z : Value} (hz : ∀ u : World, (zeroValue e).run P u = .ok z u) {k : Int} (hk : (Lit.int .i64 k).wf = true) (hf : f k = none) :
    ∃ (st : Nat) (w1 : World), (Instr.mapEntry t (.map (some b)) (.int .i64 k)).run P w = .ok (.tuple #[z, goInt st]) w1 ∧ Chg (One b) w w1 ∧ w1.heap.size = w.heap.size ∧
      ∀ (w2 : World) (v : Value), w2.heap[b]? = w1.heap[b]? → ∃ w3, (Instr.entryStore t (.map (some b)) (goInt st) v).run P w2 = .ok () w3 ∧ IMap P K w3 b (n + 1) (fun j => if j = k then some v else f j) ∧ Chg (One b) w2 w3 ∧ w3.heap.size = w2.heap.size := by
  have KK := int_keyed hK
  have hkey := keyOf_int_mk hK hk
  have hput := fun v => h.put hK ht hn hk v
  obtain ⟨D, ⟨es, clock, hb, F, hsz, hD⟩, hfs⟩ := h
  have hset : ∀ (u : World) (o o' : Obj), u.heap[b]? = some o → (setObj b o').run P u = .ok () (Go.ChangeMaps.setBlock u b o') → Chg (One b) u (Go.ChangeMaps.setBlock u b o') ∧ (Go.ChangeMaps.setBlock u b o').heap.size = u.heap.size ∧ (Go.ChangeMaps.setBlock u b o').heap[b]? = some o' := fun u o o' hu _ => by
    have hlt : b < u.heap.size := by
      rcases Nat.lt_or_ge b u.heap.size with h | h
      · exact h
      · rw [Array.getElem?_eq_none h] at hu; cases hu
    refine ⟨⟨rfl, rfl, rfl, by simp [Go.ChangeMaps.setBlock], fun i _ hi => ?_⟩, by simp [Go.ChangeMaps.setBlock], by simp [Go.ChangeMaps.setBlock, hlt]⟩
    simp only [Go.ChangeMaps.setBlock]
    rw [Array.getElem?_setIfInBounds_ne (fun e => hi e.symm)]
  have hno : (∀ x ∈ es.toList, x.key ≠ .int .i64 k) := by
    rcases Go.Maps.fit_look true KK ht (hz w) hb F hkey with ⟨_, h2, _⟩ | ⟨e0, y, _, _, _, _, hat, _⟩
    · exact h2
    · have h1 := (hfs k hk).1
      rw [hf, hD, Maps.has_true_of_atKey hat] at h1
      cases h1
  have hfind : (Instr.findKey K (.int .i64 k) es.toList).run P w = .ok none w := by
    rcases KK.find w hkey es.toList F.keys with ⟨h1, _⟩ | ⟨j, e0, _, h2, h3⟩
    · exact h1
    · exact absurd h3 (hno e0 (List.mem_of_getElem? h2))
  obtain ⟨s1, s2, _⟩ := F.stamped
  have r1 := MapKept.run_setObj_map (P := P) (.map (es.push ⟨.int .i64 k, z, clock⟩) (clock + 1)) hb
  have q1 := hset w _ (.map (es.push ⟨.int .i64 k, z, clock⟩) (clock + 1)) hb (by simpa [Go.ChangeMaps.setBlock] using r1)
  refine ⟨clock, Go.ChangeMaps.setBlock w b (.map (es.push ⟨.int .i64 k, z, clock⟩) (clock + 1)), ?_, q1.1, q1.2.1, fun w2 v hw2 => ?_⟩
  · simp [Instr.mapEntry, run_underlying ht, MapKept.run_getObj_map hb, KK.check w false hkey, hfind, hz, r1, Result.andThen, Go.ChangeMaps.setBlock]
  · rw [q1.2.2] at hw2
    have hidx : (es.push ⟨.int .i64 k, z, clock⟩).findIdx? (fun e => ((e.born : Nat) : Int) == ((clock : Nat) : Int)) = some es.size := by
      rw [Go.WideElems.findIdx_arr]
      have := Go.WideElems.findIdx_born (l := (es.push ⟨.int .i64 k, z, clock⟩).toList) (j := es.size) (e0 := ⟨.int .i64 k, z, clock⟩) (by
        rw [Array.toList_push, List.map_append]
        refine List.nodup_append.2 ⟨s2, by simp, fun a ha c hc e1 => ?_⟩
        obtain ⟨x, hx, rfl⟩ := List.mem_map.1 ha
        have := s1 x hx
        have e2 : c = clock := by simpa using hc
        omega) (by simp)
      exact this
    have hmod : (es.push ⟨.int .i64 k, z, clock⟩).modify es.size (fun e => { e with val := v }) = es.push ⟨.int .i64 k, v, clock⟩ := by
      apply Array.ext'
      rw [Array.toList_modify, Array.toList_push, Array.toList_push, ← Array.length_toList, Go.WideElems.modify_last]
    have r2 := MapKept.run_setObj_map (P := P) (.map (es.push ⟨.int .i64 k, v, clock⟩) (clock + 1)) hw2
    have q2 := hset w2 _ (.map (es.push ⟨.int .i64 k, v, clock⟩) (clock + 1)) hw2 (by simpa [Go.ChangeMaps.setBlock] using r2)
    obtain ⟨w', hrun, hI, _, _⟩ := hput v
    have hw' : w' = Go.ChangeMaps.setBlock w b (.map (es.push ⟨.int .i64 k, v, clock⟩) (clock + 1)) := by
      have r3 := MapKept.run_setObj_map (P := P) (.map (es.push ⟨.int .i64 k, v, clock⟩) (clock + 1)) hb
      simp [Instr.mapUpdate, run_underlying ht, MapKept.run_getObj_map hb, KK.check w false hkey, hfind, r3, Result.andThen] at hrun
      rw [← hrun]
      rfl
    have q3 := hset w _ (.map (es.push ⟨.int .i64 k, v, clock⟩) (clock + 1)) hb (by simpa [Go.ChangeMaps.setBlock] using MapKept.run_setObj_map (P := P) (.map (es.push ⟨.int .i64 k, v, clock⟩) (clock + 1)) hb)
    refine ⟨_, ?_, hI.block (by rw [q2.2.2, hw', q3.2.2]), q2.1, q2.2.1⟩
    simp [Instr.entryStore, MapKept.run_getObj_map hw2, asInt, asIntOf, goInt, hidx, hmod, r2, Result.andThen, Go.ChangeMaps.setBlock]
theorem wp_put {ops : Array Oper} {rest : List Oper} {o : Oper} {a : Act} {Q : Exit → Act → World → Prop} (h : IMap P K w b n f) (hK : P.underlying K = some (.int .i64)) {t e : TypeId} (ht : P.underlying t = some (.map K e)) (hn : n < maxLen)
    (hg : o.guard = none) {m x v : Operand} (hop : o.op = .mapUpdate t m x v) {k : Int} (hk : (Lit.int .i64 k).wf = true) {u : Value} (hm : a.eval m = .map (some b)) (hx : a.eval x = .int .i64 k) (hv : a.eval v = u)
    (hK' : ∀ w', IMap P K w' b (n + 1) (fun j => if j = k then some u else f j) → Chg (One b) w w' → w'.heap.size = w.heap.size → wpList P ops Q rest (a.put o.dst undef) w') : wpList P ops Q (o :: rest) a w := by
  obtain ⟨w', hrun, h1, h2, h3⟩ := h.put hK ht hn hk u
  refine wpList_plain hg fun K' hK2 => ?_
  unfold Oper.wp
  simp [execOp, hop, hm, hx, hv, hrun, Result.andThen]
  exact hK2 _ _ (hK' w' h1 h2 h3)
end
end Go.Proofs.Ytcfjooeagfollaa.Mem
