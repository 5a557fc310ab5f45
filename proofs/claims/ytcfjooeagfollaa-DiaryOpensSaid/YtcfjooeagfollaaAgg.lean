/- Structs of many fields: loaded, stored and returned whole. -/
import Derived.Test.YtcfjooeagfollaaChg
import Derived.Deep.MidRow
import Derived.Tactics
namespace Go.Proofs.Ytcfjooeagfollaa.Mem
open Go.RowKit Go.Proofs.Ytcfjooeagfollaa.Bytes
set_option linter.unusedSimpArgs false
set_option linter.unusedVariables false
set_option maxRecDepth 20000

theorem Row.range {w : World} {b : Nat} {e : TypeId} {cs : List Value} (h : Row w b e cs) : w.rangeAt b 0 cs := fun j v hv => by
  rw [Nat.zero_add]
  exact h.cell hv
theorem Row.there {w : World} {b : Nat} {e : TypeId} {cs : List Value} (h : Row w b e cs) : w.there b 0 cs.length := fun j hj => by
  rw [Nat.zero_add]
  exact ⟨by rw [h.cell (List.getElem?_eq_getElem hj)]; rfl, h.frozen j hj⟩
theorem Chg.cells {S : Nat → Prop} {w : World} (b : Nat) (hb : S b) : ∀ (vs : List Value) (o : Nat) (w' : World), Chg S w w' → Chg S w (w'.setCells b o vs)
  | [], _, _, h => h
  | v :: r, o, w', h => Chg.cells b hb r (o + 1) _ (h.setCell (a := ⟨b, o, none⟩) (fun _ => hb) v)
theorem Row.cells {b : Nat} {e : TypeId} : ∀ (vs pre cs : List Value) (w : World), Row w b e (pre ++ cs) → vs.length = cs.length → Row (w.setCells b pre.length vs) b e (pre ++ vs)
  | [], pre, cs, w, h, hl => by
    obtain rfl : cs = [] := List.eq_nil_of_length_eq_zero hl.symm
    exact h
  | v :: r, pre, c :: cs, w, h, hl => by
    have h1 := h.set pre.length v
    have e1 : (pre ++ c :: cs).set pre.length v = (pre ++ [v]) ++ cs := by simp [List.set_append]
    rw [e1] at h1
    have h2 := Row.cells r (pre ++ [v]) cs _ h1 (by simpa using hl)
    rw [List.length_append, List.append_assoc] at h2
    exact h2
  | v :: r, pre, [], w, h, hl => by simp at hl

section
variable {P : Program} {ops : Array Oper} {rest : List Oper} {o : Oper} {a : Act} {w : World} {Q : Exit → Act → World → Prop} {b : Nat} {e : TypeId} {cs : List Value}
/-- A struct that is a block of its own is loaded. -/
theorem load_row (hr : Row w b e cs) (ty : TypeId) {d : TypeDesc} (hu : P.underlying ty = some d) (hd : d.isRow = true) (hi : (P.info? ty).map (·.size) = some cs.length)
    (hgd : o.guard = none) {x : Operand} (ho : o.op = .load ty x) (hx : a.eval x = .pointer (some ⟨b, 0, none⟩))
    (h : wpList P ops Q rest (a.put o.dst (.agg cs.toArray)) w) : wpList P ops Q (o :: rest) a w :=
  wpList_load_mid hgd ty x ho b 0 hx cs d hr.range hu hd hi h
/-- The same, where the operation is guarded and wanted. -/
theorem load_row_g (hr : Row w b e cs) (ty : TypeId) {d : TypeDesc} (hu : P.underlying ty = some d) (hd : d.isRow = true) (hi : (P.info? ty).map (·.size) = some cs.length)
    (hw : Region.wanted o (yielded ops a.tmps) = true) {x : Operand} (ho : o.op = .load ty x) (hx : a.eval x = .pointer (some ⟨b, 0, none⟩))
    (h : wpList P ops Q rest (a.put o.dst (.agg cs.toArray)) w) : wpList P ops Q (o :: rest) a w :=
  wpList_step fun K hK => by
    rw [if_pos hw]
    exact wp_load_mid ty x ho b 0 hx cs d hr.range hu hd hi (hK _ _ h)
/-- It is stored: all that is known of the world behind it. -/
theorem store_row (hr : Row w b e cs) (vs : List Value) (ty : TypeId) (hi : (P.info? ty).map (·.size) = some vs.length) (hl : vs.length = cs.length) (h1 : ∀ v ∈ vs, v.oneCell' = true)
    (hgd : o.guard = none) {x y : Operand} (ho : o.op = .store ty x y) (hx : a.eval x = .pointer (some ⟨b, 0, none⟩)) (hy : a.eval y = .agg vs.toArray)
    (h : ∀ w', Row w' b e vs → Chg (One b) w w' → w'.heap.size = w.heap.size → wpList P ops Q rest (a.put o.dst undef) w') : wpList P ops Q (o :: rest) a w := by
  refine wpList_store_mid hgd ty x y ho b 0 vs.toArray hx hy (by simpa [hl] using hr.there) (by simpa using hi) (all_oneCell_toArray h1) ?_
  have hs : ∀ (vs : List Value) (o : Nat) (w : World), (w.setCells b o vs).heap.size = w.heap.size := by
    intro vs
    induction vs with
    | nil => intro o w; rfl
    | cons v r ih => intro o w; exact (ih (o + 1) _).trans (by simp [World.setCell])
  refine h _ ?_ ?_ (hs _ _ _)
  · have := Row.cells vs [] cs w hr hl
    simpa using this
  · exact Chg.cells (S := One b) b rfl _ _ _ (Chg.refl _ _)
end
section
variable {P : Program} {fn : Func} {R : Ending → World → Prop} {a : Act} {w : World} {b : Nat} {e : TypeId} {cs : List Value}
theorem run_row (hr : Row w b e cs) (ty : TypeId) {d : TypeDesc} (hu : P.underlying ty = some d) (hd : d.isRow = true) (hi : (P.info? ty).map (·.size) = some cs.length) : (loadVar ty ⟨b, 0, none⟩).run P w = .ok (.agg cs.toArray) w :=
  run_loadVar_mid w b 0 ty cs d hr.range hu hd hi
/-- A struct is returned. -/
theorem ret_row (hr : Row w b e cs) {p : Tmp} {ty : TypeId} (h : fn.results = #[.cell p ty]) {d : TypeDesc} (hu : P.underlying ty = some d) (hd : d.isRow = true) (hi : (P.info? ty).map (·.size) = some cs.length)
    (hp : a.tmps.getD p undef = .pointer (some ⟨b, 0, none⟩)) (hdf : a.defers = []) (hR : R (.returned (.agg cs.toArray)) w) : bodyPost P fn R .ret a w := by
  refine bodyPost_ret ?_ hdf hR
  have hp' : a.tmps[p]?.getD undef = .pointer (some ⟨b, 0, none⟩) := by simpa using hp
  simp [results, h, hp', asAddr, run_row hr ty hu hd hi]
theorem ret_row2 (hr : Row w b e cs) {p : Tmp} {ty : TypeId} {t1 : Tmp} (h : fn.results = #[.cell p ty, .tmp t1]) {d : TypeDesc} (hu : P.underlying ty = some d) (hd : d.isRow = true) (hi : (P.info? ty).map (·.size) = some cs.length)
    (hp : a.tmps.getD p undef = .pointer (some ⟨b, 0, none⟩)) (hdf : a.defers = []) (hR : R (.returned (.tuple #[.agg cs.toArray, a.tmps.getD t1 undef])) w) : bodyPost P fn R .ret a w := by
  refine bodyPost_ret ?_ hdf hR
  have hp' : a.tmps[p]?.getD undef = .pointer (some ⟨b, 0, none⟩) := by simpa using hp
  simp [results, h, hp', asAddr, run_row hr ty hu hd hi]
theorem ret_row3 (hr : Row w b e cs) {p : Tmp} {ty : TypeId} {t1 t2 : Tmp} (h : fn.results = #[.cell p ty, .tmp t1, .tmp t2]) {d : TypeDesc} (hu : P.underlying ty = some d) (hd : d.isRow = true) (hi : (P.info? ty).map (·.size) = some cs.length)
    (hp : a.tmps.getD p undef = .pointer (some ⟨b, 0, none⟩)) (hdf : a.defers = []) (hR : R (.returned (.tuple #[.agg cs.toArray, a.tmps.getD t1 undef, a.tmps.getD t2 undef])) w) : bodyPost P fn R .ret a w := by
  refine bodyPost_ret ?_ hdf hR
  have hp' : a.tmps[p]?.getD undef = .pointer (some ⟨b, 0, none⟩) := by simpa using hp
  simp [results, h, hp', asAddr, run_row hr ty hu hd hi]
end
end Go.Proofs.Ytcfjooeagfollaa.Mem
