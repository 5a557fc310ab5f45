/- Memory: a block known whole, and how the world's changes leave it. -/
import Derived.Below
import Derived.WalkKit
import Derived.RowKit3
import Derived.Deep.Draws
import Derived.Lib.ConvBytes
import Derived.Laws.BytesArg
import Derived.Laws.AppendOwn
import Derived.Test.YtcfjooeagfollaaBytes
namespace Go.Proofs.Ytcfjooeagfollaa.Mem
open Go.RowKit Go.Proofs.Ytcfjooeagfollaa.Bytes
set_option linter.unusedSimpArgs false
set_option linter.unusedVariables false
set_option maxRecDepth 20000

/-- Block b holds just these cells, and they may be written. -/
def Row (w : World) (b : Nat) (e : TypeId) (cs : List Value) : Prop := ∃ fz : Nat × Nat, w.heap[b]? = some (.cells cs.toArray e fz) ∧ ∀ i, i < cs.length → ¬ (fz.1 ≤ i ∧ i < fz.2)

theorem Row.of {w : World} {b : Nat} {e : TypeId} {cs : List Value} (h : w.heap[b]? = some (.cells cs.toArray e (0, 0))) : Row w b e cs := ⟨(0, 0), h, fun i _ h => by omega⟩
theorem Row.lt {w : World} {b : Nat} {e : TypeId} {cs : List Value} (h : Row w b e cs) : b < w.heap.size := by
  obtain ⟨fz, h, _⟩ := h
  rcases Nat.lt_or_ge b w.heap.size with h' | h'
  · exact h'
  · rw [Array.getElem?_eq_none h'] at h; cases h
theorem Row.cell {w : World} {b : Nat} {e : TypeId} {cs : List Value} (h : Row w b e cs) {i : Nat} {v : Value} (hi : cs[i]? = some v) : w.cell? ⟨b, i, none⟩ = some v := by
  obtain ⟨fz, h, _⟩ := h
  simp [World.cell?, h, hi]
theorem Row.frozen {w : World} {b : Nat} {e : TypeId} {cs : List Value} (h : Row w b e cs) (i : Nat) (hi : i < cs.length) : w.frozen? ⟨b, i, none⟩ = false := by
  obtain ⟨fz, h, hf⟩ := h
  have := hf i hi
  simp [World.frozen?, h]
  omega
theorem Row.cast {w : World} {b : Nat} {e : TypeId} {cs cs' : List Value} (h : Row w b e cs) (he : cs = cs') : Row w b e cs' := he ▸ h
theorem Row.new (w : World) (e : TypeId) (cs : List Value) : Row (w.alloc (.cells cs.toArray e)) w.heap.size e cs := Row.of (by
  show (w.heap.push _)[w.heap.size]? = _
  rw [Array.getElem?_push, if_pos rfl])
theorem Row.new' (w : World) (e : TypeId) (cs : Array Value) : Row (w.alloc (.cells cs e)) w.heap.size e cs.toList := Row.new w e cs.toList
theorem Row.block {w w' : World} {b : Nat} {e : TypeId} {cs : List Value} (h : Row w b e cs) (hb : w'.heap[b]? = w.heap[b]?) : Row w' b e cs := by
  obtain ⟨fz, h, hf⟩ := h
  exact ⟨fz, hb.trans h, hf⟩
theorem Row.alloc {w : World} {b : Nat} {e : TypeId} {cs : List Value} (h : Row w b e cs) (o : Obj) : Row (w.alloc o) b e cs := h.block (Below.heap_alloc _ _ _ h.lt)
theorem Row.drewN {w : World} {b : Nat} {e : TypeId} {cs : List Value} (h : Row w b e cs) (n : Nat) : Row (w.drewN n) b e cs := h
theorem Row.drew {w : World} {b : Nat} {e : TypeId} {cs : List Value} (h : Row w b e cs) : Row w.drew b e cs := h
theorem Row.set {w : World} {b : Nat} {e : TypeId} {cs : List Value} (h : Row w b e cs) (i : Nat) (v : Value) : Row (w.setCell ⟨b, i, none⟩ v) b e (cs.set i v) := by
  obtain ⟨fz, h, hf⟩ := h
  refine ⟨fz, ?_, by simpa using hf⟩
  simp only [World.setCell, Array.getElem?_modify]
  simp [h]
theorem Row.set_ne {w : World} {b : Nat} {e : TypeId} {cs : List Value} (h : Row w b e cs) (a : Addr) (v : Value) (hne : a.block ≠ b) : Row (w.setCell a v) b e cs :=
  h.block (Below.heap_setCell _ _ _ _ (fun x => hne x.symm))
theorem Row.below {w w' : World} {b B : Nat} {e : TypeId} {cs : List Value} (h : Row w b e cs) (hb : Below B w w') (hB : b < B) : Row w' b e cs := h.block (hb.block b hB)
theorem Row.grown {w w' : World} {b : Nat} {e : TypeId} {cs : List Value} (h : Row w b e cs) {r : Option Nat} (hg : w.grownBy w' r) (hne : some b ≠ r) : Row w' b e cs := h.block (hg.block b h.lt hne)

theorem below_of_drew {B : Nat} {w w' : World} (h : Below B w.drew w') : Below B w w' := ((Below.refl B w).drew).trans h
theorem below_drewN {B : Nat} {a w : World} (h : Below B a w) (n : Nat) : Below B a (w.drewN n) := ⟨h.os, h.tape, h.output, h.size, h.block⟩
theorem below_of_drewN {B : Nat} {w w' : World} {n : Nat} (h : Below B (w.drewN n) w') : Below B w w' := (below_drewN (Below.refl B w) n).trans h

theorem below_next {B : Nat} {w w1 w2 : World} (h : Below B w w1) (k : Below w1.heap.size w1 w2) (hB : B ≤ w.heap.size) : Below B w w2 := h.trans (k.mono (Nat.le_trans hB h.size))

/-- A byte as a cell. -/
def bv (b : UInt8) : Value := .int .u8 b.toNat

theorem run_string_row {P : Program} {w : World} {b : Nat} {e' e src dst : TypeId} {l : List UInt8} {r : List Value} (h : Row w b e' (l.map bv ++ r)) (hs : P.underlying src = some (.slice e)) (he : P.underlying e = some (.int .u8)) (hd : P.underlying dst = some .string) (cap : Nat) :
    (convert src dst (.slice (some ⟨b, 0, none⟩) l.length cap)).run P w = .ok (.string (bs l)) w := by
  rw [run_convert_bytes_arg w src e hs he b 0 l.length cap (l.map fun x => (x.toNat : Int)) (by simp) (fun i hi => ?_) dst hd, strOf_bytes]
  rw [Nat.zero_add]
  refine h.cell ?_
  rw [List.getElem?_append_left (by simpa using hi)]
  simp [hi, bv, List.getD]

/-- '[]byte(s)': a row of its own. -/
theorem run_bytes {P : Program} (w : World) (src dst e : TypeId) (s : ByteArray) {u : TypeDesc} (hs : P.underlying src = some u) (hd : P.underlying dst = some (.slice e)) (he : P.underlying e = some (.int .u8)) :
    ∃ c w1, (convert src dst (.string s)).run P w = .ok (.slice (some ⟨w.heap.size, 0, none⟩) s.size c) w1 ∧ s.size ≤ c ∧ Row w1 w.heap.size e (s.data.toList.map bv ++ List.replicate (c - s.size) (.int .u8 0)) ∧ Below w.heap.size w w1 ∧ w1.heap.size = w.heap.size + 1 := by
  refine ⟨grownCap w s.size 0 e, Lib.bytesWorld w e s, Lib.run_convert_string_bytes w src dst e s hs hd he, ?_, ⟨((Lib.bytesCells w e s).size, (Lib.bytesCells w e s).size + 1), ?_, ?_⟩, ⟨rfl, rfl, rfl, by rw [Lib.bytesWorld_size]; omega, fun k hk => Lib.bytesWorld_at_old w e s k hk⟩, Lib.bytesWorld_size w e s⟩
  · exact grownCap_ge _ _ _ _
  · rw [Lib.bytesWorld_at_new]
    congr 2
    simp [Lib.bytesCells, bv]
  · intro i hi h
    simp [Lib.bytesCells] at h
    simp at hi
    omega

/-! min and max of whole numbers, for the walk -/
theorem min2_ints (k k' : IntKind) (x y : Int) : Builtin.min2 (.int k x) (.int k' y) = pure (.int k (if y < x then y else x)) := by simp only [Builtin.min2]
theorem max2_ints (k k' : IntKind) (x y : Int) : Builtin.max2 (.int k x) (.int k' y) = pure (.int k (if x < y then y else x)) := by simp only [Builtin.max2]
theorem min_of_two (ats : Array TypeId) (ty : TypeId) (a b : Value) : Builtin.min_ ats ty #[a, b] = (Builtin.min2 a b >>= fun s => pure s) := by simp only [Builtin.min_, List.foldlM_cons, List.foldlM_nil]
theorem max_of_two (ats : Array TypeId) (ty : TypeId) (a b : Value) : Builtin.max_ ats ty #[a, b] = (Builtin.max2 a b >>= fun s => pure s) := by simp only [Builtin.max_, List.foldlM_cons, List.foldlM_nil]
theorem min_of_three (ats : Array TypeId) (ty : TypeId) (a b c : Value) : Builtin.min_ ats ty #[a, b, c] = (Builtin.min2 a b >>= fun s => Builtin.min2 s c >>= fun s => pure s) := by simp only [Builtin.min_, List.foldlM_cons, List.foldlM_nil]

theorem run_min3 (P : Program) (t : TypeId) (a b c : Nat) : ∃ n : Nat, (∀ W : World, (Builtin.min_ #[t, t, t] t #[.int .i64 (a : Int), .int .i64 (b : Int), .int .i64 (c : Int)]).run P W = .ok (.int .i64 (n : Int)) W) ∧ n ≤ a ∧ n ≤ b ∧ n ≤ c ∧ (n = a ∨ n = b ∨ n = c) := by
  refine ⟨min (min a b) c, fun W => ?_, by omega, by omega, by omega, by omega⟩
  rw [min_of_three]
  rw [min2_ints]
  have e : (if (b : Int) < (a : Int) then (b : Int) else (a : Int)) = ((min a b : Nat) : Int) := by split <;> omega
  have e2 : (if (c : Int) < ((min a b : Nat) : Int) then (c : Int) else ((min a b : Nat) : Int)) = ((min (min a b) c : Nat) : Int) := by split <;> omega
  rw [e, pure_bind, min2_ints, e2]
  simp
end Go.Proofs.Ytcfjooeagfollaa.Mem
