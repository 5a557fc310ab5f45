/- What may change of the world's old blocks: only those of a set. -/
import Derived.Test.YtcfjooeagfollaaMem
namespace Go.Proofs.Ytcfjooeagfollaa.Mem
open Go.RowKit Go.Proofs.Ytcfjooeagfollaa.Bytes
set_option linter.unusedSimpArgs false
set_option linter.unusedVariables false
set_option maxRecDepth 20000

structure Chg (S : Nat → Prop) (w w' : World) : Prop where
  os : w'.os = w.os
  tape : w'.tape = w.tape
  output : w'.output = w.output
  size : w.heap.size ≤ w'.heap.size
  block : ∀ k, k < w.heap.size → ¬ S k → w'.heap[k]? = w.heap[k]?

variable {S S2 : Nat → Prop} {w w1 w2 w' : World}
theorem Chg.refl (S : Nat → Prop) (w : World) : Chg S w w := ⟨rfl, rfl, rfl, Nat.le_refl _, fun _ _ _ => rfl⟩
theorem Chg.next (h : Chg S w w1) (k : Chg S2 w1 w2) (hs : ∀ b, b < w.heap.size → S2 b → S b) : Chg S w w2 :=
  ⟨k.os.trans h.os, k.tape.trans h.tape, k.output.trans h.output, Nat.le_trans h.size k.size, fun b hb hn => (k.block b (Nat.lt_of_lt_of_le hb h.size) (fun x => hn (hs b hb x))).trans (h.block b hb hn)⟩
theorem Chg.trans (h : Chg S w w1) (k : Chg S w1 w2) : Chg S w w2 := h.next k (fun _ _ x => x)
theorem Chg.mono (h : Chg S w w') (hs : ∀ b, b < w.heap.size → S b → S2 b) : Chg S2 w w' := ⟨h.os, h.tape, h.output, h.size, fun b hb hn => h.block b hb (fun x => hn (hs b hb x))⟩
theorem Chg.of_below (h : Below w.heap.size w w') : Chg S w w' := ⟨h.os, h.tape, h.output, h.size, fun b hb _ => h.block b hb⟩
theorem Chg.below (h : Chg S w w') {B : Nat} (hB : B ≤ w.heap.size) (hs : ∀ b, S b → B ≤ b) : Below B w w' := ⟨h.os, h.tape, h.output, h.size, fun b hb => h.block b (by omega) (fun x => by have := hs b x; omega)⟩
theorem Chg.of_grown {r : Option Nat} (h : w.grownBy w' r) : Chg (fun k => some k = r) w w' := ⟨h.os, h.tape, h.output, h.size, fun b hb hn => h.block b hb hn⟩
theorem Chg.drew (h : Chg S w w') : Chg S w w'.drew := ⟨h.os, h.tape, h.output, h.size, h.block⟩
theorem Chg.drewN (h : Chg S w w') (n : Nat) : Chg S w (w'.drewN n) := ⟨h.os, h.tape, h.output, h.size, h.block⟩
theorem Chg.alloc (h : Chg S w w') (o : Obj) : Chg S w (w'.alloc o) :=
  ⟨h.os, h.tape, h.output, by have := h.size; simp; omega, fun b hb hn => (Below.heap_alloc _ _ _ (Nat.lt_of_lt_of_le hb h.size)).trans (h.block b hb hn)⟩
theorem Chg.setCell (h : Chg S w w') {a : Addr} (ha : a.block < w.heap.size → S a.block) (v : Value) : Chg S w (w'.setCell a v) :=
  ⟨h.os, h.tape, h.output, by have := h.size; simp [World.setCell]; omega, fun b hb hn => (Below.heap_setCell _ _ _ _ (fun e : b = a.block => hn (by rw [e] at hb ⊢; exact ha hb))).trans (h.block b hb hn)⟩
theorem Row.chg {b : Nat} {e : TypeId} {cs : List Value} (h : Row w b e cs) (hc : Chg S w w') (hn : ¬ S b) : Row w' b e cs := h.block (hc.block b h.lt hn)
/-- One block. -/
abbrev One (b : Nat) : Nat → Prop := fun k => k = b
theorem Chg.put {b : Nat} (h : Chg (One b) w w') (o : Nat) (v : Value) : Chg (One b) w (w'.setCell ⟨b, o, none⟩ v) := h.setCell (fun _ => rfl) v
theorem below_chg {B : Nat} (h : Below B w w1) (k : Chg S w1 w2) (hB : B ≤ w.heap.size) (hs : ∀ b, S b → B ≤ b) : Below B w w2 := h.trans (k.below (Nat.le_trans hB h.size) hs)
theorem below_one {B b : Nat} (h : Below B w w1) (k : Chg (One b) w1 w2) (hB : B ≤ w.heap.size) (hs : B ≤ b) : Below B w w2 := below_chg h k hB (fun x hx => by rw [show x = b from hx]; exact hs)

/-- A slice of whole numbers that came in. -/
def Ints (w : World) (a : Option Addr) (len : Nat) (zs : List Int) : Prop := zs.length = len ∧ len ≤ 9223372036854775807 ∧ ∀ i, i < len → ∃ ad, a = some ad ∧ w.cell? (ad.add i) = some (.int .i64 (zs.getD i 0))
theorem Ints.at {w : World} {a : Option Addr} {len : Nat} {zs : List Int} (h : Ints w a len zs) {i : Nat} (hi : i < len) {w' : World} (hb : Below w.heap.size w w') : ∃ ad, a = some ad ∧ w'.cell? (ad.add i) = some (.int .i64 (zs.getD i 0)) := by
  obtain ⟨ad, rfl, hc⟩ := h.2.2 i hi
  refine ⟨ad, rfl, ?_⟩
  rw [hb.cell (World.block_lt_of_cell? w _ hc)]
  exact hc
theorem Ints.cell {w : World} {ad : Addr} {len : Nat} {zs : List Int} (h : Ints w (some ad) len zs) {i : Nat} (hi : i < len) {w' : World} (hb : Below w.heap.size w w') : w'.cell? (ad.add i) = some (.int .i64 (zs.getD i 0)) := by
  obtain ⟨ad', he, hc⟩ := h.at hi hb
  cases he
  exact hc
end Go.Proofs.Ytcfjooeagfollaa.Mem
