/- Nodes as plain values; how they lie in memory. -/
import Derived.Test.YtcfjooeagfollaaNodeNum
import Derived.Test.YtcfjooeagfollaaOrd
import Derived.Test.YtcfjooeagfollaaCod
namespace Go.Proofs.Ytcfjooeagfollaa.Node
open Go.RowKit Go.Proofs.Ytcfjooeagfollaa.Mem Go.Proofs.Ytcfjooeagfollaa.Bytes Go.Proofs.Ytcfjooeagfollaa.Ord
set_option linter.unusedSimpArgs false
set_option linter.unusedVariables false
set_option maxRecDepth 20000

structure Ent where
  key : ByteArray
  val : ByteArray
  ghost : Bool
def noE : Ent := ⟨⟨#[]⟩, ⟨#[]⟩, false⟩
def Ent.cells (e : Ent) : List Value := [.string e.key, .string e.val, .bool e.ghost]
def Ent.ve (e : Ent) : Value := .agg #[.string e.key, .string e.val, .bool e.ghost]
structure Nd where
  tree : Int
  level : Int
  stamp : Int
  hasHigh : Bool
  high : ByteArray
  right : Int
  list : List Ent
def noN : Nd := ⟨0, 0, 0, false, ⟨#[]⟩, 0, []⟩
def Nd.cells (n : Nd) (p : Value) : List Value := [.int .i64 n.tree, .int .i64 n.level, .int .i64 n.stamp, .bool n.hasHigh, .string n.high, .int .i64 n.right, p]

/-- The entries lie in a row. -/
def Es (w : World) (a : Option Addr) (l : List Ent) : Prop := ∀ i (h : i < l.length), ∃ ad, a = some ad ∧ ad.block < w.heap.size ∧ ∀ w', Below w.heap.size w w' →
  w'.cell? (ad.add (i * 3)) = some (.string l[i].key) ∧ w'.cell? ⟨(ad.add (i * 3)).block, (ad.add (i * 3)).off + 1, none⟩ = some (.string l[i].val) ∧ w'.cell? ⟨(ad.add (i * 3)).block, (ad.add (i * 3)).off + 2, none⟩ = some (.bool l[i].ghost)
theorem Es.keep {w w' : World} {a : Option Addr} {l : List Ent} (h : Es w a l) (hb : Below w.heap.size w w') : Es w' a l := fun i hi =>
  let ⟨ad, ha, hl, hc⟩ := h i hi
  ⟨ad, ha, Nat.lt_of_lt_of_le hl hb.size, fun w2 h2 => hc w2 (hb.trans (h2.mono hb.size))⟩
theorem Es.chg {w w' : World} {a : Option Addr} {l : List Ent} {S : Nat → Prop} (h : Es w a l) (hc : Chg S w w') (hn : ∀ ad, a = some ad → ¬ S ad.block) : Es w' a l := by
  intro i hi
  obtain ⟨ad, ha, hl, hx⟩ := h i hi
  refine ⟨ad, ha, Nat.lt_of_lt_of_le hl hc.size, fun w2 h2 => ?_⟩
  have key : ∀ (x : Addr) (v : Value), x.block = ad.block → w.cell? x = some v → w2.cell? x = some v := fun x v hxb hv => by
    have e1 : w2.heap[x.block]? = w.heap[x.block]? := (h2.block x.block (by rw [hxb]; exact Nat.lt_of_lt_of_le hl hc.size)).trans (hc.block x.block (by rw [hxb]; exact hl) (by rw [hxb]; exact hn ad ha))
    rw [← hv]
    unfold World.cell?
    rw [e1]
  have hb : (ad.add (i * 3)).block = ad.block := by unfold Addr.add; split <;> rfl
  obtain ⟨c0, c1, c2⟩ := hx w (Below.refl _ _)
  exact ⟨key _ _ hb c0, key _ _ hb c1, key _ _ hb c2⟩
theorem Es.nil (w : World) (a : Option Addr) : Es w a [] := fun i h => by simp at h
/-- A field's address, as the walk spells it. -/
theorem add_field (ad : Addr) (n k : Nat) : (⟨(ad.add n).block, (ad.add n).off + (k + 1), none⟩ : Addr) = ad.add (n + (k + 1)) := by
  unfold Addr.add
  rw [if_neg (show ¬ n + (k + 1) = 0 by omega)]
  split
  · simp_all
  · simp; omega
abbrev entC : Cod (ByteArray × ByteArray × Bool × Unit) := Cod.pair Cod.str (Cod.pair Cod.str (Cod.pair Cod.bool Cod.unit))
def eOf (y : ByteArray × ByteArray × Bool × Unit) : Ent := ⟨y.1, y.2.1, y.2.2.1⟩
theorem es_row {w : World} {a : Option Addr} {n : Nat} {xs : List (ByteArray × ByteArray × Bool × Unit)} (h : entC.Row w a n xs) : Es w a (xs.map eOf) := by
  intro i hi
  rw [List.length_map] at hi
  obtain ⟨ad, cs, ha, hl, hc, hR⟩ := h.2 i hi
  obtain ⟨c1, c2, rfl, ⟨rfl, _⟩, c3, c4, rfl, ⟨rfl, _⟩, c5, c6, rfl, rfl, hu⟩ := hR
  obtain rfl : c6 = [] := hu
  have h0 := hc 0 (by decide)
  have h1 := hc 1 (by decide)
  have h2 := hc 2 (by decide)
  simp [entC, Cod.pair, Cod.bool, Cod.str, Cod.unit] at h0 h1 h2
  refine ⟨ad, ha, hl.elim (fun e => by cases e) id, fun w' hb => ?_⟩
  rw [add_field ad (i * 3) 0, add_field ad (i * 3) 1, List.getElem_map]
  exact ⟨(hb.cell (World.block_lt_of_cell? w _ h0)).trans h0, (hb.cell (World.block_lt_of_cell? w _ h1)).trans h1, (hb.cell (World.block_lt_of_cell? w _ h2)).trans h2⟩
theorem flat_get (l : List Ent) (i j : Nat) (hi : i < l.length) (hj : j < 3) : (l.flatMap Ent.cells)[i * 3 + j]? = (l[i].cells)[j]? := by
  induction l generalizing i with
  | nil => simp at hi
  | cons v l ih =>
    have lv : v.cells.length = 3 := rfl
    rw [List.flatMap_cons]
    cases i with
    | zero => rw [List.getElem?_append_left (by omega)]; simp
    | succ i =>
      rw [List.getElem?_append_right (by omega), lv, show (i + 1) * 3 + j - 3 = i * 3 + j by omega, ih i (by simpa using hi)]
      rfl
/-- A row that was made. -/
theorem es_own {w : World} {base : Nat} {e : TypeId} {v : Value} {n : Nat} {l : List Ent} (h : w.ownsRow base e 3 v n (l.flatMap Ent.cells)) (hn : l.length = n) : ∃ a cap, v = .slice a n cap ∧ Es w a l ∧ ∀ ad, a = some ad → base ≤ ad.block := by
  rcases Reel.own_shape h with ⟨a, cap, rfl, hc, ⟨rfl, rfl, rfl⟩ | ⟨g, rfl⟩⟩
  · obtain rfl := List.eq_nil_of_length_eq_zero hn
    exact ⟨_, _, rfl, Es.nil _ _, fun ad h => by cases h⟩
  · refine ⟨_, _, rfl, fun i hi => ⟨_, rfl, (h.lt g rfl).2, fun w' hb => ?_⟩, fun ad had => by cases had; exact (h.lt g rfl).1⟩
    have key : ∀ j, j < 3 → ∀ u, (l[i].cells)[j]? = some u → w'.cell? ((⟨g, 0, none⟩ : Addr).add (i * 3 + j)) = some u := fun j hj u hu => by
      have hc := h.cells (g := g) rfl (i * 3 + j) u (by rw [flat_get l i j hi hj]; exact hu)
      rw [hb.cell (World.block_lt_of_cell? w _ hc)]
      exact hc
    rw [add_field ⟨g, 0, none⟩ (i * 3) 0, add_field ⟨g, 0, none⟩ (i * 3) 1]
    exact ⟨key 0 (by omega) _ rfl, key 1 (by omega) _ rfl, key 2 (by omega) _ rfl⟩

def wf64 (z : Int) : Prop := -9223372036854775808 ≤ z ∧ z ≤ 9223372036854775807
/-- A value that is a node. -/
structure HasN (w : World) (v : Value) (n : Nd) : Prop where
  ex : ∃ a cap, v = .agg (n.cells (.slice a n.list.length cap)).toArray ∧ Es w a n.list
  len : n.list.length ≤ 9223372036854775807
  wf : wf64 n.tree ∧ wf64 n.level ∧ wf64 n.stamp ∧ wf64 n.right
  szs : n.high.size ≤ maxLen ∧ ∀ e ∈ n.list, e.key.size ≤ maxLen ∧ e.val.size ≤ maxLen
theorem HasN.keep {w w' : World} {v : Value} {n : Nd} (h : HasN w v n) (hb : Below w.heap.size w w') : HasN w' v n :=
  ⟨let ⟨a, cap, e, k⟩ := h.ex; ⟨a, cap, e, k.keep hb⟩, h.len, h.wf, h.szs⟩
abbrev nodeC : Cod (Int × Int × Int × Bool × ByteArray × Int × List (ByteArray × ByteArray × Bool × Unit) × Unit) :=
  Cod.pair (Cod.int .i64) (Cod.pair (Cod.int .i64) (Cod.pair (Cod.int .i64) (Cod.pair Cod.bool (Cod.pair Cod.str (Cod.pair (Cod.int .i64) (Cod.pair (Cod.slice entC) Cod.unit))))))
theorem wf64_of {z : Int} (h : (Lit.int .i64 z).wf = true) : wf64 z := by
  simp [Lit.wf, IntKind.min, IntKind.max, IntKind.signed, IntKind.bits] at h
  unfold wf64
  omega
/-- A node that came in. -/
theorem node_of {w : World} {cs : List Value} {y : _} (h : nodeC.R w cs y) : ∃ n : Nd, HasN w (.agg cs.toArray) n := by
  obtain ⟨c1, r1, rfl, ⟨rfl, w1⟩, c2, r2, rfl, ⟨rfl, w2⟩, c3, r3, rfl, ⟨rfl, w3⟩, c4, r4, rfl, rfl, c5, r5, rfl, ⟨rfl, w5⟩, c6, r6, rfl, ⟨rfl, w6⟩, c7, r7, rfl, ⟨a, n, cap, rfl, hn, hc, h0, hrow⟩, hu⟩ := h
  obtain rfl : r7 = [] := hu
  have hl := hrow.1
  refine ⟨⟨y.1, y.2.1, y.2.2.1, y.2.2.2.1, y.2.2.2.2.1, y.2.2.2.2.2.1, y.2.2.2.2.2.2.1.map eOf⟩, ⟨⟨a, cap, ?_, es_row hrow⟩, ?_, ⟨wf64_of w1, wf64_of w2, wf64_of w3, wf64_of w6⟩, w5, fun e he => ?_⟩⟩
  · rw [List.length_map, hl]; rfl
  · show (List.map eOf _).length ≤ _
    rw [List.length_map, hl]; unfold maxLen at hc; omega
  · obtain ⟨z, hz, rfl⟩ := List.mem_map.1 he
    obtain ⟨i, hi, rfl⟩ := List.getElem_of_mem hz
    obtain ⟨ad, cs, ha, hl, hc, hR⟩ := hrow.2 i hi
    obtain ⟨c1, c2, rfl, ⟨rfl, k1⟩, c3, c4, rfl, ⟨rfl, k2⟩, c5, c6, rfl, rfl, hu⟩ := hR
    exact ⟨k1, k2⟩
theorem noN_has (w : World) : HasN w (.agg #[.int .i64 0, .int .i64 0, .int .i64 0, .bool false, .string ⟨#[]⟩, .int .i64 0, .slice none 0 0]) noN :=
  ⟨⟨none, 0, rfl, Es.nil _ _⟩, by show 0 ≤ _; omega, by simp [noN, wf64], Nat.zero_le _, fun e he => by cases he⟩

/-! which can be -/
def entGood (e : Ent) (level : Int) : Bool := !(decide (0 < level) && ((e.val.size != 2) || e.ghost)) && ((e.key.size == 9) && decide (e.val.size ≤ 100))
def cov (n : Nd) (key : ByteArray) : Bool := !n.hasHigh || decide (cmpB key.data.toList n.high.data.toList = -1)
def headGood (n : Nd) : Bool := inb n.tree 255 && inb n.level 12 && inb n.stamp 2147483647 && inb n.right 255 && decide (n.list.length ≤ 100)
def highGood (n : Nd) : Bool := if n.hasHigh then n.high.size == 9 else n.high.size == 0
def entOk (n : Nd) (i : Nat) : Bool := entGood (n.list.getD i noE) n.level && ((decide (i = 0) || decide (cmpB (n.list.getD (i - 1) noE).key.data.toList (n.list.getD i noE).key.data.toList = -1)) && cov n (n.list.getD i noE).key)
def Nd.good (n : Nd) : Bool := headGood n && (highGood n && (List.range n.list.length).all (entOk n))
theorem good_iff (n : Nd) : n.good = true ↔ headGood n = true ∧ highGood n = true ∧ ∀ i, i < n.list.length → entOk n i = true := by
  simp [Nd.good]
theorem good_bad {n : Nd} {i : Nat} (hi : i < n.list.length) (h : entOk n i = false) : n.good = false := by
  rw [Bool.eq_false_iff]
  intro hg
  rw [((good_iff n).1 hg).2.2 i hi] at h
  cases h
def size0 : List Ent → Nat
  | [] => 0
  | e :: l => 11 + e.val.size + size0 l
def Nd.size (n : Nd) : Nat := 20 + size0 n.list
theorem size0_snoc (l : List Ent) (e : Ent) : size0 (l ++ [e]) = size0 l + (11 + e.val.size) := by
  induction l with
  | nil => simp [size0]
  | cons a l ih => rw [List.cons_append, size0, size0, ih]; omega
theorem size0_take {l : List Ent} {k : Nat} (h : k < l.length) : size0 (l.take (k + 1)) = size0 (l.take k) + (11 + l[k].val.size) := by
  rw [List.take_succ_eq_append_getElem h, size0_snoc]
theorem size0_le {l : List Ent} {k : Nat} : size0 (l.take k) ≤ size0 l := by
  induction l generalizing k with
  | nil => simp [size0]
  | cons a l ih => cases k with
    | zero => simp [size0]
    | succ k => rw [List.take_succ_cons, size0, size0]; have := ih (k := k); omega
def Nd.fits (n : Nd) : Bool := n.good && decide (n.size ≤ 252)
end Go.Proofs.Ytcfjooeagfollaa.Node
