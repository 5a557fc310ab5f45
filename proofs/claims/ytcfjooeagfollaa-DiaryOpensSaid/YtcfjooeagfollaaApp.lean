/- append of one element onto a row of the call's own, for the walk. -/
import Derived.Test.YtcfjooeagfollaaMem
import Derived.OwnWalk
import Derived.Laws.OwnMore
namespace Go.Proofs.Ytcfjooeagfollaa.Mem
open Go.RowKit Go.Proofs.Ytcfjooeagfollaa.Bytes
set_option linter.unusedSimpArgs false
set_option linter.unusedVariables false
set_option maxRecDepth 20000

theorem grown_of_alloc {w w' : World} {o : Obj} {r : Option Nat} (h : (w.alloc o).grownBy w' r) : w.grownBy w' r :=
  ⟨h.os, h.tape, h.output, by have := h.size; simp at this; omega, fun k hk hne => (h.block k (by simp; omega) hne).trans (Below.heap_alloc _ _ _ hk)⟩

theorem app1 {P : Program} {ops : Array Oper} {rest : List Oper} {o : Oper} {a : Act} {Q : Exit → Act → World → Prop} {w0 W0 : World} {base : Nat} {e : TypeId} {sz : Nat} {v : Value} {n : Nat} {xs news : List Value}
    (hown : W0.ownsRow base e sz v n xs) (HB : Below base w0 W0) (hbase : base ≤ W0.heap.size) (t : TypeId) {z : Value} {bytes : Nat} (ht : P.underlying t = some (.slice e)) (hinfo : (P.info? e).map (fun i => (i.zero, i.size, i.bytes)) = some (some z, sz, bytes))
    (hzs : z.cells.size = sz) (hsz : 0 < sz) (hb0 : 0 < bytes) (hbytes : (n + 1) * bytes ≤ 140737488355328) (hl : news.length = sz) (h1 : ∀ u ∈ news, u.oneCell' = true)
    (hgd : o.guard = none) {s x : Operand} (ho : o.op = .call { callee := .builtin .append, args := #[s, x], argTypes := #[t, t] }) (hs : a.eval s = v) (hx : a.eval x = .slice (some ⟨W0.heap.size, 0, none⟩) 1 1)
    (h : ∀ v' w', w'.ownsRow base e sz v' (n + 1) (xs ++ news) → Below base w0 w' → W0.grownBy w' v.ownBlock → wpList P ops Q rest (a.put o.dst v') w') :
    wpList P ops Q (o :: rest) a (W0.alloc (.cells news.toArray e)) := by
  obtain ⟨i0, hi, hzz⟩ := Option.map_eq_some_iff.1 hinfo
  simp only [Prod.mk.injEq] at hzz
  obtain ⟨hz0, hz1, hz2⟩ := hzz
  have hm : n + 1 ≤ maxLen := by
    have := Nat.le_trans (Nat.le_mul_of_pos_right (n + 1) hb0) hbytes
    unfold maxLen
    omega
  refine wpList_append_own _ hgd s x t ho base e i0 z sz bytes ht hi hz0 hz1 hz2 hzs hsz v n xs hs (hown.alloc _) ⟨W0.heap.size, 0, none⟩ 1 1 news hx (by omega) (fun j u hu => ?_) h1 hm hbytes (by simp; omega) ?_
  · have ha : (⟨W0.heap.size, 0, none⟩ : Addr).add j = ⟨W0.heap.size, j, none⟩ := by unfold Addr.add; split <;> simp_all
    rw [ha]
    exact (Row.new W0 e news).cell hu
  · intro v' w' h2 h3 _
    have hg := grown_of_alloc h3
    exact h v' w' h2 (HB.grown hg hbase (fun k hk => (hown.lt k hk).1)) hg

/-- The same, as one step of a region that draws. -/
theorem app1_step {P : Program} {ops : Array Oper} {o : Oper} {a : Act} {K : Act → World → Prop} {Q : Exit → Act → World → Prop} {E : Prop} {w0 W0 : World} {base : Nat} {e : TypeId} {sz : Nat} {v : Value} {n : Nat} {xs news : List Value}
    (hown : W0.ownsRow base e sz v n xs) (HB : Below base w0 W0) (hbase : base ≤ W0.heap.size) (t : TypeId) {z : Value} {bytes : Nat} (ht : P.underlying t = some (.slice e)) (hinfo : (P.info? e).map (fun i => (i.zero, i.size, i.bytes)) = some (some z, sz, bytes))
    (hzs : z.cells.size = sz) (hsz : 0 < sz) (hb0 : 0 < bytes) (hbytes : (n + 1) * bytes ≤ 140737488355328) (hl : news.length = sz) (h1 : ∀ u ∈ news, u.oneCell' = true)
    (hgd : o.guard = none) {s x : Operand} (ho : o.op = .call { callee := .builtin .append, args := #[s, x], argTypes := #[t, t] }) (hs : a.eval s = v) (hx : a.eval x = .slice (some ⟨W0.heap.size, 0, none⟩) 1 1)
    (h : ∀ v' w', w'.ownsRow base e sz v' (n + 1) (xs ++ news) → Below base w0 w' → W0.grownBy w' v.ownBlock → K (a.put o.dst v') w') :
    if Region.wanted o (yielded ops a.tmps) = true then Oper.wp P o a (W0.alloc (.cells news.toArray e)) K Q else E := by
  obtain ⟨i0, hi, hzz⟩ := Option.map_eq_some_iff.1 hinfo
  simp only [Prod.mk.injEq] at hzz
  obtain ⟨hz0, hz1, hz2⟩ := hzz
  have hm : n + 1 ≤ maxLen := by
    have := Nat.le_trans (Nat.le_mul_of_pos_right (n + 1) hb0) hbytes
    unfold maxLen
    omega
  have hw : Region.wanted o (yielded ops a.tmps) = true := by simp [Region.wanted, hgd]
  rw [if_pos hw]
  refine wp_append_own _ s x t ho base e i0 z sz bytes ht hi hz0 hz1 hz2 hzs hsz v n xs hs (hown.alloc _) ⟨W0.heap.size, 0, none⟩ 1 1 news hx (by omega) (fun j u hu => ?_) h1 hm hbytes (by simp; omega) ?_
  · have ha : (⟨W0.heap.size, 0, none⟩ : Addr).add j = ⟨W0.heap.size, j, none⟩ := by unfold Addr.add; split <;> simp_all
    rw [ha]
    exact (Row.new W0 e news).cell hu
  · intro v' w' h2 h3 _
    have hg := grown_of_alloc h3
    exact h v' w' h2 (HB.grown hg hbase (fun k hk => (hown.lt k hk).1)) hg

theorem run_string_own {P : Program} {w : World} {base n : Nat} {e' e src dst : TypeId} {v : Value} {l : List UInt8} (h : w.ownsRow base e' 1 v n (l.map bv)) (hs : P.underlying src = some (.slice e)) (he : P.underlying e = some (.int .u8)) (hd : P.underlying dst = some .string) :
    (convert src dst v).run P w = .ok (.string (bs l)) w := by
  have hl : l.length = n := by have := h.1; simp at this; exact this
  rcases h.2 with ⟨rfl, rfl⟩ | ⟨g, cap, cur, rfl, _⟩
  · obtain rfl : l = [] := List.eq_nil_of_length_eq_zero hl
    exact run_convert_bytes_nil w src e hs he 0 0 dst hd
  · rw [run_convert_bytes_arg w src e hs he g 0 n cap (l.map fun x => (x.toNat : Int)) (by simpa using hl) (fun i hi => ?_) dst hd, strOf_bytes]
    have hil : i < l.length := by omega
    have hc := h.cells (g := g) rfl i (bv l[i]) (by simp [hil])
    have ha : (⟨g, 0, none⟩ : Addr).add i = ⟨g, 0 + i, none⟩ := by unfold Addr.add; split <;> simp_all
    rw [ha] at hc
    rw [hc]
    simp [bv, List.getD, hil]

/-- 'int(uint(a) % uint(b))'. -/
theorem idx_mod (a b : Int) (h0 : 0 < b) (h1 : b ≤ 4611686018427387904) : ∃ k : Nat, wrap64 ((IntKind.u64.wrap a).tmod b) = (k : Int) ∧ (k : Int) < b := by
  have hw : 0 ≤ IntKind.u64.wrap a := by
    simp only [IntKind.wrap, IntKind.bits, IntKind.signed]
    simp
    exact Int.emod_nonneg _ (by decide)
  generalize IntKind.u64.wrap a = x at hw
  have hp := Int.emod_nonneg x (show b ≠ 0 by omega)
  have hl := Int.emod_lt_of_pos x h0
  rw [Int.tmod_eq_emod_of_nonneg hw]
  refine ⟨(x % b).toNat, ?_, by omega⟩
  generalize x % b = y at hp hl
  unfold wrap64
  omega
end Go.Proofs.Ytcfjooeagfollaa.Mem
