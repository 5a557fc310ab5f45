/- append of one element, and where the new row lies. -/
import Derived.Test.YtcfjooeagfollaaRegApp
import Derived.Test.YtcfjooeagfollaaOwn
import Derived.Maps.AppendAt
namespace Go.Proofs.Ytcfjooeagfollaa.Mem
open Go.RowKit Go.Proofs.Ytcfjooeagfollaa.Bytes
set_option linter.unusedSimpArgs false
set_option linter.unusedVariables false
set_option maxRecDepth 20000

theorem own_below {w w' : World} {base : Nat} {e : TypeId} {sz n : Nat} {v : Value} {xs : List Value} (h : w.ownsRow base e sz v n xs) (hb : Below w.heap.size w w') : w'.ownsRow base e sz v n xs :=
  Reel.own_chg h (Chg.of_below hb) (fun _ _ x => x)
theorem app1_at {P : Program} {ops : Array Oper} {rest : List Oper} {o : Oper} {a : Act} {Q : Exit → Act → World → Prop} {W0 : World} {base : Nat} {e : TypeId} {sz : Nat} {v : Value} {n : Nat} {xs news : List Value}
    (hown : W0.ownsRow base e sz v n xs) (hbase : base ≤ W0.heap.size) (t : TypeId) {z : Value} {bytes : Nat} (ht : P.underlying t = some (.slice e)) (hinfo : (P.info? e).map (fun i => (i.zero, i.size, i.bytes)) = some (some z, sz, bytes))
    (hzs : z.cells.size = sz) (hsz : 0 < sz) (hb0 : 0 < bytes) (hbytes : (n + 1) * bytes ≤ 140737488355328) (hl : news.length = sz) (h1 : ∀ u ∈ news, u.oneCell' = true)
    (hgd : o.guard = none) {s x : Operand} (ho : o.op = .call { callee := .builtin .append, args := #[s, x], argTypes := #[t, t] }) (hs : a.eval s = v) (hx : a.eval x = .slice (some ⟨W0.heap.size, 0, none⟩) 1 1)
    (h : ∀ v' w', w'.ownsRow base e sz v' (n + 1) (xs ++ news) → W0.grownBy w' v.ownBlock → (v'.ownBlock = v.ownBlock ∨ ∃ k, v'.ownBlock = some k ∧ W0.heap.size ≤ k) → wpList P ops Q rest (a.put o.dst v') w') :
    wpList P ops Q (o :: rest) a (W0.alloc (.cells news.toArray e)) := by
  obtain ⟨i0, hi, hzz⟩ := Option.map_eq_some_iff.1 hinfo
  simp only [Prod.mk.injEq] at hzz
  obtain ⟨hz0, hz1, hz2⟩ := hzz
  have hm : n + 1 ≤ maxLen := by
    have := Nat.le_trans (Nat.le_mul_of_pos_right (n + 1) hb0) hbytes
    unfold maxLen
    omega
  refine wpList_append_own_at _ hgd s x t ho base e i0 z sz bytes ht hi hz0 hz1 hz2 hzs hsz v n xs hs (hown.alloc _) ⟨W0.heap.size, 0, none⟩ 1 1 news hx (by omega) (fun j u hu => ?_) h1 hm hbytes (by simp; omega) ?_
  · have ha : (⟨W0.heap.size, 0, none⟩ : Addr).add j = ⟨W0.heap.size, j, none⟩ := by unfold Addr.add; split <;> simp_all
    rw [ha]
    exact (Row.new W0 e news).cell hu
  · intro v' w' h2 h3 _ h5
    exact h v' w' h2 (grown_of_alloc h3) (h5.imp id (fun e => ⟨_, e, by simp⟩))
end Go.Proofs.Ytcfjooeagfollaa.Mem
