/- append of one element onto a row of the call's own, as a step of a region; min of two. -/
import Derived.Test.YtcfjooeagfollaaReg
import Derived.Test.YtcfjooeagfollaaApp
import Derived.Test.YtcfjooeagfollaaChg
import Derived.Maps.AppendAt
namespace Go.Proofs.Ytcfjooeagfollaa.Mem
open Go.RowKit Go.Proofs.Ytcfjooeagfollaa.Bytes
set_option linter.unusedSimpArgs false
set_option linter.unusedVariables false
set_option maxRecDepth 20000

theorem app1_op {P : Program} {o : Oper} {a : Act} {K : Act → World → Prop} {Q : Exit → Act → World → Prop} {W0 : World} {base : Nat} {e : TypeId} {sz : Nat} {v : Value} {n : Nat} {xs news : List Value}
    (hown : W0.ownsRow base e sz v n xs) (hbase : base ≤ W0.heap.size) (t : TypeId) {z : Value} {bytes : Nat} (ht : P.underlying t = some (.slice e)) (hinfo : (P.info? e).map (fun i => (i.zero, i.size, i.bytes)) = some (some z, sz, bytes))
    (hzs : z.cells.size = sz) (hsz : 0 < sz) (hb0 : 0 < bytes) (hbytes : (n + 1) * bytes ≤ 140737488355328) (hl : news.length = sz) (h1 : ∀ u ∈ news, u.oneCell' = true)
    {s x : Operand} (ho : o.op = .call { callee := .builtin .append, args := #[s, x], argTypes := #[t, t] }) (hs : a.eval s = v) (hx : a.eval x = .slice (some ⟨W0.heap.size, 0, none⟩) 1 1)
    (h : ∀ v' w', w'.ownsRow base e sz v' (n + 1) (xs ++ news) → W0.grownBy w' v.ownBlock → K (a.put o.dst v') w') :
    Oper.wp P o a (W0.alloc (.cells news.toArray e)) K Q := by
  obtain ⟨i0, hi, hzz⟩ := Option.map_eq_some_iff.1 hinfo
  simp only [Prod.mk.injEq] at hzz
  obtain ⟨hz0, hz1, hz2⟩ := hzz
  have hm : n + 1 ≤ maxLen := by
    have := Nat.le_trans (Nat.le_mul_of_pos_right (n + 1) hb0) hbytes
    unfold maxLen
    omega
  refine wp_append_own _ s x t ho base e i0 z sz bytes ht hi hz0 hz1 hz2 hzs hsz v n xs hs (hown.alloc _) ⟨W0.heap.size, 0, none⟩ 1 1 news hx (by omega) (fun j u hu => ?_) h1 hm hbytes (by simp; omega) ?_
  · have ha : (⟨W0.heap.size, 0, none⟩ : Addr).add j = ⟨W0.heap.size, j, none⟩ := by unfold Addr.add; split <;> simp_all
    rw [ha]
    exact (Row.new W0 e news).cell hu
  · intro v' w' h2 h3 _
    exact h v' w' h2 (grown_of_alloc h3)
theorem chg_grown {S : Nat → Prop} {w w' : World} {r : Option Nat} (h : w.grownBy w' r) (hr : ∀ k, r = some k → S k) : Chg S w w' := (Chg.of_grown h).mono (fun k _ x => hr k x.symm)
/-- A call that makes memory is a change of none of the old blocks. -/
theorem chg_none {w w' : World} (h : Below w.heap.size w w') : Chg (fun _ => False) w w' := Chg.of_below h
theorem run_min2 (P : Program) (t : TypeId) (a b : Nat) (W : World) : (Builtin.min_ #[t, t] t #[.int .i64 (a : Int), .int .i64 (b : Int)]).run P W = .ok (.int .i64 ((min a b : Nat) : Int)) W := by
  rw [min_of_two, min2_ints]
  have e : (if (b : Int) < (a : Int) then (b : Int) else (a : Int)) = ((min a b : Nat) : Int) := by split <;> omega
  rw [e]
  simp
end Go.Proofs.Ytcfjooeagfollaa.Mem
