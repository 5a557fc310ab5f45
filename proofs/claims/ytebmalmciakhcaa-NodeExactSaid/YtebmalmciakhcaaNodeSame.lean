/- node.Child, node.Lead; gaugerref08.Same. Printed by node_same.py -/
import Derived.Test.YtebmalmciakhcaaNodeRead
namespace Go.Proofs.Ytebmalmciakhcaa.Node
open Go.RowKit Go.Proofs.Ytebmalmciakhcaa.Mem Go.Proofs.Ytebmalmciakhcaa.Bytes Go.Proofs.Ytebmalmciakhcaa.Ord
set_option linter.unusedSimpArgs false
set_option linter.unusedVariables false

open Classical in
noncomputable def sameN (n m : Nd) : Bool := decide (n = m)
theorem same_self (n : Nd) : sameN n n = true := by unfold sameN; simp
theorem same_not {n m : Nd} (h : ¬ n = m) : sameN n m = false := by unfold sameN; simp [h]
theorem same_iff {n m : Nd} : sameN n m = true ↔ n = m := by unfold sameN; simp

set_option maxHeartbeats 4000000 in
theorem refsame_calls (n m : Nd) (a a' : Option Addr) (cap cap' : Nat) (w : World) (hE : Es w a n.list) (hE' : Es w a' m.list) (hl : n.list.length ≤ 9223372036854775807) (hl' : m.list.length ≤ 9223372036854775807) :
    Calls Try.prog 19 #[.agg (n.cells (.slice a n.list.length cap)).toArray, .agg (m.cells (.slice a' m.list.length cap')).toArray] w fun e w' => e = .returned (.bool (sameN n m)) ∧ Below w.heap.size w w' := by
  obtain ⟨t, l, s, h, hi, r, es⟩ := n
  obtain ⟨t', l', s', h', hi', r', es'⟩ := m
  simp only at hE hE' hl hl'
  have hX : Row ((w.alloc (.cells #[.int .i64 t, .int .i64 l, .int .i64 s, .bool h, .string hi, .int .i64 r, .slice a es.length cap] 24)).alloc (.cells #[.int .i64 t', .int .i64 l', .int .i64 s', .bool h', .string hi', .int .i64 r', .slice a' es'.length cap'] 24)) w.heap.size 24 [.int .i64 t, .int .i64 l, .int .i64 s, .bool h, .string hi, .int .i64 r, .slice a es.length cap] := (new_at rfl : Row (w.alloc (.cells #[.int .i64 t, .int .i64 l, .int .i64 s, .bool h, .string hi, .int .i64 r, .slice a es.length cap] 24)) w.heap.size 24 [.int .i64 t, .int .i64 l, .int .i64 s, .bool h, .string hi, .int .i64 r, .slice a es.length cap]).alloc _
  have hY : Row ((w.alloc (.cells #[.int .i64 t, .int .i64 l, .int .i64 s, .bool h, .string hi, .int .i64 r, .slice a es.length cap] 24)).alloc (.cells #[.int .i64 t', .int .i64 l', .int .i64 s', .bool h', .string hi', .int .i64 r', .slice a' es'.length cap'] 24)) (w.heap.size + 1) 24 [.int .i64 t', .int .i64 l', .int .i64 s', .bool h', .string hi', .int .i64 r', .slice a' es'.length cap'] := new_at (by simp)
  have hb : Below w.heap.size w ((w.alloc (.cells #[.int .i64 t, .int .i64 l, .int .i64 s, .bool h, .string hi, .int .i64 r, .slice a es.length cap] 24)).alloc (.cells #[.int .i64 t', .int .i64 l', .int .i64 s', .bool h', .string hi', .int .i64 r', .slice a' es'.length cap'] 24)) := ((Below.refl _ _).alloc (Nat.le_refl _) _).alloc (by simp) _
  show Calls Try.prog 19 #[.agg #[.int .i64 t, .int .i64 l, .int .i64 s, .bool h, .string hi, .int .i64 r, .slice a es.length cap], .agg #[.int .i64 t', .int .i64 l', .int .i64 s', .bool h', .string hi', .int .i64 r', .slice a' es'.length cap']] w _
  have x0 := hX.cell (i := 0) rfl
  have y0 := hY.cell (i := 0) rfl
  have x1 := hX.cell (i := 1) rfl
  have y1 := hY.cell (i := 1) rfl
  have x2 := hX.cell (i := 2) rfl
  have y2 := hY.cell (i := 2) rfl
  have x3 := hX.cell (i := 3) rfl
  have y3 := hY.cell (i := 3) rfl
  have x4 := hX.cell (i := 4) rfl
  have y4 := hY.cell (i := 4) rfl
  have x5 := hX.cell (i := 5) rfl
  have y5 := hY.cell (i := 5) rfl
  have x6 := hX.cell (i := 6) rfl
  have y6 := hY.cell (i := 6) rfl
  by_cases ct : t = t'
  rotate_left
  · rw [same_not (show ¬ (⟨t, l, s, h, hi, r, es⟩ : Nd) = ⟨t', l', s', h', hi', r', es'⟩ from fun e => by exact ct (by injection e))]
    have d : (t == t') = false := by simpa using ct
    have d2 : (t != t') = true := by simpa using ct
    go_enter Try.func19, Try.ntmps19
    go_wp2_with fail
    go_ret
    exact ⟨rfl, hb⟩
  subst ct
  by_cases cl : l = l'
  rotate_left
  · rw [same_not (show ¬ (⟨t, l, s, h, hi, r, es⟩ : Nd) = ⟨t, l', s', h', hi', r', es'⟩ from fun e => by exact cl (by injection e))]
    have d : (l == l') = false := by simpa using cl
    have d2 : (l != l') = true := by simpa using cl
    go_enter Try.func19, Try.ntmps19
    go_wp2_with fail
    go_ret
    exact ⟨rfl, hb⟩
  subst cl
  by_cases cs : s = s'
  rotate_left
  · rw [same_not (show ¬ (⟨t, l, s, h, hi, r, es⟩ : Nd) = ⟨t, l, s', h', hi', r', es'⟩ from fun e => by exact cs (by injection e))]
    have d : (s == s') = false := by simpa using cs
    have d2 : (s != s') = true := by simpa using cs
    go_enter Try.func19, Try.ntmps19
    go_wp2_with fail
    go_ret
    exact ⟨rfl, hb⟩
  subst cs
  by_cases ch : h = h'
  rotate_left
  · rw [same_not (show ¬ (⟨t, l, s, h, hi, r, es⟩ : Nd) = ⟨t, l, s, h', hi', r', es'⟩ from fun e => by exact ch (by injection e))]
    cases h <;> cases h'
    · exact absurd rfl ch
    · go_enter Try.func19, Try.ntmps19
      go_wp2_with fail
      go_ret
      exact ⟨rfl, hb⟩
    · go_enter Try.func19, Try.ntmps19
      go_wp2_with fail
      go_ret
      exact ⟨rfl, hb⟩
    · exact absurd rfl ch
  subst ch
  by_cases chi : hi = hi'
  rotate_left
  · rw [same_not (show ¬ (⟨t, l, s, h, hi, r, es⟩ : Nd) = ⟨t, l, s, h, hi', r', es'⟩ from fun e => by exact chi (by injection e))]
    have d : (hi.toList == hi'.toList) = false := by rw [beq_eq_false_iff_ne]; exact fun e => chi (Bytes.toList_inj.1 e)
    cases h
    · go_enter Try.func19, Try.ntmps19
      go_wp2_with fail
      go_ret
      exact ⟨rfl, hb⟩
    · go_enter Try.func19, Try.ntmps19
      go_wp2_with fail
      go_ret
      exact ⟨rfl, hb⟩
  subst chi
  by_cases cr : r = r'
  rotate_left
  · rw [same_not (show ¬ (⟨t, l, s, h, hi, r, es⟩ : Nd) = ⟨t, l, s, h, hi, r', es'⟩ from fun e => by exact cr (by injection e))]
    have d : (r == r') = false := by simpa using cr
    have d2 : (r != r') = true := by simpa using cr
    go_enter Try.func19, Try.ntmps19
    go_wp2_with fail
    go_ret
    exact ⟨rfl, hb⟩
  subst cr
  by_cases cln : es.length = es'.length
  rotate_left
  · rw [same_not (show ¬ (⟨t, l, s, h, hi, r, es⟩ : Nd) = ⟨t, l, s, h, hi, r, es'⟩ from fun e => by exact cln (by injection e with _ _ _ _ _ _ e; rw [e]))]
    have d : ((es.length : Int) == (es'.length : Int)) = false := by simp; omega
    have d2 : ((es.length : Int) != (es'.length : Int)) = true := by simp; omega
    cases h
    · go_enter Try.func19, Try.ntmps19
      go_wp2_with fail
      go_ret
      exact ⟨rfl, hb⟩
    · go_enter Try.func19, Try.ntmps19
      go_wp2_with fail
      go_ret
      exact ⟨rfl, hb⟩
  obtain ⟨G, hG⟩ : ∃ G, sameN ⟨t, l, s, h, hi, r, es⟩ ⟨t, l, s, h, hi, r, es'⟩ = G := ⟨_, rfl⟩
  have hG1 : es = es' → G = true := fun e => by rw [← hG, e, same_self]
  have hG2 : ¬ es = es' → G = false := fun e => by rw [← hG]; exact same_not (fun x => e (by injection x))
  rw [hG]
  have G1 := Lib.hid hG1
  have G2 := Lib.hid hG2
  have LN := Lib.hid cln
  have X := Lib.hid hX
  have Y := Lib.hid hY
  have d : ((es.length : Int) == (es'.length : Int)) = true := by simp; omega
  have d2 : ((es.length : Int) != (es'.length : Int)) = false := by simp; omega
  clear hG hG1 hG2 cln hX hY
  obtain ⟨H, hH⟩ : ∃ H, H = Value.bool h := ⟨_, rfl⟩
  have hX2 : Hid (Row ((w.alloc (.cells #[.int .i64 t, .int .i64 l, .int .i64 s, .bool h, .string hi, .int .i64 r, .slice a es.length cap] 24)).alloc (.cells #[.int .i64 t, .int .i64 l, .int .i64 s, .bool h, .string hi, .int .i64 r, .slice a' es'.length cap'] 24)) w.heap.size 24 [.int .i64 t, .int .i64 l, .int .i64 s, H, .string hi, .int .i64 r, .slice a es.length cap]) := by rw [hH]; exact X
  have hY2 : Hid (Row ((w.alloc (.cells #[.int .i64 t, .int .i64 l, .int .i64 s, .bool h, .string hi, .int .i64 r, .slice a es.length cap] 24)).alloc (.cells #[.int .i64 t, .int .i64 l, .int .i64 s, .bool h, .string hi, .int .i64 r, .slice a' es'.length cap'] 24)) (w.heap.size + 1) 24 [.int .i64 t, .int .i64 l, .int .i64 s, H, .string hi, .int .i64 r, .slice a' es'.length cap']) := by rw [hH]; exact Y
  clear X Y hH
  cases h
  all_goals
    go_enter Try.func19, Try.ntmps19
    go_wp2_with fail
    clear x0 x1 x2 x3 x4 x5 x6 y0 y1 y2 y3 y4 y5 y6 d d2
    go_loopw [5] (fun i wr => ∃ k : Nat, k ≤ es.length ∧ i = .int .i64 k ∧ es.take k = es'.take k ∧ Row wr w.heap.size 24 [.int .i64 t, .int .i64 l, .int .i64 s, H, .string hi, .int .i64 r, .slice a es.length cap] ∧ Row wr (w.heap.size + 1) 24 [.int .i64 t, .int .i64 l, .int .i64 s, H, .string hi, .int .i64 r, .slice a' es'.length cap'] ∧ Below w.heap.size w wr) (fun i _ => es.length - (intOf i).toNat)
    case atStart => exact ⟨0, by omega, rfl, rfl, hX2.out, hY2.out, hb⟩
    case round =>
      clear hb hX2 hY2
      obtain ⟨k, hk, rfl, htk, hX, hY, hb⟩ := hrel
      have x6 := hX.cell (i := 6) rfl
      have y6 := hY.cell (i := 6) rfl
      by_cases hlt : k < es.length
      · have hlt2 : k < es'.length := by rw [← LN.out]; exact hlt
        obtain ⟨ad, rfl, _, hx⟩ := hE k hlt
        obtain ⟨ad', rfl, _, hy⟩ := hE' k hlt2
        have hlt' : (k : Int) < (es.length : Int) := by omega
        have hlt2' : (k : Int) < (es'.length : Int) := by omega
        obtain ⟨z0, z1, z2⟩ := hx _ hb
        obtain ⟨u0, u1, u2⟩ := hy _ hb
        have HX := Lib.hid hX
        have HY := Lib.hid hY
        have HB := Lib.hid hb
        have TK := Lib.hid htk
        have t1 := List.take_succ_eq_append_getElem hlt
        have t2 := List.take_succ_eq_append_getElem hlt2
        have gg1 : es[k]? = some es[k] := List.getElem?_eq_getElem hlt
        have gg2 : es'[k]? = some es'[k] := List.getElem?_eq_getElem hlt2
        generalize es[k] = e at *
        generalize es'[k] = e' at *
        have T1 := Lib.hid t1
        have T2 := Lib.hid t2
        have Q1 := Lib.hid gg1
        have Q2 := Lib.hid gg2
        clear hx hy hX hY hb htk t1 t2 gg1 gg2
        by_cases he : e = e'
        · subst he
          obtain ⟨key, val, g⟩ := e
          simp only at z0 z1 z2 u0 u1 u2
          go_wp2_with fail
          go_quiet (fail)
          go_wp2_with fail
          exact ⟨⟨k + 1, by omega, by go_num, by rw [T1.out, T2.out, TK.out], by first | exact HX.out.drew | exact HX.out.drewN _, by first | exact HY.out.drew | exact HY.out.drewN _, by first | exact HB.out.drew | exact below_drewN HB.out _⟩, by simp [intOf]; omega⟩
        · have hG0 := G2.out (fun x => he (by have := Q1.out; rw [x, Q2.out] at this; injection this with this; exact this.symm))
          obtain ⟨key, val, g⟩ := e
          obtain ⟨key', val', g'⟩ := e'
          simp only at z0 z1 z2 u0 u1 u2
          have HG0 := Lib.hid hG0
          by_cases ck : key = key'
          · by_cases cv : val = val'
            · subst ck cv
              have cg : ¬ g = g' := fun x => he (by rw [x])
              cases g <;> cases g'
              · exact absurd rfl cg
              · clear he cg hG0
                go_wp2_with fail
                go_quiet (fail)
                go_wp2_with fail
                go_ret
                exact ⟨by rw [HG0.out]; rfl, by first | exact HB.out.drew | exact below_drewN HB.out _⟩
              · clear he cg hG0
                go_wp2_with fail
                go_quiet (fail)
                go_wp2_with fail
                go_ret
                exact ⟨by rw [HG0.out]; rfl, by first | exact HB.out.drew | exact below_drewN HB.out _⟩
              · exact absurd rfl cg
            · subst ck
              have dv : ¬ val.toList = val'.toList := fun x => cv (Bytes.toList_inj.1 x)
              clear he hG0
              go_wp2_with fail
              go_quiet (fail)
              go_wp2_with fail
              go_ret
              exact ⟨by rw [HG0.out]; rfl, by first | exact HB.out.drew | exact below_drewN HB.out _⟩
          · have dk : ¬ key.toList = key'.toList := fun x => ck (Bytes.toList_inj.1 x)
            clear he hG0
            go_wp2_with fail
            go_quiet (fail)
            go_wp2_with fail
            go_ret
            exact ⟨by rw [HG0.out]; rfl, by first | exact HB.out.drew | exact below_drewN HB.out _⟩
      · obtain rfl : k = es.length := by omega
        have hee : es = es' := by
          rw [List.take_length] at htk
          rw [htk, LN.out, List.take_length]
        have hG0 := G1.out hee
        have HG0 := Lib.hid hG0
        clear hee hG0 htk
        go_wp2_with fail
        go_ret
        exact ⟨by rw [HG0.out]; rfl, hb⟩
end Go.Proofs.Ytebmalmciakhcaa.Node
