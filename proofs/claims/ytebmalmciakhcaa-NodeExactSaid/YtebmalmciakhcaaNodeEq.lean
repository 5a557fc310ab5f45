/- slices.Equal of entries; node.Same. Printed by node_eq.py -/
import Derived.Test.YtebmalmciakhcaaNodeLawL
namespace Go.Proofs.Ytebmalmciakhcaa.Node
open Go.RowKit Go.Proofs.Ytebmalmciakhcaa.Mem Go.Proofs.Ytebmalmciakhcaa.Bytes Go.Proofs.Ytebmalmciakhcaa.Ord
set_option linter.unusedSimpArgs false
set_option linter.unusedVariables false

open Classical in
noncomputable def eqE (es es' : List Ent) : Bool := decide (es = es')
set_option maxHeartbeats 2000000 in
theorem equal_calls (es es' : List Ent) (a a' : Option Addr) (cap cap' : Nat) (w : World) (hE : Es w a es) (hE' : Es w a' es') (hl : es.length ≤ 9223372036854775807) (hl' : es'.length ≤ 9223372036854775807) :
    Calls Try.prog 43 #[.slice a es.length cap, .slice a' es'.length cap'] w fun e w' => e = .returned (.bool (eqE es es')) ∧ Below w.heap.size w w' := by
  obtain ⟨G, hG⟩ : ∃ G, eqE es es' = G := ⟨_, rfl⟩
  have hG1 : es = es' → G = true := fun e => by rw [← hG]; unfold eqE; simp [e]
  have hG2 : ¬ es = es' → G = false := fun e => by rw [← hG]; unfold eqE; simp [e]
  rw [hG]
  have G1 := Lib.hid hG1
  have G2 := Lib.hid hG2
  clear hG hG1 hG2
  by_cases cln : es.length = es'.length
  rotate_left
  · have hg := G2.out (fun e => cln (by rw [e]))
    have d2 : ((es.length : Int) != (es'.length : Int)) = true := by simp; omega
    go_enter Try.func43, Try.ntmps43
    go_wp2_with fail
    go_ret
    exact ⟨by rw [hg]; rfl, Below.refl _ _⟩
  have LN := Lib.hid cln
  have d2 : ((es.length : Int) != (es'.length : Int)) = false := by simp; omega
  clear cln
  go_enter Try.func43, Try.ntmps43
  go_wp2_with fail
  clear d2
  go_loopw [13] (fun i wr => ∃ k : Nat, k ≤ es.length ∧ i = .int .i64 k ∧ es.take k = es'.take k ∧ Below w.heap.size w wr) (fun i _ => es.length - (intOf i).toNat)
  case atStart => exact ⟨0, by omega, rfl, rfl, Below.refl _ _⟩
  case round =>
    obtain ⟨k, hk, rfl, htk, hb⟩ := hrel
    by_cases hlt : k < es.length
    · have hlt2 : k < es'.length := by rw [← LN.out]; exact hlt
      obtain ⟨ad, rfl, _, hx⟩ := hE k hlt
      obtain ⟨ad', rfl, _, hy⟩ := hE' k hlt2
      have hlt' : (k : Int) < (es.length : Int) := by omega
      have hlt2' : (k : Int) < (es'.length : Int) := by omega
      obtain ⟨z0, z1, z2⟩ := hx _ hb
      obtain ⟨u0, u1, u2⟩ := hy _ hb
      have HB := Lib.hid hb
      have TK := Lib.hid htk
      have t1 := List.take_succ_eq_append_getElem hlt
      have t2 := List.take_succ_eq_append_getElem hlt2
      have gg1 : es[k]? = some es[k] := List.getElem?_eq_getElem hlt
      have gg2 : es'[k]? = some es'[k] := List.getElem?_eq_getElem hlt2
      generalize es[k] = e at *
      generalize es'[k] = e' at *
      have T1 := Lib.hid t1
      have T2 := Lib.hid t2
      have Q1 := Lib.hid gg1
      have Q2 := Lib.hid gg2
      clear hx hy hb htk t1 t2 gg1 gg2
      by_cases he : e = e'
      · subst he
        obtain ⟨key, val, g⟩ := e
        simp only at z0 z1 z2 u0 u1 u2
        go_wp2_with fail
        go_quiet (fail)
        go_wp2_with fail
        exact ⟨⟨k + 1, by omega, by go_num, by rw [T1.out, T2.out, TK.out], by first | exact HB.out.drew | exact below_drewN HB.out _⟩, by simp [intOf]; omega⟩
      · have hG0 := G2.out (fun x => he (by have := Q1.out; rw [x, Q2.out] at this; injection this with this; exact this.symm))
        obtain ⟨key, val, g⟩ := e
        obtain ⟨key', val', g'⟩ := e'
        simp only at z0 z1 z2 u0 u1 u2
        have HG0 := Lib.hid hG0
        clear hG0
        by_cases ck : key = key'
        · by_cases cv : val = val'
          · subst ck cv
            have cg : ¬ g = g' := fun x => he (by rw [x])
            cases g <;> cases g'
            · exact absurd rfl cg
            · clear cg
              clear he
              go_wp2_with fail
              go_quiet (fail)
              go_wp2_with fail
              go_ret
              exact ⟨by rw [HG0.out]; rfl, by first | exact HB.out.drew | exact below_drewN HB.out _⟩
            · clear cg
              clear he
              go_wp2_with fail
              go_quiet (fail)
              go_wp2_with fail
              go_ret
              exact ⟨by rw [HG0.out]; rfl, by first | exact HB.out.drew | exact below_drewN HB.out _⟩
            · exact absurd rfl cg
          · subst ck
            have dv : ¬ val.toList = val'.toList := fun x => cv (Bytes.toList_inj.1 x)
            clear he
            go_wp2_with fail
            go_quiet (fail)
            go_wp2_with fail
            go_ret
            exact ⟨by rw [HG0.out]; rfl, by first | exact HB.out.drew | exact below_drewN HB.out _⟩
        · have dk : ¬ key.toList = key'.toList := fun x => ck (Bytes.toList_inj.1 x)
          clear he
          go_wp2_with fail
          go_quiet (fail)
          go_wp2_with fail
          go_ret
          exact ⟨by rw [HG0.out]; rfl, by first | exact HB.out.drew | exact below_drewN HB.out _⟩
    · obtain rfl : k = es.length := by omega
      have hee : es = es' := by
        rw [List.take_length] at htk
        rw [htk, LN.out, List.take_length]
      have hG0 := G1.out hee
      have HG0 := Lib.hid hG0
      clear hee hG0 htk
      go_wp2_with fail
      go_ret
      exact ⟨by rw [HG0.out]; rfl, hb⟩

set_option maxHeartbeats 4000000 in
theorem same_calls (n m : Nd) (a a' : Option Addr) (cap cap' : Nat) (w : World) (hE : Es w a n.list) (hE' : Es w a' m.list) (hl : n.list.length ≤ 9223372036854775807) (hl' : m.list.length ≤ 9223372036854775807) :
    Calls Try.prog 22 #[.agg (n.cells (.slice a n.list.length cap)).toArray, .agg (m.cells (.slice a' m.list.length cap')).toArray] w fun e w' => e = .returned (.bool (sameN n m)) ∧ Below w.heap.size w w' := by
  obtain ⟨t, l, s, h, hi, r, es⟩ := n
  obtain ⟨t', l', s', h', hi', r', es'⟩ := m
  simp only at hE hE' hl hl'
  have hX : Row ((w.alloc (.cells #[.int .i64 t, .int .i64 l, .int .i64 s, .bool h, .string hi, .int .i64 r, .slice a es.length cap] 24)).alloc (.cells #[.int .i64 t', .int .i64 l', .int .i64 s', .bool h', .string hi', .int .i64 r', .slice a' es'.length cap'] 24)) w.heap.size 24 [.int .i64 t, .int .i64 l, .int .i64 s, .bool h, .string hi, .int .i64 r, .slice a es.length cap] := (new_at rfl : Row (w.alloc (.cells #[.int .i64 t, .int .i64 l, .int .i64 s, .bool h, .string hi, .int .i64 r, .slice a es.length cap] 24)) w.heap.size 24 [.int .i64 t, .int .i64 l, .int .i64 s, .bool h, .string hi, .int .i64 r, .slice a es.length cap]).alloc _
  have hY : Row ((w.alloc (.cells #[.int .i64 t, .int .i64 l, .int .i64 s, .bool h, .string hi, .int .i64 r, .slice a es.length cap] 24)).alloc (.cells #[.int .i64 t', .int .i64 l', .int .i64 s', .bool h', .string hi', .int .i64 r', .slice a' es'.length cap'] 24)) (w.heap.size + 1) 24 [.int .i64 t', .int .i64 l', .int .i64 s', .bool h', .string hi', .int .i64 r', .slice a' es'.length cap'] := new_at (by simp)
  have hb : Below w.heap.size w ((w.alloc (.cells #[.int .i64 t, .int .i64 l, .int .i64 s, .bool h, .string hi, .int .i64 r, .slice a es.length cap] 24)).alloc (.cells #[.int .i64 t', .int .i64 l', .int .i64 s', .bool h', .string hi', .int .i64 r', .slice a' es'.length cap'] 24)) := ((Below.refl _ _).alloc (Nat.le_refl _) _).alloc (by simp) _
  have hq := equal_calls es es' a a' cap cap' _ (hE.keep hb) (hE'.keep hb) hl hl'
  show Calls Try.prog 22 #[.agg #[.int .i64 t, .int .i64 l, .int .i64 s, .bool h, .string hi, .int .i64 r, .slice a es.length cap], .agg #[.int .i64 t', .int .i64 l', .int .i64 s', .bool h', .string hi', .int .i64 r', .slice a' es'.length cap']] w _
  have x6 := hX.cell (i := 6) rfl
  have y6 := hY.cell (i := 6) rfl
  by_cases ce : es = es'
  rotate_left
  · rw [same_not (show ¬ (⟨t, l, s, h, hi, r, es⟩ : Nd) = ⟨t', l', s', h', hi', r', es'⟩ from fun e => ce (by injection e))]
    rw [show eqE es es' = false by unfold eqE; simp [ce]] at hq
    have Q := Lib.hid hq
    have B := Lib.hid hb
    clear hq hX hY hb
    go_enter Try.func22, Try.ntmps22
    go_wp2_with fail
    refine Q.out.mono ?_
    rintro e w1 ⟨rfl, h1⟩
    go_wp2_with fail
    go_ret
    exact ⟨rfl, B.out.trans (h1.mono B.out.size)⟩
  rw [show eqE es es' = true by unfold eqE; simp [ce]] at hq
  subst ce
  by_cases ct : t = t'
  rotate_left
  · rw [same_not (show ¬ (⟨t, l, s, h, hi, r, es⟩ : Nd) = ⟨t', l', s', h', hi', r', es⟩ from fun e => by exact ct (by injection e))]
    have d : (t == t') = false := by simpa using ct
    have Q := Lib.hid hq
    have B := Lib.hid hb
    have X := Lib.hid hX
    have Y := Lib.hid hY
    clear hq hX hY hb
    go_enter Try.func22, Try.ntmps22
    go_wp2_with fail
    refine Q.out.mono ?_
    rintro e w1 ⟨rfl, h1⟩
    clear x6 y6
    have x0 := (X.out.below h1 X.out.lt).cell (i := 0) rfl
    have y0 := (Y.out.below h1 Y.out.lt).cell (i := 0) rfl
    have x1 := (X.out.below h1 X.out.lt).cell (i := 1) rfl
    have y1 := (Y.out.below h1 Y.out.lt).cell (i := 1) rfl
    have x2 := (X.out.below h1 X.out.lt).cell (i := 2) rfl
    have y2 := (Y.out.below h1 Y.out.lt).cell (i := 2) rfl
    have x3 := (X.out.below h1 X.out.lt).cell (i := 3) rfl
    have y3 := (Y.out.below h1 Y.out.lt).cell (i := 3) rfl
    have x4 := (X.out.below h1 X.out.lt).cell (i := 4) rfl
    have y4 := (Y.out.below h1 Y.out.lt).cell (i := 4) rfl
    have x5 := (X.out.below h1 X.out.lt).cell (i := 5) rfl
    have y5 := (Y.out.below h1 Y.out.lt).cell (i := 5) rfl
    go_wp2_with fail
    go_ret
    exact ⟨by first | rfl | simp, B.out.trans (h1.mono B.out.size)⟩
  subst ct
  by_cases cl : l = l'
  rotate_left
  · rw [same_not (show ¬ (⟨t, l, s, h, hi, r, es⟩ : Nd) = ⟨t, l', s', h', hi', r', es⟩ from fun e => by exact cl (by injection e))]
    have d : (l == l') = false := by simpa using cl
    have Q := Lib.hid hq
    have B := Lib.hid hb
    have X := Lib.hid hX
    have Y := Lib.hid hY
    clear hq hX hY hb
    go_enter Try.func22, Try.ntmps22
    go_wp2_with fail
    refine Q.out.mono ?_
    rintro e w1 ⟨rfl, h1⟩
    clear x6 y6
    have x0 := (X.out.below h1 X.out.lt).cell (i := 0) rfl
    have y0 := (Y.out.below h1 Y.out.lt).cell (i := 0) rfl
    have x1 := (X.out.below h1 X.out.lt).cell (i := 1) rfl
    have y1 := (Y.out.below h1 Y.out.lt).cell (i := 1) rfl
    have x2 := (X.out.below h1 X.out.lt).cell (i := 2) rfl
    have y2 := (Y.out.below h1 Y.out.lt).cell (i := 2) rfl
    have x3 := (X.out.below h1 X.out.lt).cell (i := 3) rfl
    have y3 := (Y.out.below h1 Y.out.lt).cell (i := 3) rfl
    have x4 := (X.out.below h1 X.out.lt).cell (i := 4) rfl
    have y4 := (Y.out.below h1 Y.out.lt).cell (i := 4) rfl
    have x5 := (X.out.below h1 X.out.lt).cell (i := 5) rfl
    have y5 := (Y.out.below h1 Y.out.lt).cell (i := 5) rfl
    go_wp2_with fail
    go_ret
    exact ⟨by first | rfl | simp, B.out.trans (h1.mono B.out.size)⟩
  subst cl
  by_cases cs : s = s'
  rotate_left
  · rw [same_not (show ¬ (⟨t, l, s, h, hi, r, es⟩ : Nd) = ⟨t, l, s', h', hi', r', es⟩ from fun e => by exact cs (by injection e))]
    have d : (s == s') = false := by simpa using cs
    have Q := Lib.hid hq
    have B := Lib.hid hb
    have X := Lib.hid hX
    have Y := Lib.hid hY
    clear hq hX hY hb
    go_enter Try.func22, Try.ntmps22
    go_wp2_with fail
    refine Q.out.mono ?_
    rintro e w1 ⟨rfl, h1⟩
    clear x6 y6
    have x0 := (X.out.below h1 X.out.lt).cell (i := 0) rfl
    have y0 := (Y.out.below h1 Y.out.lt).cell (i := 0) rfl
    have x1 := (X.out.below h1 X.out.lt).cell (i := 1) rfl
    have y1 := (Y.out.below h1 Y.out.lt).cell (i := 1) rfl
    have x2 := (X.out.below h1 X.out.lt).cell (i := 2) rfl
    have y2 := (Y.out.below h1 Y.out.lt).cell (i := 2) rfl
    have x3 := (X.out.below h1 X.out.lt).cell (i := 3) rfl
    have y3 := (Y.out.below h1 Y.out.lt).cell (i := 3) rfl
    have x4 := (X.out.below h1 X.out.lt).cell (i := 4) rfl
    have y4 := (Y.out.below h1 Y.out.lt).cell (i := 4) rfl
    have x5 := (X.out.below h1 X.out.lt).cell (i := 5) rfl
    have y5 := (Y.out.below h1 Y.out.lt).cell (i := 5) rfl
    go_wp2_with fail
    go_ret
    exact ⟨by first | rfl | simp, B.out.trans (h1.mono B.out.size)⟩
  subst cs
  by_cases ch : h = h'
  rotate_left
  · rw [same_not (show ¬ (⟨t, l, s, h, hi, r, es⟩ : Nd) = ⟨t, l, s, h', hi', r', es⟩ from fun e => by exact ch (by injection e))]
    cases h <;> cases h'
    · exact absurd rfl ch
    · have Q := Lib.hid hq
      have B := Lib.hid hb
      have X := Lib.hid hX
      have Y := Lib.hid hY
      clear hq hX hY hb
      go_enter Try.func22, Try.ntmps22
      go_wp2_with fail
      refine Q.out.mono ?_
      rintro e w1 ⟨rfl, h1⟩
      clear x6 y6
      have x0 := (X.out.below h1 X.out.lt).cell (i := 0) rfl
      have y0 := (Y.out.below h1 Y.out.lt).cell (i := 0) rfl
      have x1 := (X.out.below h1 X.out.lt).cell (i := 1) rfl
      have y1 := (Y.out.below h1 Y.out.lt).cell (i := 1) rfl
      have x2 := (X.out.below h1 X.out.lt).cell (i := 2) rfl
      have y2 := (Y.out.below h1 Y.out.lt).cell (i := 2) rfl
      have x3 := (X.out.below h1 X.out.lt).cell (i := 3) rfl
      have y3 := (Y.out.below h1 Y.out.lt).cell (i := 3) rfl
      have x4 := (X.out.below h1 X.out.lt).cell (i := 4) rfl
      have y4 := (Y.out.below h1 Y.out.lt).cell (i := 4) rfl
      have x5 := (X.out.below h1 X.out.lt).cell (i := 5) rfl
      have y5 := (Y.out.below h1 Y.out.lt).cell (i := 5) rfl
      go_wp2_with fail
      go_ret
      exact ⟨by first | rfl | simp, B.out.trans (h1.mono B.out.size)⟩
    · have Q := Lib.hid hq
      have B := Lib.hid hb
      have X := Lib.hid hX
      have Y := Lib.hid hY
      clear hq hX hY hb
      go_enter Try.func22, Try.ntmps22
      go_wp2_with fail
      refine Q.out.mono ?_
      rintro e w1 ⟨rfl, h1⟩
      clear x6 y6
      have x0 := (X.out.below h1 X.out.lt).cell (i := 0) rfl
      have y0 := (Y.out.below h1 Y.out.lt).cell (i := 0) rfl
      have x1 := (X.out.below h1 X.out.lt).cell (i := 1) rfl
      have y1 := (Y.out.below h1 Y.out.lt).cell (i := 1) rfl
      have x2 := (X.out.below h1 X.out.lt).cell (i := 2) rfl
      have y2 := (Y.out.below h1 Y.out.lt).cell (i := 2) rfl
      have x3 := (X.out.below h1 X.out.lt).cell (i := 3) rfl
      have y3 := (Y.out.below h1 Y.out.lt).cell (i := 3) rfl
      have x4 := (X.out.below h1 X.out.lt).cell (i := 4) rfl
      have y4 := (Y.out.below h1 Y.out.lt).cell (i := 4) rfl
      have x5 := (X.out.below h1 X.out.lt).cell (i := 5) rfl
      have y5 := (Y.out.below h1 Y.out.lt).cell (i := 5) rfl
      go_wp2_with fail
      go_ret
      exact ⟨by first | rfl | simp, B.out.trans (h1.mono B.out.size)⟩
    · exact absurd rfl ch
  subst ch
  by_cases chi : hi = hi'
  rotate_left
  · rw [same_not (show ¬ (⟨t, l, s, h, hi, r, es⟩ : Nd) = ⟨t, l, s, h, hi', r', es⟩ from fun e => by exact chi (by injection e))]
    have d : (hi.toList == hi'.toList) = false := by rw [beq_eq_false_iff_ne]; exact fun e => chi (Bytes.toList_inj.1 e)
    cases h
    · have Q := Lib.hid hq
      have B := Lib.hid hb
      have X := Lib.hid hX
      have Y := Lib.hid hY
      clear hq hX hY hb
      go_enter Try.func22, Try.ntmps22
      go_wp2_with fail
      refine Q.out.mono ?_
      rintro e w1 ⟨rfl, h1⟩
      clear x6 y6
      have x0 := (X.out.below h1 X.out.lt).cell (i := 0) rfl
      have y0 := (Y.out.below h1 Y.out.lt).cell (i := 0) rfl
      have x1 := (X.out.below h1 X.out.lt).cell (i := 1) rfl
      have y1 := (Y.out.below h1 Y.out.lt).cell (i := 1) rfl
      have x2 := (X.out.below h1 X.out.lt).cell (i := 2) rfl
      have y2 := (Y.out.below h1 Y.out.lt).cell (i := 2) rfl
      have x3 := (X.out.below h1 X.out.lt).cell (i := 3) rfl
      have y3 := (Y.out.below h1 Y.out.lt).cell (i := 3) rfl
      have x4 := (X.out.below h1 X.out.lt).cell (i := 4) rfl
      have y4 := (Y.out.below h1 Y.out.lt).cell (i := 4) rfl
      have x5 := (X.out.below h1 X.out.lt).cell (i := 5) rfl
      have y5 := (Y.out.below h1 Y.out.lt).cell (i := 5) rfl
      go_wp2_with fail
      go_ret
      exact ⟨by first | rfl | simp, B.out.trans (h1.mono B.out.size)⟩
    · have Q := Lib.hid hq
      have B := Lib.hid hb
      have X := Lib.hid hX
      have Y := Lib.hid hY
      clear hq hX hY hb
      go_enter Try.func22, Try.ntmps22
      go_wp2_with fail
      refine Q.out.mono ?_
      rintro e w1 ⟨rfl, h1⟩
      clear x6 y6
      have x0 := (X.out.below h1 X.out.lt).cell (i := 0) rfl
      have y0 := (Y.out.below h1 Y.out.lt).cell (i := 0) rfl
      have x1 := (X.out.below h1 X.out.lt).cell (i := 1) rfl
      have y1 := (Y.out.below h1 Y.out.lt).cell (i := 1) rfl
      have x2 := (X.out.below h1 X.out.lt).cell (i := 2) rfl
      have y2 := (Y.out.below h1 Y.out.lt).cell (i := 2) rfl
      have x3 := (X.out.below h1 X.out.lt).cell (i := 3) rfl
      have y3 := (Y.out.below h1 Y.out.lt).cell (i := 3) rfl
      have x4 := (X.out.below h1 X.out.lt).cell (i := 4) rfl
      have y4 := (Y.out.below h1 Y.out.lt).cell (i := 4) rfl
      have x5 := (X.out.below h1 X.out.lt).cell (i := 5) rfl
      have y5 := (Y.out.below h1 Y.out.lt).cell (i := 5) rfl
      go_wp2_with fail
      go_ret
      exact ⟨by first | rfl | simp, B.out.trans (h1.mono B.out.size)⟩
  subst chi
  by_cases cr : r = r'
  rotate_left
  · rw [same_not (show ¬ (⟨t, l, s, h, hi, r, es⟩ : Nd) = ⟨t, l, s, h, hi, r', es⟩ from fun e => by exact cr (by injection e))]
    have d : (r == r') = false := by simpa using cr
    cases h
    · have Q := Lib.hid hq
      have B := Lib.hid hb
      have X := Lib.hid hX
      have Y := Lib.hid hY
      clear hq hX hY hb
      go_enter Try.func22, Try.ntmps22
      go_wp2_with fail
      refine Q.out.mono ?_
      rintro e w1 ⟨rfl, h1⟩
      clear x6 y6
      have x0 := (X.out.below h1 X.out.lt).cell (i := 0) rfl
      have y0 := (Y.out.below h1 Y.out.lt).cell (i := 0) rfl
      have x1 := (X.out.below h1 X.out.lt).cell (i := 1) rfl
      have y1 := (Y.out.below h1 Y.out.lt).cell (i := 1) rfl
      have x2 := (X.out.below h1 X.out.lt).cell (i := 2) rfl
      have y2 := (Y.out.below h1 Y.out.lt).cell (i := 2) rfl
      have x3 := (X.out.below h1 X.out.lt).cell (i := 3) rfl
      have y3 := (Y.out.below h1 Y.out.lt).cell (i := 3) rfl
      have x4 := (X.out.below h1 X.out.lt).cell (i := 4) rfl
      have y4 := (Y.out.below h1 Y.out.lt).cell (i := 4) rfl
      have x5 := (X.out.below h1 X.out.lt).cell (i := 5) rfl
      have y5 := (Y.out.below h1 Y.out.lt).cell (i := 5) rfl
      go_wp2_with fail
      go_ret
      exact ⟨by first | rfl | simp, B.out.trans (h1.mono B.out.size)⟩
    · have Q := Lib.hid hq
      have B := Lib.hid hb
      have X := Lib.hid hX
      have Y := Lib.hid hY
      clear hq hX hY hb
      go_enter Try.func22, Try.ntmps22
      go_wp2_with fail
      refine Q.out.mono ?_
      rintro e w1 ⟨rfl, h1⟩
      clear x6 y6
      have x0 := (X.out.below h1 X.out.lt).cell (i := 0) rfl
      have y0 := (Y.out.below h1 Y.out.lt).cell (i := 0) rfl
      have x1 := (X.out.below h1 X.out.lt).cell (i := 1) rfl
      have y1 := (Y.out.below h1 Y.out.lt).cell (i := 1) rfl
      have x2 := (X.out.below h1 X.out.lt).cell (i := 2) rfl
      have y2 := (Y.out.below h1 Y.out.lt).cell (i := 2) rfl
      have x3 := (X.out.below h1 X.out.lt).cell (i := 3) rfl
      have y3 := (Y.out.below h1 Y.out.lt).cell (i := 3) rfl
      have x4 := (X.out.below h1 X.out.lt).cell (i := 4) rfl
      have y4 := (Y.out.below h1 Y.out.lt).cell (i := 4) rfl
      have x5 := (X.out.below h1 X.out.lt).cell (i := 5) rfl
      have y5 := (Y.out.below h1 Y.out.lt).cell (i := 5) rfl
      go_wp2_with fail
      go_ret
      exact ⟨by first | rfl | simp, B.out.trans (h1.mono B.out.size)⟩
  subst cr
  rw [same_self]
  cases h
  · have Q := Lib.hid hq
    have B := Lib.hid hb
    have X := Lib.hid hX
    have Y := Lib.hid hY
    clear hq hX hY hb
    go_enter Try.func22, Try.ntmps22
    go_wp2_with fail
    refine Q.out.mono ?_
    rintro e w1 ⟨rfl, h1⟩
    clear x6 y6
    have x0 := (X.out.below h1 X.out.lt).cell (i := 0) rfl
    have y0 := (Y.out.below h1 Y.out.lt).cell (i := 0) rfl
    have x1 := (X.out.below h1 X.out.lt).cell (i := 1) rfl
    have y1 := (Y.out.below h1 Y.out.lt).cell (i := 1) rfl
    have x2 := (X.out.below h1 X.out.lt).cell (i := 2) rfl
    have y2 := (Y.out.below h1 Y.out.lt).cell (i := 2) rfl
    have x3 := (X.out.below h1 X.out.lt).cell (i := 3) rfl
    have y3 := (Y.out.below h1 Y.out.lt).cell (i := 3) rfl
    have x4 := (X.out.below h1 X.out.lt).cell (i := 4) rfl
    have y4 := (Y.out.below h1 Y.out.lt).cell (i := 4) rfl
    have x5 := (X.out.below h1 X.out.lt).cell (i := 5) rfl
    have y5 := (Y.out.below h1 Y.out.lt).cell (i := 5) rfl
    go_wp2_with fail
    go_ret
    exact ⟨by first | rfl | simp, B.out.trans (h1.mono B.out.size)⟩
  · have Q := Lib.hid hq
    have B := Lib.hid hb
    have X := Lib.hid hX
    have Y := Lib.hid hY
    clear hq hX hY hb
    go_enter Try.func22, Try.ntmps22
    go_wp2_with fail
    refine Q.out.mono ?_
    rintro e w1 ⟨rfl, h1⟩
    clear x6 y6
    have x0 := (X.out.below h1 X.out.lt).cell (i := 0) rfl
    have y0 := (Y.out.below h1 Y.out.lt).cell (i := 0) rfl
    have x1 := (X.out.below h1 X.out.lt).cell (i := 1) rfl
    have y1 := (Y.out.below h1 Y.out.lt).cell (i := 1) rfl
    have x2 := (X.out.below h1 X.out.lt).cell (i := 2) rfl
    have y2 := (Y.out.below h1 Y.out.lt).cell (i := 2) rfl
    have x3 := (X.out.below h1 X.out.lt).cell (i := 3) rfl
    have y3 := (Y.out.below h1 Y.out.lt).cell (i := 3) rfl
    have x4 := (X.out.below h1 X.out.lt).cell (i := 4) rfl
    have y4 := (Y.out.below h1 Y.out.lt).cell (i := 4) rfl
    have x5 := (X.out.below h1 X.out.lt).cell (i := 5) rfl
    have y5 := (Y.out.below h1 Y.out.lt).cell (i := 5) rfl
    go_wp2_with fail
    go_ret
    exact ⟨by first | rfl | simp, B.out.trans (h1.mono B.out.size)⟩
end Go.Proofs.Ytebmalmciakhcaa.Node
