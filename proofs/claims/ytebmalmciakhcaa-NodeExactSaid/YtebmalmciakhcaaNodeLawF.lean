/- The law NodeFinds. Printed by node_finds.py -/
import Derived.Test.YtebmalmciakhcaaNodeFind
import Derived.Test.YtebmalmciakhcaaLex
namespace Go.Proofs.Ytebmalmciakhcaa.Node
open Go.RowKit Go.Proofs.Ytebmalmciakhcaa.Mem Go.Proofs.Ytebmalmciakhcaa.Bytes Go.Proofs.Ytebmalmciakhcaa.Ord
set_option linter.unusedSimpArgs false
set_option linter.unusedVariables false

/-- The worlds that have only made memory since w0, as an unnamed type. -/
theorem class_of (P : Program) (w0 : World) : ∃ (Z : Type) (f : Z → World), (∀ z, Below w0.heap.size w0 (f z)) ∧ (∃ z0, f z0 = w0.drew) ∧
    ∀ (fn : FuncId) (args : Array Value) (r : Ending), (∀ w, Below w0.heap.size w0 w → Calls P fn args w fun e w' => e = r ∧ Below w.heap.size w w') → ∀ z, Calls P fn args (f z) fun e w'' => e = r ∧ ∃ z', w'' = f z' :=
  ⟨{w' : World // Below w0.heap.size w0 w'}, Subtype.val, fun z => z.2, ⟨⟨w0.drew, (Below.refl _ _).drew⟩, rfl⟩, fun fn args r h z =>
    (h z.val z.2).mono fun e w'' he => ⟨he.1, ⟨w'', z.2.trans (he.2.mono z.2.size)⟩, rfl⟩⟩

set_option maxHeartbeats 4000000 in
set_option maxRecDepth 8000 in
theorem finds_calls (n m : Nd) (a a' : Option Addr) (cap cap' : Nat) (key : ByteArray) (w : World) (hE : Es w a n.list) (hE' : Es w a' m.list) (hl : n.list.length ≤ 9223372036854775807) (hl' : m.list.length ≤ 9223372036854775807) (hks : key.size ≤ 140737488351232) :
    Calls Try.prog 7 #[.agg (n.cells (.slice a n.list.length cap)).toArray, .agg (m.cells (.slice a' m.list.length cap')).toArray, .string key] w fun e w' => e = .returned (.bool true) ∧ Below w.heap.size w w' := by
  have GR1 := Lib.hid (fun (w1 : World) (h : Below w.heap.size w w1) => great_calls n a cap w1 (hE.keep h) hl)
  have GR2 := Lib.hid (fun (w1 : World) (h : Below w.heap.size w w1) => great_calls m a' cap' w1 (hE'.keep h) hl')
  have S1 := Lib.hid (fun (w1 : World) (h : Below w.heap.size w w1) => same_calls n m a a' cap cap' w1 (hE.keep h) (hE'.keep h) hl hl')
  have S2 := Lib.hid (fun (w1 : World) (h : Below w.heap.size w w1) => refsame_calls n m a a' cap cap' w1 (hE.keep h) (hE'.keep h) hl hl')
  have F1 := Lib.hid (fun (h9 : n.list.length ≤ 1000000) (h8 : Rises n.list) (w1 : World) (h : Below w.heap.size w w1) => find_calls n a cap key w1 (hE.keep h) h9 h8)
  have F2 := Lib.hid (fun (h9 : n.list.length ≤ 1000000) (h8 : ∀ i (h : i < n.list.length), n.list[i].key.size ≤ 1000) (h7 : key.size ≤ 1000) (w1 : World) (h : Below w.heap.size w w1) => reffind_calls n a cap key w1 (hE.keep h) h9 h8 h7)
  have CV := Lib.hid (fun (w1 : World) => covers_calls n (.slice a n.list.length cap) rfl key w1)
  generalize sameN n m = sm at *
  obtain ⟨t, l, s, h, hi, r, es⟩ := n
  obtain ⟨t', l', s', h', hi', r', es'⟩ := m
  simp only [Nd.cells] at hE hE' hl hl' GR1 GR2 S1 S2 F1 F2 CV ⊢
  have hX : Row ((w.alloc (.cells #[.int .i64 t, .int .i64 l, .int .i64 s, .bool h, .string hi, .int .i64 r, .slice a es.length cap] 24)).alloc (.cells #[.int .i64 t', .int .i64 l', .int .i64 s', .bool h', .string hi', .int .i64 r', .slice a' es'.length cap'] 24)) w.heap.size 24 [.int .i64 t, .int .i64 l, .int .i64 s, .bool h, .string hi, .int .i64 r, .slice a es.length cap] := (new_at rfl : Row (w.alloc (.cells #[.int .i64 t, .int .i64 l, .int .i64 s, .bool h, .string hi, .int .i64 r, .slice a es.length cap] 24)) w.heap.size 24 [.int .i64 t, .int .i64 l, .int .i64 s, .bool h, .string hi, .int .i64 r, .slice a es.length cap]).alloc _
  have hY : Row ((w.alloc (.cells #[.int .i64 t, .int .i64 l, .int .i64 s, .bool h, .string hi, .int .i64 r, .slice a es.length cap] 24)).alloc (.cells #[.int .i64 t', .int .i64 l', .int .i64 s', .bool h', .string hi', .int .i64 r', .slice a' es'.length cap'] 24)) (w.heap.size + 1) 24 [.int .i64 t', .int .i64 l', .int .i64 s', .bool h', .string hi', .int .i64 r', .slice a' es'.length cap'] := new_at (by simp)
  have hb : Below w.heap.size w ((w.alloc (.cells #[.int .i64 t, .int .i64 l, .int .i64 s, .bool h, .string hi, .int .i64 r, .slice a es.length cap] 24)).alloc (.cells #[.int .i64 t', .int .i64 l', .int .i64 s', .bool h', .string hi', .int .i64 r', .slice a' es'.length cap'] 24)) := ((Below.refl _ _).alloc (Nat.le_refl _) _).alloc (by simp) _
  have X := Lib.hid hX
  have Y := Lib.hid hY
  have B := Lib.hid hb
  have EE := Lib.hid hE
  clear hX hY hb hE hE'
  go_enter Try.func7, Try.ntmps7
  go_wp2_with fail
  refine (awake_calls _).mono ?_
  rintro e w1 ⟨rfl, h1⟩
  replace X := Lib.hid (X.out.below h1 X.out.lt)
  replace Y := Lib.hid (Y.out.below h1 Y.out.lt)
  replace B := Lib.hid (B.out.trans (h1.mono B.out.size))
  clear h1
  go_wp2_with (first
    | (refine load_row X.out 24 Try.underlying24 rfl (by kernel_rfl) rfl rfl rfl ?_)
    | (refine load_row_g X.out 24 Try.underlying24 rfl (by kernel_rfl) (by rfl) rfl rfl ?_))
  refine (GR1.out _ B.out).mono ?_
  rintro e w2 ⟨⟨b1, rfl, hsm⟩, h1⟩
  replace X := Lib.hid (X.out.below h1 X.out.lt)
  replace Y := Lib.hid (Y.out.below h1 Y.out.lt)
  replace B := Lib.hid (B.out.trans (h1.mono B.out.size))
  clear h1
  cases b1
  rotate_left
  · go_wp2_with fail
    go_ret
    exact ⟨rfl, B.out⟩
  have SML := Lib.hid (hsm rfl)
  clear hsm
  go_wp2_with (first
    | (refine load_row Y.out 24 Try.underlying24 rfl (by kernel_rfl) rfl rfl rfl ?_)
    | (refine load_row_g Y.out 24 Try.underlying24 rfl (by kernel_rfl) (by rfl) rfl rfl ?_))
  refine (GR2.out _ B.out).mono ?_
  rintro e w3 ⟨⟨b2, rfl, _⟩, h1⟩
  replace X := Lib.hid (X.out.below h1 X.out.lt)
  replace Y := Lib.hid (Y.out.below h1 Y.out.lt)
  replace B := Lib.hid (B.out.trans (h1.mono B.out.size))
  clear h1
  cases b2
  rotate_left
  · go_wp2_with fail
    go_ret
    exact ⟨rfl, B.out⟩
  by_cases c5 : (key.size : Int) > 100
  · go_wp2_with fail
    go_ret
    exact ⟨rfl, B.out⟩
  have hk100 : key.size ≤ 1000 := by omega
  have F2' := F2.out (by have := SML.out.1; simp only at this; omega) (fun i hi9 => Nat.le_trans (SML.out.2.2 i hi9).1 (by omega)) hk100
  have F2 := Lib.hid F2'
  have CUT : ∀ (sm' : Bool), sm' = sm → True := fun _ _ => trivial
  clear CUT F2' GR1 GR2
  go_wp2_with fail
  have hlx := X.out.lt
  have hly := Y.out.lt
  obtain ⟨Z, f, hfb, ⟨z0, hz0⟩, hcl⟩ := class_of Try.prog w3
  haveI : Nonempty Z := ⟨z0⟩
  have x0 := fun z => (X.out.below (hfb z) hlx).cell (i := 0) rfl
  have x1 := fun z => (X.out.below (hfb z) hlx).cell (i := 1) rfl
  have x2 := fun z => (X.out.below (hfb z) hlx).cell (i := 2) rfl
  have x3 := fun z => (X.out.below (hfb z) hlx).cell (i := 3) rfl
  have x4 := fun z => (X.out.below (hfb z) hlx).cell (i := 4) rfl
  have x5 := fun z => (X.out.below (hfb z) hlx).cell (i := 5) rfl
  have x6 := fun z => (X.out.below (hfb z) hlx).cell (i := 6) rfl
  have y0 := fun z => (Y.out.below (hfb z) hly).cell (i := 0) rfl
  have y1 := fun z => (Y.out.below (hfb z) hly).cell (i := 1) rfl
  have y2 := fun z => (Y.out.below (hfb z) hly).cell (i := 2) rfl
  have y3 := fun z => (Y.out.below (hfb z) hly).cell (i := 3) rfl
  have y4 := fun z => (Y.out.below (hfb z) hly).cell (i := 4) rfl
  have y5 := fun z => (Y.out.below (hfb z) hly).cell (i := 5) rfl
  have y6 := fun z => (Y.out.below (hfb z) hly).cell (i := 6) rfl
  have SC1 := Lib.hid (hcl _ _ _ (fun w1 h1 => S1.out w1 (B.out.trans (h1.mono B.out.size))))
  have SC2 := Lib.hid (hcl _ _ _ (fun w1 h1 => S2.out w1 (B.out.trans (h1.mono B.out.size))))
  have HFB := Lib.hid hfb
  clear hfb hcl S1 S2
  refine Lex.region_class hz0 (by kernel_rfl) (by kernel_rfl) ?_
  cases sm
  all_goals
    repeat (go_big_quiet_step (first | (go_at_call 22; exact SC1.out _) | (go_at_call 19; exact SC2.out _)))
    refine wpQuiet_nil ?_
    rintro w4 ⟨z, rfl⟩
    have h1 := HFB.out z
    clear x0 x1 x2 x3 x4 x5 x6 y0 y1 y2 y3 y4 y5 y6 SC1 SC2 hz0
    replace X := Lib.hid (X.out.below h1 X.out.lt)
    replace Y := Lib.hid (Y.out.below h1 Y.out.lt)
    replace B := Lib.hid (B.out.trans (h1.mono B.out.size))
    clear h1
    clear Y HFB hlx hly
    generalize f z = w4 at *
    have x6 := X.out.cell (i := 6) rfl
    go_wp2_with fail
    go_loopw [7] (fun i wr => ∃ k : Nat, 1 ≤ k ∧ i = .int .i64 k ∧ (∀ p, p + 1 < k → p + 1 < es.length → cmpB (es.getD p noE).key.data.toList (es.getD (p + 1) noE).key.data.toList = -1) ∧ Row wr w.heap.size 24 [.int .i64 t, .int .i64 l, .int .i64 s, .bool h, .string hi, .int .i64 r, .slice a es.length cap] ∧ Below w.heap.size w wr) (fun i _ => es.length - (intOf i).toNat)
    case atStart => exact ⟨1, by omega, rfl, fun p h _ => by omega, X.out, B.out⟩
    case round =>
      clear x6 X B
      obtain ⟨k, hk1, rfl, hri, hXr, hbr⟩ := hrel
      have X := Lib.hid hXr
      have B := Lib.hid hbr
      have RI := Lib.hid hri
      clear hXr hbr hri
      have x6 := X.out.cell (i := 6) rfl
      obtain ⟨j, rfl⟩ : ∃ j, k = j + 1 := ⟨k - 1, by omega⟩
      by_cases hlt : j + 1 < es.length
      · have hj1 : (j : Int) + 1 < (es.length : Int) := by omega
        have hj0 : (j : Int) < (es.length : Int) := by omega
        obtain ⟨ad, hae, _, hx⟩ := EE.out (j + 1) hlt
        obtain ⟨ad2, hae2, _, hp⟩ := EE.out j (by omega)
        subst hae
        cases hae2
        have hgp : es.getD j noE = es[j]'(by omega) := by rw [List.getD_eq_getElem?_getD, List.getElem?_eq_getElem (by omega)]; rfl
        have hgq : es.getD (j + 1) noE = es[j + 1] := by rw [List.getD_eq_getElem?_getD, List.getElem?_eq_getElem hlt]; rfl
        have s1 := (SML.out.2.2 j (by show j < es.length; omega)).1
        have s2 := (SML.out.2.2 (j + 1) hlt).1
        simp only at s1 s2
        obtain ⟨pk, hpk⟩ : ∃ pk, (es[j]'(by omega)).key = pk := ⟨_, rfl⟩
        obtain ⟨qk, hqk⟩ : ∃ qk, (es[j + 1]).key = qk := ⟨_, rfl⟩
        have PX := Lib.hid (fun (w1 : World) (h : Below w.heap.size w w1) => (hp w1 h).1)
        have QX := Lib.hid (fun (w1 : World) (h : Below w.heap.size w w1) => (hx w1 h).1)
        rw [hpk] at PX s1
        rw [hqk] at QX s2
        obtain ⟨c, hc⟩ : ∃ c, cmpB pk.data.toList qk.data.toList = c := ⟨_, rfl⟩
        have hc3 := cmpB_three pk.data.toList qk.data.toList
        have TX := Lib.hid (fun w => texts_calls pk qk w (by omega) (by omega))
        rw [hc] at TX hc3
        have hnew : c = -1 → ∀ p, p + 1 < j + 1 + 1 → p + 1 < es.length → cmpB (es.getD p noE).key.data.toList (es.getD (p + 1) noE).key.data.toList = -1 := fun hc1 p h1 h2 => by
          rcases Nat.lt_or_ge (p + 1) (j + 1) with h' | h'
          · exact RI.out p h' h2
          · obtain rfl : p = j := by omega
            rw [hgp, hgq, hpk, hqk, hc, hc1]
        have HN := Lib.hid hnew
        clear hx hp hgp hgq hpk hqk hc hnew
        go_wp2_with fail
        have hlx := X.out.lt
        obtain ⟨Z, f, hfb, ⟨z0, hz0⟩, hcl⟩ := class_of Try.prog wr
        haveI : Nonempty Z := ⟨z0⟩
        have y6 := fun z => (X.out.below (hfb z) hlx).cell (i := 6) rfl
        have p0 := fun z => PX.out (f z) (B.out.trans ((hfb z).mono B.out.size))
        have q0 := fun z => QX.out (f z) (B.out.trans ((hfb z).mono B.out.size))
        have TC := Lib.hid (hcl _ _ _ (fun w1 _ => TX.out w1))
        have HFB := Lib.hid hfb
        clear hfb hcl x6 PX QX TX
        refine Lex.region_class hz0 (by kernel_rfl) (by kernel_rfl) ?_
        repeat (go_big_quiet_step (first | (go_at_call 23; exact TC.out _)))
        refine wpQuiet_nil ?_
        rintro w5 ⟨z, rfl⟩
        have h1 := HFB.out z
        clear y6 p0 q0 TC hz0
        replace X := Lib.hid (X.out.below h1 X.out.lt)
        replace B := Lib.hid (B.out.trans (h1.mono B.out.size))
        by_cases hc1 : c = -1
        · have HN1 := Lib.hid (HN.out hc1)
          have hcn : decide (0 ≤ c) = false := by simp; omega
          have hcn2 : ¬ 0 ≤ c := by omega
          clear hc1 h1
          go_wp2_with fail
          exact ⟨⟨j + 1 + 1, by omega, by go_num, HN1.out, X.out, B.out⟩, by simp [intOf]; omega⟩
        · have hcn : decide (0 ≤ c) = true := by simp; omega
          have hcn2 : 0 ≤ c := by omega
          go_wp2_with fail
          go_ret
          exact ⟨rfl, B.out⟩
      · have hrs : Rises es := fun p hp => RI.out p (by omega) hp
        have F1c := Lib.hid (F1.out (by have := SML.out.1; simp only at this; omega) hrs)
        obtain ⟨F, hF⟩ : ∃ F, lastTo es key es.length = F := ⟨_, rfl⟩
        rw [hF] at F1c F2
        have hs2 := SML.out.2.1
        simp only at hs2
        have TX := Lib.hid (fun w => texts_calls key hi w hk100 (by omega))
        have hcv : cov ⟨t, l, s, h, hi, r, es⟩ key = (!h || decide (cmpB key.data.toList hi.data.toList = -1)) := rfl
        rw [hcv] at CV
        have hc3 := cmpB_three key.data.toList hi.data.toList
        generalize cmpB key.data.toList hi.data.toList = c at *
        have hj1 : ¬ (j : Int) + 1 < (es.length : Int) := by omega
        clear hF hrs hcv RI F1
        go_wp2_with fail
        have hlx := X.out.lt
        obtain ⟨Z, f, hfb, ⟨z0, hz0⟩, hcl⟩ := class_of Try.prog wr
        haveI : Nonempty Z := ⟨z0⟩
        have x0 := fun z => (X.out.below (hfb z) hlx).cell (i := 0) rfl
        have x1 := fun z => (X.out.below (hfb z) hlx).cell (i := 1) rfl
        have x2 := fun z => (X.out.below (hfb z) hlx).cell (i := 2) rfl
        have x3 := fun z => (X.out.below (hfb z) hlx).cell (i := 3) rfl
        have x4 := fun z => (X.out.below (hfb z) hlx).cell (i := 4) rfl
        have x5 := fun z => (X.out.below (hfb z) hlx).cell (i := 5) rfl
        have x6 := fun z => (X.out.below (hfb z) hlx).cell (i := 6) rfl
        have C1 := Lib.hid (hcl _ _ _ (fun w1 h1 => F1c.out w1 (B.out.trans (h1.mono B.out.size))))
        have C2 := Lib.hid (hcl _ _ _ (fun w1 h1 => F2.out w1 (B.out.trans (h1.mono B.out.size))))
        have C3 := Lib.hid (hcl _ _ _ (fun w1 _ => CV.out w1))
        have C4 := Lib.hid (hcl _ _ _ (fun w1 _ => TX.out w1))
        have HFB := Lib.hid hfb
        clear hfb hcl TX CV F2 F1c
        refine Lex.region_class hz0 (by kernel_rfl) (by kernel_rfl) ?_
        have hcase : (h = false) ∨ (h = true ∧ c = -1) ∨ (h = true ∧ ¬ c = -1) := by
          cases h
          · exact .inl rfl
          · by_cases hc1 : c = -1
            · exact .inr (.inl ⟨rfl, hc1⟩)
            · exact .inr (.inr ⟨rfl, hc1⟩)
        rcases hcase with rfl | ⟨rfl, hc1⟩ | ⟨rfl, hc1⟩
        rotate_left 1
        · subst hc1
          simp only [decide_true, Bool.not_true, Bool.false_or] at C3
          repeat (go_big_quiet_step (first | (go_at_call 24; exact C1.out _) | (go_at_call 25; exact C2.out _) | (go_at_call 26; exact C3.out _) | (go_at_call 23; exact C4.out _)))
          refine wpQuiet_nil ?_
          rintro w6 ⟨z, rfl⟩
          have h1 := HFB.out z
          have hfin := B.out.trans (h1.mono B.out.size)
          go_wp2_with fail
          go_ret
          exact ⟨by first | rfl | simp, hfin⟩
        · have hcn : decide (c < 0) = false := by simp; omega
          have hcn2 : ¬ c < 0 := by omega
          rw [decide_eq_false hc1] at C3
          simp only [Bool.not_true, Bool.false_or] at C3
          repeat (go_big_quiet_step (first | (go_at_call 24; exact C1.out _) | (go_at_call 25; exact C2.out _) | (go_at_call 26; exact C3.out _) | (go_at_call 23; exact C4.out _)))
          refine wpQuiet_nil ?_
          rintro w6 ⟨z, rfl⟩
          have h1 := HFB.out z
          have hfin := B.out.trans (h1.mono B.out.size)
          go_wp2_with fail
          go_ret
          exact ⟨by first | rfl | simp, hfin⟩
        · simp only [Bool.not_false, Bool.true_or] at C3
          repeat (go_big_quiet_step (first | (go_at_call 24; exact C1.out _) | (go_at_call 25; exact C2.out _) | (go_at_call 26; exact C3.out _) | (go_at_call 23; exact C4.out _)))
          refine wpQuiet_nil ?_
          rintro w6 ⟨z, rfl⟩
          have h1 := HFB.out z
          have hfin := B.out.trans (h1.mono B.out.size)
          go_wp2_with fail
          go_ret
          exact ⟨by first | rfl | simp, hfin⟩
theorem finds_row (cs : List Value) (y : Int × Int × Int × Bool × ByteArray × Int × List (ByteArray × ByteArray × Bool × Unit) × Unit) (ds : List Value) (z : Int × Int × Int × Bool × ByteArray × Int × List (ByteArray × ByteArray × Bool × Unit) × Unit) (key : ByteArray) (W : World) (h : nodeC.R W cs y) (h2 : nodeC.R W ds z) (hs : key.size ≤ 140737488351232) :
    Calls Try.prog 7 #[.agg cs.toArray, .agg ds.toArray, .string key] W fun e w' => e = .returned (.bool true) ∧ Below W.heap.size W w' := by
  obtain ⟨n, hn⟩ := node_of h
  obtain ⟨m, hm⟩ := node_of h2
  obtain ⟨a, cap, e1, k1⟩ := hn.ex
  obtain ⟨a', cap', e2, k2⟩ := hm.ex
  rw [e1, e2]
  exact finds_calls n m a a' cap cap' key W k1 k2 hn.len hm.len hs
end Go.Proofs.Ytebmalmciakhcaa.Node
