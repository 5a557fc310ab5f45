/- node.Good, node.Fits. Printed by node_good.py -/
import Derived.Test.YtcfjooeagfollaaNodeGood
import Derived.Test.YtcfjooeagfollaaLex
namespace Go.Proofs.Ytcfjooeagfollaa.Node
open Go.RowKit Go.Proofs.Ytcfjooeagfollaa.Mem Go.Proofs.Ytcfjooeagfollaa.Bytes Go.Proofs.Ytcfjooeagfollaa.Ord
set_option linter.unusedSimpArgs false
set_option linter.unusedVariables false
set_option maxRecDepth 20000

theorem size_zero {s : ByteArray} (h : s.size = 0) : s = ⟨#[]⟩ := by
  have : s.data.toList = [] := List.eq_nil_of_length_eq_zero h
  rw [← bs_of s, this]
  rfl
theorem not_empty {s : ByteArray} (h : ¬ s.size = 0) : s.toList.isEmpty = false := by
  rw [← bs_of s, bs_toList, List.isEmpty_eq_false_iff]
  intro e
  apply h
  rw [size_list, e]
  rfl
theorem geq_run (x y : ByteArray) (wx : World) : (binOp .geq 9 (.string x) (.string y)).run Try.prog wx = .ok (.bool (!decide (cmpB x.data.toList y.data.toList = -1))) wx := by
  rw [show binOp .geq 9 (.string x) (.string y) = Op.stringOp .geq x y from by simp [binOp], ← less_of]
  rfl
set_option maxHeartbeats 4000000 in
theorem good_calls (n : Nd) (a : Option Addr) (cap : Nat) (w : World) (hE : Es w a n.list) (hln : n.list.length ≤ 9223372036854775807) :
    Calls Try.prog 100 #[.agg (n.cells (.slice a n.list.length cap)).toArray] w fun x w' => x = .returned (.bool n.good) ∧ Below w.heap.size w w' := by
  obtain ⟨t, l, s, h, hi, r, es⟩ := n
  simp only at hE hln
  have hX : Row (w.alloc (.cells #[.int .i64 t, .int .i64 l, .int .i64 s, .bool h, .string hi, .int .i64 r, .slice a es.length cap] 85)) w.heap.size 85 [.int .i64 t, .int .i64 l, .int .i64 s, .bool h, .string hi, .int .i64 r, .slice a es.length cap] := new_at rfl
  have hb : Below w.heap.size w (w.alloc (.cells #[.int .i64 t, .int .i64 l, .int .i64 s, .bool h, .string hi, .int .i64 r, .slice a es.length cap] 85)) := (Below.refl _ _).alloc (Nat.le_refl _) _
  have x0 := hX.cell (i := 0) rfl
  have x1 := hX.cell (i := 1) rfl
  have x2 := hX.cell (i := 2) rfl
  have x3 := hX.cell (i := 3) rfl
  have x4 := hX.cell (i := 4) rfl
  have x5 := hX.cell (i := 5) rfl
  have x6 := hX.cell (i := 6) rfl
  show Calls Try.prog 100 #[.agg #[.int .i64 t, .int .i64 l, .int .i64 s, .bool h, .string hi, .int .i64 r, .slice a es.length cap]] w _
  cases c1 : inb t 255 with
  | false =>
    rw [show (Nd.good ⟨t, l, s, h, hi, r, es⟩) = false by simp [Nd.good, headGood, c1]]
    go_enter Try.func100, Try.ntmps100
    go_wp2_with (go_at_call 147; refine (in_calls _ _ _).mono ?_; rintro e w' ⟨rfl, rfl⟩)
    go_ret
    exact ⟨rfl, hb⟩
  | true =>
    cases c2 : inb l 12 with
    | false =>
      rw [show (Nd.good ⟨t, l, s, h, hi, r, es⟩) = false by simp [Nd.good, headGood, c2]]
      go_enter Try.func100, Try.ntmps100
      go_wp2_with (go_at_call 147; refine (in_calls _ _ _).mono ?_; rintro e w' ⟨rfl, rfl⟩)
      go_ret
      exact ⟨rfl, hb⟩
    | true =>
      cases c3 : inb s 2147483647 with
      | false =>
        rw [show (Nd.good ⟨t, l, s, h, hi, r, es⟩) = false by simp [Nd.good, headGood, c3]]
        go_enter Try.func100, Try.ntmps100
        go_wp2_with (go_at_call 147; refine (in_calls _ _ _).mono ?_; rintro e w' ⟨rfl, rfl⟩)
        go_ret
        exact ⟨rfl, hb⟩
      | true =>
        cases c4 : inb r 255 with
        | false =>
          rw [show (Nd.good ⟨t, l, s, h, hi, r, es⟩) = false by simp [Nd.good, headGood, c4]]
          go_enter Try.func100, Try.ntmps100
          go_wp2_with (go_at_call 147; refine (in_calls _ _ _).mono ?_; rintro e w' ⟨rfl, rfl⟩)
          go_ret
          exact ⟨rfl, hb⟩
        | true =>
          by_cases c5 : ¬ es.length ≤ 100
          · have c5' : (es.length : Int) > 100 := by omega
            rw [show (Nd.good ⟨t, l, s, h, hi, r, es⟩) = false by simp [Nd.good, headGood, c5]]
            go_enter Try.func100, Try.ntmps100
            go_wp2_with (go_at_call 147; refine (in_calls _ _ _).mono ?_; rintro e w' ⟨rfl, rfl⟩)
            go_ret
            exact ⟨rfl, hb⟩
          rw [Decidable.not_not] at c5
          have c5' : ¬ (es.length : Int) > 100 := by omega
          have hh : headGood ⟨t, l, s, h, hi, r, es⟩ = true := by simp [headGood, c1, c2, c3, c4, c5]
          have HH := Lib.hid hh
          clear hh
          have fin : highGood ⟨t, l, s, h, hi, r, es⟩ = true → ((h = true ∧ ((hi.size : Int) != 9) = false) ∨ (h = false ∧ hi = ⟨#[]⟩)) → Calls Try.prog 100 #[.agg #[.int .i64 t, .int .i64 l, .int .i64 s, .bool h, .string hi, .int .i64 r, .slice a es.length cap]] w fun x w' => x = .returned (.bool (Nd.good ⟨t, l, s, h, hi, r, es⟩)) ∧ Below w.heap.size w w' := by
            intro hg hcase
            have hgg := fun ha => (good_iff ⟨t, l, s, h, hi, r, es⟩).2 ⟨HH.out, hg, ha⟩
            have hgb := fun i hi' => good_bad (n := ⟨t, l, s, h, hi, r, es⟩) (i := i) hi'
            have hcv := fun key w => covers_calls ⟨t, l, s, h, hi, r, es⟩ (.slice a es.length cap) rfl key w
            have hoks : ∀ i, entOk ⟨t, l, s, h, hi, r, es⟩ i = (entGood (es.getD i noE) l && ((decide (i = 0) || decide (cmpB (es.getD (i - 1) noE).key.data.toList (es.getD i noE).key.data.toList = -1)) && cov ⟨t, l, s, h, hi, r, es⟩ (es.getD i noE).key)) := fun i => rfl
            obtain ⟨G, hG⟩ : ∃ G, Nd.good ⟨t, l, s, h, hi, r, es⟩ = G := ⟨_, rfl⟩
            obtain ⟨ok, hok⟩ : ∃ ok, entOk ⟨t, l, s, h, hi, r, es⟩ = ok := ⟨_, rfl⟩
            obtain ⟨cv, hcv2⟩ : ∃ cv, cov ⟨t, l, s, h, hi, r, es⟩ = cv := ⟨_, rfl⟩
            obtain ⟨H, hH⟩ : ∃ H, Value.bool h = H := ⟨_, rfl⟩
            obtain ⟨HI, hHI⟩ : ∃ HI, Value.string hi = HI := ⟨_, rfl⟩
            have hX2 : Row (w.alloc (.cells #[.int .i64 t, .int .i64 l, .int .i64 s, .bool h, .string hi, .int .i64 r, .slice a es.length cap] 85)) w.heap.size 85 [.int .i64 t, .int .i64 l, .int .i64 s, H, HI, .int .i64 r, .slice a es.length cap] := by rw [← hH, ← hHI]; exact hX
            have hcv3 : ∀ key w, Calls Try.prog 149 #[.agg #[.int .i64 t, .int .i64 l, .int .i64 s, H, HI, .int .i64 r, .slice a es.length cap], .string key] w fun x w' => x = .returned (.bool (cv key)) ∧ Below w.heap.size w w' := by rw [← hH, ← hHI, ← hcv2]; exact hcv
            rw [hG] at hgb hgg ⊢
            rw [hok] at hgb hgg hoks
            rw [hcv2] at hoks
            have HX := Lib.hid hX2
            have CV := Lib.hid hcv3
            have GG := Lib.hid hgg
            have GB := Lib.hid hgb
            have OKS := Lib.hid hoks
            clear hg hgg hgb hcv hoks hG hok hcv2 hH hHI hX2 hcv3 hX HH
            rcases hcase with ⟨rfl, hd⟩ | ⟨rfl, hd⟩
            · go_enter Try.func100, Try.ntmps100
              go_wp2_with (go_at_call 147; refine (in_calls _ _ _).mono ?_; rintro e w' ⟨rfl, rfl⟩)
              clear x0 x1 x2 x3 x4 x5 x6 c1 c2 c3 c4 c5
              go_loopw [46] (fun i wr => ∃ k : Nat, k ≤ es.length ∧ i = .int .i64 k ∧ (∀ i, i < k → ok i = true) ∧ Row wr w.heap.size 85 [.int .i64 t, .int .i64 l, .int .i64 s, H, HI, .int .i64 r, .slice a es.length cap] ∧ Below w.heap.size w wr) (fun i _ => es.length - (intOf i).toNat)
              case atStart => exact ⟨0, by omega, rfl, fun i hi => absurd hi (Nat.not_lt_zero i), HX.out, hb⟩
              case round =>
                clear hb hd
                obtain ⟨k, hk, rfl, hok, hXr, hbw⟩ := hrel
                by_cases hlt : k < es.length
                · obtain ⟨ad, rfl, hlb, hx⟩ := hE k hlt
                  obtain ⟨x0, x1, x2⟩ := hx _ hbw
                  have hlt' : (k : Int) < (es.length : Int) := by omega
                  have hek : es.getD k noE = es[k] := by rw [List.getD_eq_getElem?_getD, List.getElem?_eq_getElem hlt]; rfl
                  obtain ⟨e, he⟩ : ∃ e, es[k] = e := ⟨_, rfl⟩
                  rw [he] at x0 x1 x2 hek
                  clear he hx
                  obtain ⟨key, val, g⟩ := e
                  simp only at x0 x1 x2
                  have hY : Row (wr.alloc (.cells #[.string key, .string val, .bool g] 70)) wr.heap.size 70 [.string key, .string val, .bool g] := new_at rfl
                  have X := Lib.hid (hXr.alloc (.cells #[.string key, .string val, .bool g] 70))
                  have HB := Lib.hid (hbw.alloc hbw.size (.cells #[.string key, .string val, .bool g] 70))
                  have Y := Lib.hid hY
                  have IE := Lib.hid (isEntry_calls ⟨key, val, g⟩ l)
                  have HEK := Lib.hid hek
                  have OKB := Lib.hid hok
                  obtain ⟨eb, heb⟩ : ∃ eb, eb = wr.heap.size := ⟨_, rfl⟩
                  have hxx0 := hXr.cell (i := 1) rfl
                  clear hXr hbw hY hek hok hxx0
                  go_wp2_with fail
                  clear x0 x1 x2
                  rw [← heb] at Y ⊢
                  generalize wr.alloc (.cells #[.string key, .string val, .bool g] 70) = wz at *
                  have hlx := X.out.lt
                  have hly := Y.out.lt
                  clear heb
                  rcases (by cases k with | zero => exact .inl rfl | succ j => exact .inr ⟨j, rfl⟩ : k = 0 ∨ ∃ j, k = j + 1) with rfl | ⟨j, rfl⟩
                  · cases cg : entGood ⟨key, val, g⟩ l with
                    | false =>
                      have OKF : ok 0 = false := by rw [OKS.out 0, HEK.out, cg]; rfl
                      rw [cg] at IE
                      obtain ⟨Z, f, hfb, ⟨z0, hz0⟩, hcl⟩ := Lex.class_of Try.prog wz
                      haveI : Nonempty Z := ⟨z0⟩
                      have x0 := fun z => (X.out.below (hfb z) hlx).cell (i := 0) rfl
                      have x1 := fun z => (X.out.below (hfb z) hlx).cell (i := 1) rfl
                      have x2 := fun z => (X.out.below (hfb z) hlx).cell (i := 2) rfl
                      have x3 := fun z => (X.out.below (hfb z) hlx).cell (i := 3) rfl
                      have x4 := fun z => (X.out.below (hfb z) hlx).cell (i := 4) rfl
                      have x5 := fun z => (X.out.below (hfb z) hlx).cell (i := 5) rfl
                      have x6 := fun z => (X.out.below (hfb z) hlx).cell (i := 6) rfl
                      have y0 := fun z => (Y.out.below (hfb z) hly).cell (i := 0) rfl
                      have y1 := fun z => (Y.out.below (hfb z) hly).cell (i := 1) rfl
                      have y2 := fun z => (Y.out.below (hfb z) hly).cell (i := 2) rfl
                      have IEC := Lib.hid (hcl _ _ _ IE.out)
                      have HFB := Lib.hid hfb
                      clear hfb hcl
                      refine Lex.region_class hz0 (by kernel_rfl) (by kernel_rfl) ?_
                      repeat (go_big_quiet_step (first | (go_at_call 148; exact IEC.out _)))
                      refine wpQuiet_nil ?_
                      rintro w' ⟨z, rfl⟩
                      have hbb := HFB.out z
                      clear HFB hz0 x0 x1 x2 x3 x4 x5 x6 y0 y1 y2
                      all_goals
                        go_wp2_with fail
                        go_ret
                        exact ⟨by rw [GB.out _ hlt OKF]; rfl, HB.out.trans (hbb.mono HB.out.size)⟩
                    | true =>
                      rw [cg] at IE
                      cases cc : cv key with
                      | false =>
                        have OKF : ok 0 = false := by rw [OKS.out 0, HEK.out]; simp [cc]
                        have C2 := Lib.hid (fun w => CV.out key w)
                        rw [cc] at C2
                        obtain ⟨Z, f, hfb, ⟨z0, hz0⟩, hcl⟩ := Lex.class_of Try.prog wz
                        haveI : Nonempty Z := ⟨z0⟩
                        have x0 := fun z => (X.out.below (hfb z) hlx).cell (i := 0) rfl
                        have x1 := fun z => (X.out.below (hfb z) hlx).cell (i := 1) rfl
                        have x2 := fun z => (X.out.below (hfb z) hlx).cell (i := 2) rfl
                        have x3 := fun z => (X.out.below (hfb z) hlx).cell (i := 3) rfl
                        have x4 := fun z => (X.out.below (hfb z) hlx).cell (i := 4) rfl
                        have x5 := fun z => (X.out.below (hfb z) hlx).cell (i := 5) rfl
                        have x6 := fun z => (X.out.below (hfb z) hlx).cell (i := 6) rfl
                        have y0 := fun z => (Y.out.below (hfb z) hly).cell (i := 0) rfl
                        have y1 := fun z => (Y.out.below (hfb z) hly).cell (i := 1) rfl
                        have y2 := fun z => (Y.out.below (hfb z) hly).cell (i := 2) rfl
                        have IEC := Lib.hid (hcl _ _ _ IE.out)
                        have C2C := Lib.hid (hcl _ _ _ C2.out)
                        have HFB := Lib.hid hfb
                        clear hfb hcl
                        refine Lex.region_class hz0 (by kernel_rfl) (by kernel_rfl) ?_
                        repeat (go_big_quiet_step (first | (go_at_call 148; exact IEC.out _) | (go_at_call 149; exact C2C.out _)))
                        refine wpQuiet_nil ?_
                        rintro w' ⟨z, rfl⟩
                        have hbb := HFB.out z
                        clear HFB hz0 x0 x1 x2 x3 x4 x5 x6 y0 y1 y2
                        all_goals
                          go_wp2_with fail
                          go_ret
                          exact ⟨by rw [GB.out _ hlt OKF]; rfl, HB.out.trans (hbb.mono HB.out.size)⟩
                      | true =>
                        have OKT : ∀ i, i < 0 + 1 → ok i = true := fun i hi => by
                          rcases Nat.lt_or_ge i 0 with h' | h'
                          · exact OKB.out i h'
                          · obtain rfl : i = 0 := by omega
                            rw [OKS.out 0, HEK.out, cg, cc]
                            simp
                        have C2 := Lib.hid (fun w => CV.out key w)
                        rw [cc] at C2
                        obtain ⟨Z, f, hfb, ⟨z0, hz0⟩, hcl⟩ := Lex.class_of Try.prog wz
                        haveI : Nonempty Z := ⟨z0⟩
                        have x0 := fun z => (X.out.below (hfb z) hlx).cell (i := 0) rfl
                        have x1 := fun z => (X.out.below (hfb z) hlx).cell (i := 1) rfl
                        have x2 := fun z => (X.out.below (hfb z) hlx).cell (i := 2) rfl
                        have x3 := fun z => (X.out.below (hfb z) hlx).cell (i := 3) rfl
                        have x4 := fun z => (X.out.below (hfb z) hlx).cell (i := 4) rfl
                        have x5 := fun z => (X.out.below (hfb z) hlx).cell (i := 5) rfl
                        have x6 := fun z => (X.out.below (hfb z) hlx).cell (i := 6) rfl
                        have y0 := fun z => (Y.out.below (hfb z) hly).cell (i := 0) rfl
                        have y1 := fun z => (Y.out.below (hfb z) hly).cell (i := 1) rfl
                        have y2 := fun z => (Y.out.below (hfb z) hly).cell (i := 2) rfl
                        have IEC := Lib.hid (hcl _ _ _ IE.out)
                        have C2C := Lib.hid (hcl _ _ _ C2.out)
                        have HFB := Lib.hid hfb
                        clear hfb hcl
                        refine Lex.region_class hz0 (by kernel_rfl) (by kernel_rfl) ?_
                        repeat (go_big_quiet_step (first | (go_at_call 148; exact IEC.out _) | (go_at_call 149; exact C2C.out _)))
                        refine wpQuiet_nil ?_
                        rintro w' ⟨z, rfl⟩
                        have hbb := HFB.out z
                        clear HFB hz0 x0 x1 x2 x3 x4 x5 x6 y0 y1 y2
                        all_goals
                          go_wp2_with fail
                          exact ⟨⟨0 + 1, by omega, by go_num, OKT, X.out.below hbb hlx, HB.out.trans (hbb.mono HB.out.size)⟩, by simp [intOf]; omega⟩
                  · obtain ⟨ad', hadj, _, hp⟩ := hE j (by omega)
                    cases hadj
                    have hej : es.getD j noE = es[j]'(by omega) := by rw [List.getD_eq_getElem?_getD, List.getElem?_eq_getElem (by omega)]; rfl
                    obtain ⟨⟨pk, pv, pg⟩, he⟩ : ∃ e, es[j]'(by omega) = e := ⟨_, rfl⟩
                    have hp0 : ∀ w', Below w.heap.size w w' → w'.cell? (ad.add (j * 3)) = some (.string pk) := fun w' hw' => by
                      have := (hp w' hw').1
                      rw [he] at this
                      exact this
                    rw [he] at hej
                    have PV := Lib.hid hp0
                    have HEJ := Lib.hid hej
                    have hj0 : (0 : Int) < ((j : Int) + 1) := by omega
                    have hj1 : (j : Int) < (es.length : Int) := by omega
                    clear hp hp0 he hej
                    cases cg : entGood ⟨key, val, g⟩ l with
                    | false =>
                      have OKF : ok (j + 1) = false := by rw [OKS.out (j + 1), HEK.out, cg]; rfl
                      rw [cg] at IE
                      obtain ⟨Z, f, hfb, ⟨z0, hz0⟩, hcl⟩ := Lex.class_of Try.prog wz
                      haveI : Nonempty Z := ⟨z0⟩
                      have x0 := fun z => (X.out.below (hfb z) hlx).cell (i := 0) rfl
                      have x1 := fun z => (X.out.below (hfb z) hlx).cell (i := 1) rfl
                      have x2 := fun z => (X.out.below (hfb z) hlx).cell (i := 2) rfl
                      have x3 := fun z => (X.out.below (hfb z) hlx).cell (i := 3) rfl
                      have x4 := fun z => (X.out.below (hfb z) hlx).cell (i := 4) rfl
                      have x5 := fun z => (X.out.below (hfb z) hlx).cell (i := 5) rfl
                      have x6 := fun z => (X.out.below (hfb z) hlx).cell (i := 6) rfl
                      have y0 := fun z => (Y.out.below (hfb z) hly).cell (i := 0) rfl
                      have y1 := fun z => (Y.out.below (hfb z) hly).cell (i := 1) rfl
                      have y2 := fun z => (Y.out.below (hfb z) hly).cell (i := 2) rfl
                      have p0 := fun z => PV.out (f z) (HB.out.trans ((hfb z).mono HB.out.size))
                      have IEC := Lib.hid (hcl _ _ _ IE.out)
                      have HFB := Lib.hid hfb
                      clear hfb hcl
                      refine Lex.region_class hz0 (by kernel_rfl) (by kernel_rfl) ?_
                      repeat (go_big_quiet_step (first | (go_at_call 148; exact IEC.out _)))
                      refine wpQuiet_nil ?_
                      rintro w' ⟨z, rfl⟩
                      have hbb := HFB.out z
                      clear HFB hz0 x0 x1 x2 x3 x4 x5 x6 y0 y1 y2 p0
                      all_goals
                        go_wp2_with fail
                        go_ret
                        exact ⟨by rw [GB.out _ hlt OKF]; rfl, HB.out.trans (hbb.mono HB.out.size)⟩
                    | true =>
                      rw [cg] at IE
                      have hgq := geq_run pk key
                      by_cases cl : cmpB pk.data.toList key.data.toList = -1
                      · rw [decide_eq_true cl, Bool.not_true] at hgq
                        cases cc : cv key with
                        | false =>
                          have OKF : ok (j + 1) = false := by rw [OKS.out (j + 1), HEK.out]; simp [cc]
                          have C2 := Lib.hid (fun w => CV.out key w)
                          rw [cc] at C2
                          obtain ⟨Z, f, hfb, ⟨z0, hz0⟩, hcl⟩ := Lex.class_of Try.prog wz
                          haveI : Nonempty Z := ⟨z0⟩
                          have x0 := fun z => (X.out.below (hfb z) hlx).cell (i := 0) rfl
                          have x1 := fun z => (X.out.below (hfb z) hlx).cell (i := 1) rfl
                          have x2 := fun z => (X.out.below (hfb z) hlx).cell (i := 2) rfl
                          have x3 := fun z => (X.out.below (hfb z) hlx).cell (i := 3) rfl
                          have x4 := fun z => (X.out.below (hfb z) hlx).cell (i := 4) rfl
                          have x5 := fun z => (X.out.below (hfb z) hlx).cell (i := 5) rfl
                          have x6 := fun z => (X.out.below (hfb z) hlx).cell (i := 6) rfl
                          have y0 := fun z => (Y.out.below (hfb z) hly).cell (i := 0) rfl
                          have y1 := fun z => (Y.out.below (hfb z) hly).cell (i := 1) rfl
                          have y2 := fun z => (Y.out.below (hfb z) hly).cell (i := 2) rfl
                          have p0 := fun z => PV.out (f z) (HB.out.trans ((hfb z).mono HB.out.size))
                          have IEC := Lib.hid (hcl _ _ _ IE.out)
                          have C2C := Lib.hid (hcl _ _ _ C2.out)
                          have HFB := Lib.hid hfb
                          clear hfb hcl
                          refine Lex.region_class hz0 (by kernel_rfl) (by kernel_rfl) ?_
                          repeat (go_big_quiet_step (first | (go_at_call 148; exact IEC.out _) | (go_at_call 149; exact C2C.out _)))
                          refine wpQuiet_nil ?_
                          rintro w' ⟨z, rfl⟩
                          have hbb := HFB.out z
                          clear HFB hz0 x0 x1 x2 x3 x4 x5 x6 y0 y1 y2 p0
                          all_goals
                            go_wp2_with fail
                            go_ret
                            exact ⟨by rw [GB.out _ hlt OKF]; rfl, HB.out.trans (hbb.mono HB.out.size)⟩
                        | true =>
                          have OKT : ∀ i, i < (j + 1) + 1 → ok i = true := fun i hi => by
                            rcases Nat.lt_or_ge i (j + 1) with h' | h'
                            · exact OKB.out i h'
                            · obtain rfl : i = (j + 1) := by omega
                              rw [OKS.out (j + 1), HEK.out, cg, cc]
                              rw [Nat.add_sub_cancel, HEJ.out]
                              simp [cl]
                          have C2 := Lib.hid (fun w => CV.out key w)
                          rw [cc] at C2
                          obtain ⟨Z, f, hfb, ⟨z0, hz0⟩, hcl⟩ := Lex.class_of Try.prog wz
                          haveI : Nonempty Z := ⟨z0⟩
                          have x0 := fun z => (X.out.below (hfb z) hlx).cell (i := 0) rfl
                          have x1 := fun z => (X.out.below (hfb z) hlx).cell (i := 1) rfl
                          have x2 := fun z => (X.out.below (hfb z) hlx).cell (i := 2) rfl
                          have x3 := fun z => (X.out.below (hfb z) hlx).cell (i := 3) rfl
                          have x4 := fun z => (X.out.below (hfb z) hlx).cell (i := 4) rfl
                          have x5 := fun z => (X.out.below (hfb z) hlx).cell (i := 5) rfl
                          have x6 := fun z => (X.out.below (hfb z) hlx).cell (i := 6) rfl
                          have y0 := fun z => (Y.out.below (hfb z) hly).cell (i := 0) rfl
                          have y1 := fun z => (Y.out.below (hfb z) hly).cell (i := 1) rfl
                          have y2 := fun z => (Y.out.below (hfb z) hly).cell (i := 2) rfl
                          have p0 := fun z => PV.out (f z) (HB.out.trans ((hfb z).mono HB.out.size))
                          have IEC := Lib.hid (hcl _ _ _ IE.out)
                          have C2C := Lib.hid (hcl _ _ _ C2.out)
                          have HFB := Lib.hid hfb
                          clear hfb hcl
                          refine Lex.region_class hz0 (by kernel_rfl) (by kernel_rfl) ?_
                          repeat (go_big_quiet_step (first | (go_at_call 148; exact IEC.out _) | (go_at_call 149; exact C2C.out _)))
                          refine wpQuiet_nil ?_
                          rintro w' ⟨z, rfl⟩
                          have hbb := HFB.out z
                          clear HFB hz0 x0 x1 x2 x3 x4 x5 x6 y0 y1 y2 p0
                          all_goals
                            go_wp2_with fail
                            exact ⟨⟨(j + 1) + 1, by omega, by go_num, OKT, X.out.below hbb hlx, HB.out.trans (hbb.mono HB.out.size)⟩, by simp [intOf]; omega⟩
                      · have OKF : ok (j + 1) = false := by rw [OKS.out (j + 1), HEK.out, Nat.add_sub_cancel, HEJ.out]; simp [cl]
                        rw [decide_eq_false cl, Bool.not_false] at hgq
                        obtain ⟨Z, f, hfb, ⟨z0, hz0⟩, hcl⟩ := Lex.class_of Try.prog wz
                        haveI : Nonempty Z := ⟨z0⟩
                        have x0 := fun z => (X.out.below (hfb z) hlx).cell (i := 0) rfl
                        have x1 := fun z => (X.out.below (hfb z) hlx).cell (i := 1) rfl
                        have x2 := fun z => (X.out.below (hfb z) hlx).cell (i := 2) rfl
                        have x3 := fun z => (X.out.below (hfb z) hlx).cell (i := 3) rfl
                        have x4 := fun z => (X.out.below (hfb z) hlx).cell (i := 4) rfl
                        have x5 := fun z => (X.out.below (hfb z) hlx).cell (i := 5) rfl
                        have x6 := fun z => (X.out.below (hfb z) hlx).cell (i := 6) rfl
                        have y0 := fun z => (Y.out.below (hfb z) hly).cell (i := 0) rfl
                        have y1 := fun z => (Y.out.below (hfb z) hly).cell (i := 1) rfl
                        have y2 := fun z => (Y.out.below (hfb z) hly).cell (i := 2) rfl
                        have p0 := fun z => PV.out (f z) (HB.out.trans ((hfb z).mono HB.out.size))
                        have IEC := Lib.hid (hcl _ _ _ IE.out)
                        have HFB := Lib.hid hfb
                        clear hfb hcl
                        refine Lex.region_class hz0 (by kernel_rfl) (by kernel_rfl) ?_
                        repeat (go_big_quiet_step (first | (go_at_call 148; exact IEC.out _)))
                        refine wpQuiet_nil ?_
                        rintro w' ⟨z, rfl⟩
                        have hbb := HFB.out z
                        clear HFB hz0 x0 x1 x2 x3 x4 x5 x6 y0 y1 y2 p0
                        all_goals
                          go_wp2_with fail
                          go_ret
                          exact ⟨by rw [GB.out _ hlt OKF]; rfl, HB.out.trans (hbb.mono HB.out.size)⟩
                · obtain rfl : k = es.length := by omega
                  go_wp2_with fail
                  go_ret
                  exact ⟨by rw [GG.out hok]; rfl, hbw⟩
            · subst hd
              go_enter Try.func100, Try.ntmps100
              go_wp2_with (go_at_call 147; refine (in_calls _ _ _).mono ?_; rintro e w' ⟨rfl, rfl⟩)
              clear x0 x1 x2 x3 x4 x5 x6 c1 c2 c3 c4 c5
              go_loopw [46] (fun i wr => ∃ k : Nat, k ≤ es.length ∧ i = .int .i64 k ∧ (∀ i, i < k → ok i = true) ∧ Row wr w.heap.size 85 [.int .i64 t, .int .i64 l, .int .i64 s, H, HI, .int .i64 r, .slice a es.length cap] ∧ Below w.heap.size w wr) (fun i _ => es.length - (intOf i).toNat)
              case atStart => exact ⟨0, by omega, rfl, fun i hi => absurd hi (Nat.not_lt_zero i), HX.out, hb⟩
              case round =>
                clear hb
                obtain ⟨k, hk, rfl, hok, hXr, hbw⟩ := hrel
                by_cases hlt : k < es.length
                · obtain ⟨ad, rfl, hlb, hx⟩ := hE k hlt
                  obtain ⟨x0, x1, x2⟩ := hx _ hbw
                  have hlt' : (k : Int) < (es.length : Int) := by omega
                  have hek : es.getD k noE = es[k] := by rw [List.getD_eq_getElem?_getD, List.getElem?_eq_getElem hlt]; rfl
                  obtain ⟨e, he⟩ : ∃ e, es[k] = e := ⟨_, rfl⟩
                  rw [he] at x0 x1 x2 hek
                  clear he hx
                  obtain ⟨key, val, g⟩ := e
                  simp only at x0 x1 x2
                  have hY : Row (wr.alloc (.cells #[.string key, .string val, .bool g] 70)) wr.heap.size 70 [.string key, .string val, .bool g] := new_at rfl
                  have X := Lib.hid (hXr.alloc (.cells #[.string key, .string val, .bool g] 70))
                  have HB := Lib.hid (hbw.alloc hbw.size (.cells #[.string key, .string val, .bool g] 70))
                  have Y := Lib.hid hY
                  have IE := Lib.hid (isEntry_calls ⟨key, val, g⟩ l)
                  have HEK := Lib.hid hek
                  have OKB := Lib.hid hok
                  obtain ⟨eb, heb⟩ : ∃ eb, eb = wr.heap.size := ⟨_, rfl⟩
                  have hxx0 := hXr.cell (i := 1) rfl
                  clear hXr hbw hY hek hok hxx0
                  go_wp2_with fail
                  clear x0 x1 x2
                  rw [← heb] at Y ⊢
                  generalize wr.alloc (.cells #[.string key, .string val, .bool g] 70) = wz at *
                  have hlx := X.out.lt
                  have hly := Y.out.lt
                  clear heb
                  rcases (by cases k with | zero => exact .inl rfl | succ j => exact .inr ⟨j, rfl⟩ : k = 0 ∨ ∃ j, k = j + 1) with rfl | ⟨j, rfl⟩
                  · cases cg : entGood ⟨key, val, g⟩ l with
                    | false =>
                      have OKF : ok 0 = false := by rw [OKS.out 0, HEK.out, cg]; rfl
                      rw [cg] at IE
                      obtain ⟨Z, f, hfb, ⟨z0, hz0⟩, hcl⟩ := Lex.class_of Try.prog wz
                      haveI : Nonempty Z := ⟨z0⟩
                      have x0 := fun z => (X.out.below (hfb z) hlx).cell (i := 0) rfl
                      have x1 := fun z => (X.out.below (hfb z) hlx).cell (i := 1) rfl
                      have x2 := fun z => (X.out.below (hfb z) hlx).cell (i := 2) rfl
                      have x3 := fun z => (X.out.below (hfb z) hlx).cell (i := 3) rfl
                      have x4 := fun z => (X.out.below (hfb z) hlx).cell (i := 4) rfl
                      have x5 := fun z => (X.out.below (hfb z) hlx).cell (i := 5) rfl
                      have x6 := fun z => (X.out.below (hfb z) hlx).cell (i := 6) rfl
                      have y0 := fun z => (Y.out.below (hfb z) hly).cell (i := 0) rfl
                      have y1 := fun z => (Y.out.below (hfb z) hly).cell (i := 1) rfl
                      have y2 := fun z => (Y.out.below (hfb z) hly).cell (i := 2) rfl
                      have IEC := Lib.hid (hcl _ _ _ IE.out)
                      have HFB := Lib.hid hfb
                      clear hfb hcl
                      refine Lex.region_class hz0 (by kernel_rfl) (by kernel_rfl) ?_
                      repeat (go_big_quiet_step (first | (go_at_call 148; exact IEC.out _)))
                      refine wpQuiet_nil ?_
                      rintro w' ⟨z, rfl⟩
                      have hbb := HFB.out z
                      clear HFB hz0 x0 x1 x2 x3 x4 x5 x6 y0 y1 y2
                      all_goals
                        go_wp2_with fail
                        go_ret
                        exact ⟨by rw [GB.out _ hlt OKF]; rfl, HB.out.trans (hbb.mono HB.out.size)⟩
                    | true =>
                      rw [cg] at IE
                      cases cc : cv key with
                      | false =>
                        have OKF : ok 0 = false := by rw [OKS.out 0, HEK.out]; simp [cc]
                        have C2 := Lib.hid (fun w => CV.out key w)
                        rw [cc] at C2
                        obtain ⟨Z, f, hfb, ⟨z0, hz0⟩, hcl⟩ := Lex.class_of Try.prog wz
                        haveI : Nonempty Z := ⟨z0⟩
                        have x0 := fun z => (X.out.below (hfb z) hlx).cell (i := 0) rfl
                        have x1 := fun z => (X.out.below (hfb z) hlx).cell (i := 1) rfl
                        have x2 := fun z => (X.out.below (hfb z) hlx).cell (i := 2) rfl
                        have x3 := fun z => (X.out.below (hfb z) hlx).cell (i := 3) rfl
                        have x4 := fun z => (X.out.below (hfb z) hlx).cell (i := 4) rfl
                        have x5 := fun z => (X.out.below (hfb z) hlx).cell (i := 5) rfl
                        have x6 := fun z => (X.out.below (hfb z) hlx).cell (i := 6) rfl
                        have y0 := fun z => (Y.out.below (hfb z) hly).cell (i := 0) rfl
                        have y1 := fun z => (Y.out.below (hfb z) hly).cell (i := 1) rfl
                        have y2 := fun z => (Y.out.below (hfb z) hly).cell (i := 2) rfl
                        have IEC := Lib.hid (hcl _ _ _ IE.out)
                        have C2C := Lib.hid (hcl _ _ _ C2.out)
                        have HFB := Lib.hid hfb
                        clear hfb hcl
                        refine Lex.region_class hz0 (by kernel_rfl) (by kernel_rfl) ?_
                        repeat (go_big_quiet_step (first | (go_at_call 148; exact IEC.out _) | (go_at_call 149; exact C2C.out _)))
                        refine wpQuiet_nil ?_
                        rintro w' ⟨z, rfl⟩
                        have hbb := HFB.out z
                        clear HFB hz0 x0 x1 x2 x3 x4 x5 x6 y0 y1 y2
                        all_goals
                          go_wp2_with fail
                          go_ret
                          exact ⟨by rw [GB.out _ hlt OKF]; rfl, HB.out.trans (hbb.mono HB.out.size)⟩
                      | true =>
                        have OKT : ∀ i, i < 0 + 1 → ok i = true := fun i hi => by
                          rcases Nat.lt_or_ge i 0 with h' | h'
                          · exact OKB.out i h'
                          · obtain rfl : i = 0 := by omega
                            rw [OKS.out 0, HEK.out, cg, cc]
                            simp
                        have C2 := Lib.hid (fun w => CV.out key w)
                        rw [cc] at C2
                        obtain ⟨Z, f, hfb, ⟨z0, hz0⟩, hcl⟩ := Lex.class_of Try.prog wz
                        haveI : Nonempty Z := ⟨z0⟩
                        have x0 := fun z => (X.out.below (hfb z) hlx).cell (i := 0) rfl
                        have x1 := fun z => (X.out.below (hfb z) hlx).cell (i := 1) rfl
                        have x2 := fun z => (X.out.below (hfb z) hlx).cell (i := 2) rfl
                        have x3 := fun z => (X.out.below (hfb z) hlx).cell (i := 3) rfl
                        have x4 := fun z => (X.out.below (hfb z) hlx).cell (i := 4) rfl
                        have x5 := fun z => (X.out.below (hfb z) hlx).cell (i := 5) rfl
                        have x6 := fun z => (X.out.below (hfb z) hlx).cell (i := 6) rfl
                        have y0 := fun z => (Y.out.below (hfb z) hly).cell (i := 0) rfl
                        have y1 := fun z => (Y.out.below (hfb z) hly).cell (i := 1) rfl
                        have y2 := fun z => (Y.out.below (hfb z) hly).cell (i := 2) rfl
                        have IEC := Lib.hid (hcl _ _ _ IE.out)
                        have C2C := Lib.hid (hcl _ _ _ C2.out)
                        have HFB := Lib.hid hfb
                        clear hfb hcl
                        refine Lex.region_class hz0 (by kernel_rfl) (by kernel_rfl) ?_
                        repeat (go_big_quiet_step (first | (go_at_call 148; exact IEC.out _) | (go_at_call 149; exact C2C.out _)))
                        refine wpQuiet_nil ?_
                        rintro w' ⟨z, rfl⟩
                        have hbb := HFB.out z
                        clear HFB hz0 x0 x1 x2 x3 x4 x5 x6 y0 y1 y2
                        all_goals
                          go_wp2_with fail
                          exact ⟨⟨0 + 1, by omega, by go_num, OKT, X.out.below hbb hlx, HB.out.trans (hbb.mono HB.out.size)⟩, by simp [intOf]; omega⟩
                  · obtain ⟨ad', hadj, _, hp⟩ := hE j (by omega)
                    cases hadj
                    have hej : es.getD j noE = es[j]'(by omega) := by rw [List.getD_eq_getElem?_getD, List.getElem?_eq_getElem (by omega)]; rfl
                    obtain ⟨⟨pk, pv, pg⟩, he⟩ : ∃ e, es[j]'(by omega) = e := ⟨_, rfl⟩
                    have hp0 : ∀ w', Below w.heap.size w w' → w'.cell? (ad.add (j * 3)) = some (.string pk) := fun w' hw' => by
                      have := (hp w' hw').1
                      rw [he] at this
                      exact this
                    rw [he] at hej
                    have PV := Lib.hid hp0
                    have HEJ := Lib.hid hej
                    have hj0 : (0 : Int) < ((j : Int) + 1) := by omega
                    have hj1 : (j : Int) < (es.length : Int) := by omega
                    clear hp hp0 he hej
                    cases cg : entGood ⟨key, val, g⟩ l with
                    | false =>
                      have OKF : ok (j + 1) = false := by rw [OKS.out (j + 1), HEK.out, cg]; rfl
                      rw [cg] at IE
                      obtain ⟨Z, f, hfb, ⟨z0, hz0⟩, hcl⟩ := Lex.class_of Try.prog wz
                      haveI : Nonempty Z := ⟨z0⟩
                      have x0 := fun z => (X.out.below (hfb z) hlx).cell (i := 0) rfl
                      have x1 := fun z => (X.out.below (hfb z) hlx).cell (i := 1) rfl
                      have x2 := fun z => (X.out.below (hfb z) hlx).cell (i := 2) rfl
                      have x3 := fun z => (X.out.below (hfb z) hlx).cell (i := 3) rfl
                      have x4 := fun z => (X.out.below (hfb z) hlx).cell (i := 4) rfl
                      have x5 := fun z => (X.out.below (hfb z) hlx).cell (i := 5) rfl
                      have x6 := fun z => (X.out.below (hfb z) hlx).cell (i := 6) rfl
                      have y0 := fun z => (Y.out.below (hfb z) hly).cell (i := 0) rfl
                      have y1 := fun z => (Y.out.below (hfb z) hly).cell (i := 1) rfl
                      have y2 := fun z => (Y.out.below (hfb z) hly).cell (i := 2) rfl
                      have p0 := fun z => PV.out (f z) (HB.out.trans ((hfb z).mono HB.out.size))
                      have IEC := Lib.hid (hcl _ _ _ IE.out)
                      have HFB := Lib.hid hfb
                      clear hfb hcl
                      refine Lex.region_class hz0 (by kernel_rfl) (by kernel_rfl) ?_
                      repeat (go_big_quiet_step (first | (go_at_call 148; exact IEC.out _)))
                      refine wpQuiet_nil ?_
                      rintro w' ⟨z, rfl⟩
                      have hbb := HFB.out z
                      clear HFB hz0 x0 x1 x2 x3 x4 x5 x6 y0 y1 y2 p0
                      all_goals
                        go_wp2_with fail
                        go_ret
                        exact ⟨by rw [GB.out _ hlt OKF]; rfl, HB.out.trans (hbb.mono HB.out.size)⟩
                    | true =>
                      rw [cg] at IE
                      have hgq := geq_run pk key
                      by_cases cl : cmpB pk.data.toList key.data.toList = -1
                      · rw [decide_eq_true cl, Bool.not_true] at hgq
                        cases cc : cv key with
                        | false =>
                          have OKF : ok (j + 1) = false := by rw [OKS.out (j + 1), HEK.out]; simp [cc]
                          have C2 := Lib.hid (fun w => CV.out key w)
                          rw [cc] at C2
                          obtain ⟨Z, f, hfb, ⟨z0, hz0⟩, hcl⟩ := Lex.class_of Try.prog wz
                          haveI : Nonempty Z := ⟨z0⟩
                          have x0 := fun z => (X.out.below (hfb z) hlx).cell (i := 0) rfl
                          have x1 := fun z => (X.out.below (hfb z) hlx).cell (i := 1) rfl
                          have x2 := fun z => (X.out.below (hfb z) hlx).cell (i := 2) rfl
                          have x3 := fun z => (X.out.below (hfb z) hlx).cell (i := 3) rfl
                          have x4 := fun z => (X.out.below (hfb z) hlx).cell (i := 4) rfl
                          have x5 := fun z => (X.out.below (hfb z) hlx).cell (i := 5) rfl
                          have x6 := fun z => (X.out.below (hfb z) hlx).cell (i := 6) rfl
                          have y0 := fun z => (Y.out.below (hfb z) hly).cell (i := 0) rfl
                          have y1 := fun z => (Y.out.below (hfb z) hly).cell (i := 1) rfl
                          have y2 := fun z => (Y.out.below (hfb z) hly).cell (i := 2) rfl
                          have p0 := fun z => PV.out (f z) (HB.out.trans ((hfb z).mono HB.out.size))
                          have IEC := Lib.hid (hcl _ _ _ IE.out)
                          have C2C := Lib.hid (hcl _ _ _ C2.out)
                          have HFB := Lib.hid hfb
                          clear hfb hcl
                          refine Lex.region_class hz0 (by kernel_rfl) (by kernel_rfl) ?_
                          repeat (go_big_quiet_step (first | (go_at_call 148; exact IEC.out _) | (go_at_call 149; exact C2C.out _)))
                          refine wpQuiet_nil ?_
                          rintro w' ⟨z, rfl⟩
                          have hbb := HFB.out z
                          clear HFB hz0 x0 x1 x2 x3 x4 x5 x6 y0 y1 y2 p0
                          all_goals
                            go_wp2_with fail
                            go_ret
                            exact ⟨by rw [GB.out _ hlt OKF]; rfl, HB.out.trans (hbb.mono HB.out.size)⟩
                        | true =>
                          have OKT : ∀ i, i < (j + 1) + 1 → ok i = true := fun i hi => by
                            rcases Nat.lt_or_ge i (j + 1) with h' | h'
                            · exact OKB.out i h'
                            · obtain rfl : i = (j + 1) := by omega
                              rw [OKS.out (j + 1), HEK.out, cg, cc]
                              rw [Nat.add_sub_cancel, HEJ.out]
                              simp [cl]
                          have C2 := Lib.hid (fun w => CV.out key w)
                          rw [cc] at C2
                          obtain ⟨Z, f, hfb, ⟨z0, hz0⟩, hcl⟩ := Lex.class_of Try.prog wz
                          haveI : Nonempty Z := ⟨z0⟩
                          have x0 := fun z => (X.out.below (hfb z) hlx).cell (i := 0) rfl
                          have x1 := fun z => (X.out.below (hfb z) hlx).cell (i := 1) rfl
                          have x2 := fun z => (X.out.below (hfb z) hlx).cell (i := 2) rfl
                          have x3 := fun z => (X.out.below (hfb z) hlx).cell (i := 3) rfl
                          have x4 := fun z => (X.out.below (hfb z) hlx).cell (i := 4) rfl
                          have x5 := fun z => (X.out.below (hfb z) hlx).cell (i := 5) rfl
                          have x6 := fun z => (X.out.below (hfb z) hlx).cell (i := 6) rfl
                          have y0 := fun z => (Y.out.below (hfb z) hly).cell (i := 0) rfl
                          have y1 := fun z => (Y.out.below (hfb z) hly).cell (i := 1) rfl
                          have y2 := fun z => (Y.out.below (hfb z) hly).cell (i := 2) rfl
                          have p0 := fun z => PV.out (f z) (HB.out.trans ((hfb z).mono HB.out.size))
                          have IEC := Lib.hid (hcl _ _ _ IE.out)
                          have C2C := Lib.hid (hcl _ _ _ C2.out)
                          have HFB := Lib.hid hfb
                          clear hfb hcl
                          refine Lex.region_class hz0 (by kernel_rfl) (by kernel_rfl) ?_
                          repeat (go_big_quiet_step (first | (go_at_call 148; exact IEC.out _) | (go_at_call 149; exact C2C.out _)))
                          refine wpQuiet_nil ?_
                          rintro w' ⟨z, rfl⟩
                          have hbb := HFB.out z
                          clear HFB hz0 x0 x1 x2 x3 x4 x5 x6 y0 y1 y2 p0
                          all_goals
                            go_wp2_with fail
                            exact ⟨⟨(j + 1) + 1, by omega, by go_num, OKT, X.out.below hbb hlx, HB.out.trans (hbb.mono HB.out.size)⟩, by simp [intOf]; omega⟩
                      · have OKF : ok (j + 1) = false := by rw [OKS.out (j + 1), HEK.out, Nat.add_sub_cancel, HEJ.out]; simp [cl]
                        rw [decide_eq_false cl, Bool.not_false] at hgq
                        obtain ⟨Z, f, hfb, ⟨z0, hz0⟩, hcl⟩ := Lex.class_of Try.prog wz
                        haveI : Nonempty Z := ⟨z0⟩
                        have x0 := fun z => (X.out.below (hfb z) hlx).cell (i := 0) rfl
                        have x1 := fun z => (X.out.below (hfb z) hlx).cell (i := 1) rfl
                        have x2 := fun z => (X.out.below (hfb z) hlx).cell (i := 2) rfl
                        have x3 := fun z => (X.out.below (hfb z) hlx).cell (i := 3) rfl
                        have x4 := fun z => (X.out.below (hfb z) hlx).cell (i := 4) rfl
                        have x5 := fun z => (X.out.below (hfb z) hlx).cell (i := 5) rfl
                        have x6 := fun z => (X.out.below (hfb z) hlx).cell (i := 6) rfl
                        have y0 := fun z => (Y.out.below (hfb z) hly).cell (i := 0) rfl
                        have y1 := fun z => (Y.out.below (hfb z) hly).cell (i := 1) rfl
                        have y2 := fun z => (Y.out.below (hfb z) hly).cell (i := 2) rfl
                        have p0 := fun z => PV.out (f z) (HB.out.trans ((hfb z).mono HB.out.size))
                        have IEC := Lib.hid (hcl _ _ _ IE.out)
                        have HFB := Lib.hid hfb
                        clear hfb hcl
                        refine Lex.region_class hz0 (by kernel_rfl) (by kernel_rfl) ?_
                        repeat (go_big_quiet_step (first | (go_at_call 148; exact IEC.out _)))
                        refine wpQuiet_nil ?_
                        rintro w' ⟨z, rfl⟩
                        have hbb := HFB.out z
                        clear HFB hz0 x0 x1 x2 x3 x4 x5 x6 y0 y1 y2 p0
                        all_goals
                          go_wp2_with fail
                          go_ret
                          exact ⟨by rw [GB.out _ hlt OKF]; rfl, HB.out.trans (hbb.mono HB.out.size)⟩
                · obtain rfl : k = es.length := by omega
                  go_wp2_with fail
                  go_ret
                  exact ⟨by rw [GG.out hok]; rfl, hbw⟩
          cases h with
          | true =>
            by_cases ch : hi.size = 9
            · exact fin (by simp [highGood, ch]) (.inl ⟨rfl, by simp; omega⟩)
            · have ch' : ((hi.size : Int) != 9) = true := by simp; omega
              rw [show (Nd.good ⟨t, l, s, true, hi, r, es⟩) = false by simp [Nd.good, highGood, ch]]
              go_enter Try.func100, Try.ntmps100
              go_wp2_with (go_at_call 147; refine (in_calls _ _ _).mono ?_; rintro e w' ⟨rfl, rfl⟩)
              go_ret
              exact ⟨rfl, hb⟩
          | false =>
            by_cases ch : hi.size = 0
            · exact fin (by simp [highGood, ch]) (.inr ⟨rfl, size_zero ch⟩)
            · have ch' := not_empty ch
              rw [show (Nd.good ⟨t, l, s, false, hi, r, es⟩) = false by simp [Nd.good, highGood, ch]]
              go_enter Try.func100, Try.ntmps100
              go_wp2_with (go_at_call 147; refine (in_calls _ _ _).mono ?_; rintro e w' ⟨rfl, rfl⟩)
              go_ret
              exact ⟨rfl, hb⟩
end Go.Proofs.Ytcfjooeagfollaa.Node
