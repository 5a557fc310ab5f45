/- gaugerref08.one, Size, Good. Printed by node_refgood.py -/
import Derived.Test.YtebmalmciakhcaaNodeLawF
namespace Go.Proofs.Ytebmalmciakhcaa.Node
open Go.RowKit Go.Proofs.Ytebmalmciakhcaa.Mem Go.Proofs.Ytebmalmciakhcaa.Bytes Go.Proofs.Ytebmalmciakhcaa.Ord
set_option linter.unusedSimpArgs false
set_option linter.unusedVariables false

theorem one_calls (b : Bool) (w : World) : Calls Try.prog 36 #[.bool b] w fun e w' => e = .returned (.int .u8 (one b : Int)) ∧ w' = w := by
  cases b
  · go_enter Try.func36, Try.ntmps36
    go_wp2_with fail
    go_ret
    exact ⟨rfl, rfl⟩
  · go_enter Try.func36, Try.ntmps36
    go_wp2_with fail
    go_ret
    exact ⟨rfl, rfl⟩

set_option maxHeartbeats 1000000 in
theorem refsize_calls (n : Nd) (a : Option Addr) (cap : Nat) (w : World) (hE : Es w a n.list) (hl : n.list.length ≤ 1000000) (hv : ∀ e ∈ n.list, e.val.size ≤ 1000000) :
    Calls Try.prog 11 #[.agg (n.cells (.slice a n.list.length cap)).toArray] w fun x w' => x = .returned (.int .i64 (n.size : Int)) ∧ Below w.heap.size w w' := by
  obtain ⟨t, l, s, h, hi, r, es⟩ := n
  simp only at hE hl hv
  have hX : Row (w.alloc (.cells #[.int .i64 t, .int .i64 l, .int .i64 s, .bool h, .string hi, .int .i64 r, .slice a es.length cap] 24)) w.heap.size 24 [.int .i64 t, .int .i64 l, .int .i64 s, .bool h, .string hi, .int .i64 r, .slice a es.length cap] := new_at rfl
  have hb : Below w.heap.size w (w.alloc (.cells #[.int .i64 t, .int .i64 l, .int .i64 s, .bool h, .string hi, .int .i64 r, .slice a es.length cap] 24)) := (Below.refl _ _).alloc (Nat.le_refl _) _
  have x6 := hX.cell (i := 6) rfl
  show Calls Try.prog 11 #[.agg #[.int .i64 t, .int .i64 l, .int .i64 s, .bool h, .string hi, .int .i64 r, .slice a es.length cap]] w _
  rw [show (Nd.size ⟨t, l, s, h, hi, r, es⟩) = 20 + size0 es from rfl]
  have hB : ∀ k, k ≤ es.length → size0 (es.take k) ≤ k * 1000011 := by
    intro k
    induction k with
    | zero => intro _; simp [size0]
    | succ k ih =>
      intro hk
      have := ih (by omega)
      have h3 := hv _ (List.getElem_mem (show k < es.length from hk))
      rw [size0_take (by omega)]
      omega
  have HB0 := Lib.hid hB
  clear hB hX
  go_enter Try.func11, Try.ntmps11
  go_wp2_with fail
  go_loopw [3, 4] (fun s i wr => ∃ k : Nat, k ≤ es.length ∧ i = .int .i64 k ∧ s = .int .i64 ((20 + size0 (es.take k) : Nat) : Int) ∧ wr.cell? ⟨w.heap.size, 6, none⟩ = some (.slice a es.length cap) ∧ Below w.heap.size w wr) (fun _ i _ => es.length - (intOf i).toNat)
  case atStart => exact ⟨0, by omega, rfl, rfl, x6, hb⟩
  case round =>
    clear x6 hb
    obtain ⟨k, hk, rfl, rfl, x6, hbw⟩ := hrel
    by_cases hlt : k < es.length
    · obtain ⟨ad, rfl, hlb, hx⟩ := hE k hlt
      obtain ⟨x0, x1, x2⟩ := hx _ hbw
      have hst := size0_take hlt
      have hm := HB0.out (k + 1) (by omega)
      have hvk := hv _ (List.getElem_mem hlt)
      have hlt' : (k : Int) < (es.length : Int) := by omega
      generalize es[k] = e at *
      obtain ⟨key, val, g⟩ := e
      simp only at x0 x1 x2 hst hvk
      have ST := Lib.hid hst
      rw [hst] at hm
      have hwr : ((20 + size0 (es.take k) : Nat) : Int) + 11 + (val.size : Int) ≤ 9223372036854775807 := by
        have : (k + 1) * 1000011 ≤ 1000000 * 1000011 := Nat.mul_le_mul_right _ (by omega)
        omega
      clear hst hx hE hm
      go_wp2_with fail
      exact ⟨⟨k + 1, by omega, by go_num, by rw [ST.out]; go_num, x6, hbw⟩, by simp [intOf]; omega⟩
    · obtain rfl : k = es.length := by omega
      rw [List.take_length]
      go_wp2_with fail
      go_ret
      exact ⟨rfl, hbw⟩

set_option maxHeartbeats 4000000 in
set_option maxRecDepth 8000 in
theorem refgood_calls (n : Nd) (a : Option Addr) (cap : Nat) (w : World) (hE : Es w a n.list) (hln : n.list.length ≤ 9223372036854775807) (hhs : n.high.size ≤ 1000) (hks : ∀ i (h : i < n.list.length), n.list[i].key.size ≤ 1000) :
    Calls Try.prog 10 #[.agg (n.cells (.slice a n.list.length cap)).toArray] w fun x w' => x = .returned (.bool n.good) ∧ Below w.heap.size w w' := by
  obtain ⟨t, l, s, h, hi, r, es⟩ := n
  simp only at hE hln hhs hks
  have SM := Lib.hid hks
  clear hks
  have hX : Row (w.alloc (.cells #[.int .i64 t, .int .i64 l, .int .i64 s, .bool h, .string hi, .int .i64 r, .slice a es.length cap] 24)) w.heap.size 24 [.int .i64 t, .int .i64 l, .int .i64 s, .bool h, .string hi, .int .i64 r, .slice a es.length cap] := new_at rfl
  have hb : Below w.heap.size w (w.alloc (.cells #[.int .i64 t, .int .i64 l, .int .i64 s, .bool h, .string hi, .int .i64 r, .slice a es.length cap] 24)) := (Below.refl _ _).alloc (Nat.le_refl _) _
  have x0 := hX.cell (i := 0) rfl
  have x1 := hX.cell (i := 1) rfl
  have x2 := hX.cell (i := 2) rfl
  have x3 := hX.cell (i := 3) rfl
  have x4 := hX.cell (i := 4) rfl
  have x5 := hX.cell (i := 5) rfl
  have x6 := hX.cell (i := 6) rfl
  show Calls Try.prog 10 #[.agg #[.int .i64 t, .int .i64 l, .int .i64 s, .bool h, .string hi, .int .i64 r, .slice a es.length cap]] w _
  by_cases cta : t < 0
  · rw [show (Nd.good ⟨t, l, s, h, hi, r, es⟩) = false by simp [Nd.good, headGood, inb]; try omega]
    go_enter Try.func10, Try.ntmps10
    go_wp2_with fail
    go_ret
    exact ⟨rfl, hb⟩
  by_cases ctb : 255 < t
  · rw [show (Nd.good ⟨t, l, s, h, hi, r, es⟩) = false by simp [Nd.good, headGood, inb]; try omega]
    go_enter Try.func10, Try.ntmps10
    go_wp2_with fail
    go_ret
    exact ⟨rfl, hb⟩
  by_cases cla : l < 0
  · rw [show (Nd.good ⟨t, l, s, h, hi, r, es⟩) = false by simp [Nd.good, headGood, inb]; try omega]
    go_enter Try.func10, Try.ntmps10
    go_wp2_with fail
    go_ret
    exact ⟨rfl, hb⟩
  by_cases clb : 12 < l
  · rw [show (Nd.good ⟨t, l, s, h, hi, r, es⟩) = false by simp [Nd.good, headGood, inb]; try omega]
    go_enter Try.func10, Try.ntmps10
    go_wp2_with fail
    go_ret
    exact ⟨rfl, hb⟩
  by_cases csa : s < 0
  · rw [show (Nd.good ⟨t, l, s, h, hi, r, es⟩) = false by simp [Nd.good, headGood, inb]; try omega]
    go_enter Try.func10, Try.ntmps10
    go_wp2_with fail
    go_ret
    exact ⟨rfl, hb⟩
  by_cases csb : 2147483647 < s
  · rw [show (Nd.good ⟨t, l, s, h, hi, r, es⟩) = false by simp [Nd.good, headGood, inb]; try omega]
    go_enter Try.func10, Try.ntmps10
    go_wp2_with fail
    go_ret
    exact ⟨rfl, hb⟩
  by_cases cra : r < 0
  · rw [show (Nd.good ⟨t, l, s, h, hi, r, es⟩) = false by simp [Nd.good, headGood, inb]; try omega]
    go_enter Try.func10, Try.ntmps10
    go_wp2_with fail
    go_ret
    exact ⟨rfl, hb⟩
  by_cases crb : 255 < r
  · rw [show (Nd.good ⟨t, l, s, h, hi, r, es⟩) = false by simp [Nd.good, headGood, inb]; try omega]
    go_enter Try.func10, Try.ntmps10
    go_wp2_with fail
    go_ret
    exact ⟨rfl, hb⟩
  by_cases c5 : ¬ es.length ≤ 100
  · have c5' : (100 : Int) < (es.length : Int) := by omega
    rw [show (Nd.good ⟨t, l, s, h, hi, r, es⟩) = false by simp [Nd.good, headGood, inb]; try omega]
    go_enter Try.func10, Try.ntmps10
    go_wp2_with fail
    go_ret
    exact ⟨rfl, hb⟩
  rw [Decidable.not_not] at c5
  have c5' : ¬ (100 : Int) < (es.length : Int) := by omega
  have hh : headGood ⟨t, l, s, h, hi, r, es⟩ = true := by simp [headGood, inb]; omega
  have HH := Lib.hid hh
  clear hh
  obtain ⟨G, hG⟩ : ∃ G, Nd.good ⟨t, l, s, h, hi, r, es⟩ = G := ⟨_, rfl⟩
  have hgg := fun hg ha => (good_iff ⟨t, l, s, h, hi, r, es⟩).2 ⟨HH.out, hg, ha⟩
  have hgb := fun i hi' => good_bad (n := ⟨t, l, s, h, hi, r, es⟩) (i := i) hi'
  have hoks : ∀ i, entOk ⟨t, l, s, h, hi, r, es⟩ i = (entGood (es.getD i noE) l && ((decide (i = 0) || decide (cmpB (es.getD (i - 1) noE).key.data.toList (es.getD i noE).key.data.toList = -1)) && (!h || decide (cmpB (es.getD i noE).key.data.toList hi.data.toList = -1)))) := fun i => rfl
  cases h with
  | true =>
    by_cases ch : hi.size = 9
    rotate_left
    · have ch' : ((hi.size : Int) != 9) = true := by simp; omega
      rw [show (Nd.good ⟨t, l, s, true, hi, r, es⟩) = false by simp [Nd.good, highGood, ch]]
      go_enter Try.func10, Try.ntmps10
      go_wp2_with fail
      go_ret
      exact ⟨rfl, hb⟩
    have ch' : ((hi.size : Int) != 9) = false := by simp; omega
    have hg9 : highGood ⟨t, l, s, true, hi, r, es⟩ = true := by simp [highGood, ch]
    have hgg2 := hgg hg9
    obtain ⟨ok, hok⟩ : ∃ ok, entOk ⟨t, l, s, true, hi, r, es⟩ = ok := ⟨_, rfl⟩
    rw [hG] at hgb hgg2 ⊢
    rw [hok] at hgb hgg2 hoks
    have GG := Lib.hid hgg2
    have GB := Lib.hid hgb
    have OKS := Lib.hid hoks
    clear hgg hgg2 hgb hoks hG hok hg9 HH
    go_enter Try.func10, Try.ntmps10
    go_wp2_with fail
    clear x0 x1 x2 x3 x4 x5 x6 cta ctb cla clb csa csb cra crb c5'
    go_loopw [3] (fun i wr => ∃ k : Nat, k ≤ es.length ∧ i = .int .i64 k ∧ (∀ i, i < k → ok i = true) ∧ Row wr w.heap.size 24 [.int .i64 t, .int .i64 l, .int .i64 s, .bool true, .string hi, .int .i64 r, .slice a es.length cap] ∧ Below w.heap.size w wr) (fun i _ => es.length - (intOf i).toNat)
    case atStart => exact ⟨0, by omega, rfl, fun i hi9 => absurd hi9 (Nat.not_lt_zero i), hX, hb⟩
    case round =>
      clear hb hX
      obtain ⟨k, hk, rfl, hok9, hXr, hbw⟩ := hrel
      have xw6 := hXr.cell (i := 6) rfl
      by_cases hlt : k < es.length
      · obtain ⟨ad, rfl, hlb, hx⟩ := hE k hlt
        obtain ⟨z0, z1, z2⟩ := hx _ hbw
        have hlt' : (k : Int) < (es.length : Int) := by omega
        have hek : es.getD k noE = es[k] := by rw [List.getD_eq_getElem?_getD, List.getElem?_eq_getElem hlt]; rfl
        obtain ⟨e, he⟩ : ∃ e, es[k] = e := ⟨_, rfl⟩
        have s1 := SM.out k hlt
        rw [he] at z0 z1 z2 hek s1
        clear he hx
        obtain ⟨key, val, g⟩ := e
        simp only at z0 z1 z2 s1
        have hY : Row (wr.alloc (.cells #[.string key, .string val, .bool g] 44)) wr.heap.size 44 [.string key, .string val, .bool g] := new_at rfl
        have X := Lib.hid (hXr.alloc (.cells #[.string key, .string val, .bool g] 44))
        have HB := Lib.hid (hbw.alloc hbw.size (.cells #[.string key, .string val, .bool g] 44))
        have Y := Lib.hid hY
        have HEK := Lib.hid hek
        have OKB := Lib.hid hok9
        obtain ⟨eb, heb⟩ : ∃ eb, eb = wr.heap.size := ⟨_, rfl⟩
        have x1 := X.out.cell (i := 1) rfl
        have y0 := Y.out.cell (i := 0) rfl
        have y1 := Y.out.cell (i := 1) rfl
        have y2 := Y.out.cell (i := 2) rfl
        clear hXr hbw hY hek hok9
        by_cases k9 : key.size = 9
        rotate_left
        · have OKF : ok k = false := by rw [OKS.out k, HEK.out]; simp [entGood, k9]
          have d9 : ((key.size : Int) != 9) = true := by simp; omega
          go_wp2_with fail
          go_ret
          exact ⟨by rw [GB.out _ hlt OKF]; rfl, HB.out⟩
        have d9 : ((key.size : Int) != 9) = false := by simp; omega
        by_cases v100 : (100 : Int) < (val.size : Int)
        · have OKF : ok k = false := by rw [OKS.out k, HEK.out]; simp [entGood]; omega
          go_wp2_with fail
          go_ret
          exact ⟨by rw [GB.out _ hlt OKF]; rfl, HB.out⟩
        by_cases lv : 0 < l
        · by_cases v2 : val.size = 2
          · have d2 : ((val.size : Int) != 2) = false := by simp; omega
            cases g
            · have cg : entGood ⟨key, val, false⟩ l = true := by simp [entGood, k9, v2]
              go_wp2_with fail
              clear z0 z1 z2 xw6
              rw [← heb] at Y ⊢
              generalize wr.alloc (.cells #[.string key, .string val, .bool false] 44) = wz at *
              clear heb
              have T2 := Lib.hid (fun w => texts_calls key hi w (by omega) (by omega))
              rcases (by cases k with | zero => exact .inl rfl | succ j => exact .inr ⟨j, rfl⟩ : k = 0 ∨ ∃ j, k = j + 1) with rfl | ⟨j, rfl⟩
              · rcases cmpB_three key.data.toList hi.data.toList with c2 | c2 | c2
                · have OKT : ∀ i, i < 0 + 1 → ok i = true := fun i hi9 => by
                    rcases Nat.lt_or_ge i 0 with h' | h'
                    · exact OKB.out i h'
                    · obtain rfl : i = 0 := by omega
                      rw [OKS.out 0, HEK.out, cg]
                      simp [c2]
                  rw [c2] at T2
                  have OKH := Lib.hid OKT
                  clear c2 OKT
                  go_wp2_with fail
                  have hlx := X.out.lt
                  have hly := Y.out.lt
                  obtain ⟨Z, f, hfb, ⟨z0, hz0⟩, hcl⟩ := class_of Try.prog wz
                  haveI : Nonempty Z := ⟨z0⟩
                  have x0 := fun z => (X.out.below (hfb z) hlx).cell (i := 0) rfl
                  have x1 := fun z => (X.out.below (hfb z) hlx).cell (i := 1) rfl
                  have x2 := fun z => (X.out.below (hfb z) hlx).cell (i := 2) rfl
                  have x3 := fun z => (X.out.below (hfb z) hlx).cell (i := 3) rfl
                  have x4 := fun z => (X.out.below (hfb z) hlx).cell (i := 4) rfl
                  have x5 := fun z => (X.out.below (hfb z) hlx).cell (i := 5) rfl
                  have x6 := fun z => (X.out.below (hfb z) hlx).cell (i := 6) rfl
                  have y0 := fun z => (Y.out.below (hfb z) hly).cell (i := 0) rfl
                  have y1 := fun z => (Y.out.below (hfb z) hly).cell (i := 1) rfl
                  have y2 := fun z => (Y.out.below (hfb z) hly).cell (i := 2) rfl
                  have T2C := Lib.hid (hcl _ _ _ (fun w1 _ => T2.out w1))
                  have HFB := Lib.hid hfb
                  clear hfb hcl
                  refine Lex.region_class hz0 (by kernel_rfl) (by kernel_rfl) ?_
                  repeat (go_big_quiet_step (first | (go_at_call 23; (first | (with_reducible exact T2C.out _)))))
                  refine wpQuiet_nil ?_
                  rintro w' ⟨z, rfl⟩
                  have hbb := HFB.out z
                  clear HFB hz0 x0 x1 x2 x3 x4 x5 x6 y0 y1 y2
                  go_wp2_with fail
                  exact ⟨⟨0 + 1, by omega, by go_num, OKH.out, X.out.below hbb hlx, HB.out.trans (hbb.mono HB.out.size)⟩, by simp [intOf]; omega⟩
                · have OKF : ok 0 = false := by rw [OKS.out 0, HEK.out]; simp [c2]
                  rw [c2] at T2
                  clear c2
                  go_wp2_with fail
                  have hlx := X.out.lt
                  have hly := Y.out.lt
                  obtain ⟨Z, f, hfb, ⟨z0, hz0⟩, hcl⟩ := class_of Try.prog wz
                  haveI : Nonempty Z := ⟨z0⟩
                  have x0 := fun z => (X.out.below (hfb z) hlx).cell (i := 0) rfl
                  have x1 := fun z => (X.out.below (hfb z) hlx).cell (i := 1) rfl
                  have x2 := fun z => (X.out.below (hfb z) hlx).cell (i := 2) rfl
                  have x3 := fun z => (X.out.below (hfb z) hlx).cell (i := 3) rfl
                  have x4 := fun z => (X.out.below (hfb z) hlx).cell (i := 4) rfl
                  have x5 := fun z => (X.out.below (hfb z) hlx).cell (i := 5) rfl
                  have x6 := fun z => (X.out.below (hfb z) hlx).cell (i := 6) rfl
                  have y0 := fun z => (Y.out.below (hfb z) hly).cell (i := 0) rfl
                  have y1 := fun z => (Y.out.below (hfb z) hly).cell (i := 1) rfl
                  have y2 := fun z => (Y.out.below (hfb z) hly).cell (i := 2) rfl
                  have T2C := Lib.hid (hcl _ _ _ (fun w1 _ => T2.out w1))
                  have HFB := Lib.hid hfb
                  clear hfb hcl
                  refine Lex.region_class hz0 (by kernel_rfl) (by kernel_rfl) ?_
                  repeat (go_big_quiet_step (first | (go_at_call 23; (first | (with_reducible exact T2C.out _)))))
                  refine wpQuiet_nil ?_
                  rintro w' ⟨z, rfl⟩
                  have hbb := HFB.out z
                  clear HFB hz0 x0 x1 x2 x3 x4 x5 x6 y0 y1 y2
                  replace HB := Lib.hid (HB.out.trans (hbb.mono HB.out.size))
                  go_wp2_with fail
                  go_ret
                  exact ⟨by rw [GB.out _ hlt OKF]; rfl, HB.out⟩
                · have OKF : ok 0 = false := by rw [OKS.out 0, HEK.out]; simp [c2]
                  rw [c2] at T2
                  clear c2
                  go_wp2_with fail
                  have hlx := X.out.lt
                  have hly := Y.out.lt
                  obtain ⟨Z, f, hfb, ⟨z0, hz0⟩, hcl⟩ := class_of Try.prog wz
                  haveI : Nonempty Z := ⟨z0⟩
                  have x0 := fun z => (X.out.below (hfb z) hlx).cell (i := 0) rfl
                  have x1 := fun z => (X.out.below (hfb z) hlx).cell (i := 1) rfl
                  have x2 := fun z => (X.out.below (hfb z) hlx).cell (i := 2) rfl
                  have x3 := fun z => (X.out.below (hfb z) hlx).cell (i := 3) rfl
                  have x4 := fun z => (X.out.below (hfb z) hlx).cell (i := 4) rfl
                  have x5 := fun z => (X.out.below (hfb z) hlx).cell (i := 5) rfl
                  have x6 := fun z => (X.out.below (hfb z) hlx).cell (i := 6) rfl
                  have y0 := fun z => (Y.out.below (hfb z) hly).cell (i := 0) rfl
                  have y1 := fun z => (Y.out.below (hfb z) hly).cell (i := 1) rfl
                  have y2 := fun z => (Y.out.below (hfb z) hly).cell (i := 2) rfl
                  have T2C := Lib.hid (hcl _ _ _ (fun w1 _ => T2.out w1))
                  have HFB := Lib.hid hfb
                  clear hfb hcl
                  refine Lex.region_class hz0 (by kernel_rfl) (by kernel_rfl) ?_
                  repeat (go_big_quiet_step (first | (go_at_call 23; (first | (with_reducible exact T2C.out _)))))
                  refine wpQuiet_nil ?_
                  rintro w' ⟨z, rfl⟩
                  have hbb := HFB.out z
                  clear HFB hz0 x0 x1 x2 x3 x4 x5 x6 y0 y1 y2
                  replace HB := Lib.hid (HB.out.trans (hbb.mono HB.out.size))
                  go_wp2_with fail
                  go_ret
                  exact ⟨by rw [GB.out _ hlt OKF]; rfl, HB.out⟩
              · obtain ⟨ad', hadj, _, hp⟩ := hE j (by omega)
                cases hadj
                have hej : es.getD j noE = es[j]'(by omega) := by rw [List.getD_eq_getElem?_getD, List.getElem?_eq_getElem (by omega)]; rfl
                have s3 := SM.out j (by omega)
                obtain ⟨⟨pk, pv, pg⟩, he⟩ : ∃ e, es[j]'(by omega) = e := ⟨_, rfl⟩
                have hp0 : ∀ w', Below w.heap.size w w' → w'.cell? (ad.add (j * 3)) = some (.string pk) := fun w' hw' => by
                  have := (hp w' hw').1
                  rw [he] at this
                  exact this
                rw [he] at hej s3
                simp only at s3
                have T1 := Lib.hid (fun w => texts_calls pk key w (by omega) (by omega))
                have PV := Lib.hid hp0
                have HEJ := Lib.hid hej
                have hj0 : (0 : Int) < ((j : Int) + 1) := by omega
                have hj1 : (j : Int) < (es.length : Int) := by omega
                clear hp hp0 he hej
                rcases cmpB_three pk.data.toList key.data.toList with c1 | c1 | c1
                · rw [c1] at T1
                  rcases cmpB_three key.data.toList hi.data.toList with c2 | c2 | c2
                  · have OKT : ∀ i, i < (j + 1) + 1 → ok i = true := fun i hi9 => by
                      rcases Nat.lt_or_ge i (j + 1) with h' | h'
                      · exact OKB.out i h'
                      · obtain rfl : i = (j + 1) := by omega
                        rw [OKS.out (j + 1), HEK.out, cg]
                        rw [Nat.add_sub_cancel, HEJ.out]
                        simp [c1, c2]
                    rw [c2] at T2
                    have OKH := Lib.hid OKT
                    clear c2 OKT c1
                    go_wp2_with fail
                    have hlx := X.out.lt
                    have hly := Y.out.lt
                    obtain ⟨Z, f, hfb, ⟨z0, hz0⟩, hcl⟩ := class_of Try.prog wz
                    haveI : Nonempty Z := ⟨z0⟩
                    have x0 := fun z => (X.out.below (hfb z) hlx).cell (i := 0) rfl
                    have x1 := fun z => (X.out.below (hfb z) hlx).cell (i := 1) rfl
                    have x2 := fun z => (X.out.below (hfb z) hlx).cell (i := 2) rfl
                    have x3 := fun z => (X.out.below (hfb z) hlx).cell (i := 3) rfl
                    have x4 := fun z => (X.out.below (hfb z) hlx).cell (i := 4) rfl
                    have x5 := fun z => (X.out.below (hfb z) hlx).cell (i := 5) rfl
                    have x6 := fun z => (X.out.below (hfb z) hlx).cell (i := 6) rfl
                    have y0 := fun z => (Y.out.below (hfb z) hly).cell (i := 0) rfl
                    have y1 := fun z => (Y.out.below (hfb z) hly).cell (i := 1) rfl
                    have y2 := fun z => (Y.out.below (hfb z) hly).cell (i := 2) rfl
                    have p0 := fun z => PV.out (f z) (HB.out.trans ((hfb z).mono HB.out.size))
                    have T1C := Lib.hid (hcl _ _ _ (fun w1 _ => T1.out w1))
                    have T2C := Lib.hid (hcl _ _ _ (fun w1 _ => T2.out w1))
                    have HFB := Lib.hid hfb
                    clear hfb hcl
                    refine Lex.region_class hz0 (by kernel_rfl) (by kernel_rfl) ?_
                    repeat (go_big_quiet_step (first | (go_at_call 23; (first | (with_reducible exact T1C.out _) | (with_reducible exact T2C.out _)))))
                    refine wpQuiet_nil ?_
                    rintro w' ⟨z, rfl⟩
                    have hbb := HFB.out z
                    clear HFB hz0 x0 x1 x2 x3 x4 x5 x6 y0 y1 y2 p0
                    go_wp2_with fail
                    exact ⟨⟨(j + 1) + 1, by omega, by go_num, OKH.out, X.out.below hbb hlx, HB.out.trans (hbb.mono HB.out.size)⟩, by simp [intOf]; omega⟩
                  · have OKF : ok (j + 1) = false := by rw [OKS.out (j + 1), HEK.out]; simp [c2]
                    rw [c2] at T2
                    clear c2
                    go_wp2_with fail
                    have hlx := X.out.lt
                    have hly := Y.out.lt
                    obtain ⟨Z, f, hfb, ⟨z0, hz0⟩, hcl⟩ := class_of Try.prog wz
                    haveI : Nonempty Z := ⟨z0⟩
                    have x0 := fun z => (X.out.below (hfb z) hlx).cell (i := 0) rfl
                    have x1 := fun z => (X.out.below (hfb z) hlx).cell (i := 1) rfl
                    have x2 := fun z => (X.out.below (hfb z) hlx).cell (i := 2) rfl
                    have x3 := fun z => (X.out.below (hfb z) hlx).cell (i := 3) rfl
                    have x4 := fun z => (X.out.below (hfb z) hlx).cell (i := 4) rfl
                    have x5 := fun z => (X.out.below (hfb z) hlx).cell (i := 5) rfl
                    have x6 := fun z => (X.out.below (hfb z) hlx).cell (i := 6) rfl
                    have y0 := fun z => (Y.out.below (hfb z) hly).cell (i := 0) rfl
                    have y1 := fun z => (Y.out.below (hfb z) hly).cell (i := 1) rfl
                    have y2 := fun z => (Y.out.below (hfb z) hly).cell (i := 2) rfl
                    have p0 := fun z => PV.out (f z) (HB.out.trans ((hfb z).mono HB.out.size))
                    have T1C := Lib.hid (hcl _ _ _ (fun w1 _ => T1.out w1))
                    have T2C := Lib.hid (hcl _ _ _ (fun w1 _ => T2.out w1))
                    have HFB := Lib.hid hfb
                    clear hfb hcl
                    refine Lex.region_class hz0 (by kernel_rfl) (by kernel_rfl) ?_
                    repeat (go_big_quiet_step (first | (go_at_call 23; (first | (with_reducible exact T1C.out _) | (with_reducible exact T2C.out _)))))
                    refine wpQuiet_nil ?_
                    rintro w' ⟨z, rfl⟩
                    have hbb := HFB.out z
                    clear HFB hz0 x0 x1 x2 x3 x4 x5 x6 y0 y1 y2 p0
                    replace HB := Lib.hid (HB.out.trans (hbb.mono HB.out.size))
                    go_wp2_with fail
                    go_ret
                    exact ⟨by rw [GB.out _ hlt OKF]; rfl, HB.out⟩
                  · have OKF : ok (j + 1) = false := by rw [OKS.out (j + 1), HEK.out]; simp [c2]
                    rw [c2] at T2
                    clear c2
                    go_wp2_with fail
                    have hlx := X.out.lt
                    have hly := Y.out.lt
                    obtain ⟨Z, f, hfb, ⟨z0, hz0⟩, hcl⟩ := class_of Try.prog wz
                    haveI : Nonempty Z := ⟨z0⟩
                    have x0 := fun z => (X.out.below (hfb z) hlx).cell (i := 0) rfl
                    have x1 := fun z => (X.out.below (hfb z) hlx).cell (i := 1) rfl
                    have x2 := fun z => (X.out.below (hfb z) hlx).cell (i := 2) rfl
                    have x3 := fun z => (X.out.below (hfb z) hlx).cell (i := 3) rfl
                    have x4 := fun z => (X.out.below (hfb z) hlx).cell (i := 4) rfl
                    have x5 := fun z => (X.out.below (hfb z) hlx).cell (i := 5) rfl
                    have x6 := fun z => (X.out.below (hfb z) hlx).cell (i := 6) rfl
                    have y0 := fun z => (Y.out.below (hfb z) hly).cell (i := 0) rfl
                    have y1 := fun z => (Y.out.below (hfb z) hly).cell (i := 1) rfl
                    have y2 := fun z => (Y.out.below (hfb z) hly).cell (i := 2) rfl
                    have p0 := fun z => PV.out (f z) (HB.out.trans ((hfb z).mono HB.out.size))
                    have T1C := Lib.hid (hcl _ _ _ (fun w1 _ => T1.out w1))
                    have T2C := Lib.hid (hcl _ _ _ (fun w1 _ => T2.out w1))
                    have HFB := Lib.hid hfb
                    clear hfb hcl
                    refine Lex.region_class hz0 (by kernel_rfl) (by kernel_rfl) ?_
                    repeat (go_big_quiet_step (first | (go_at_call 23; (first | (with_reducible exact T1C.out _) | (with_reducible exact T2C.out _)))))
                    refine wpQuiet_nil ?_
                    rintro w' ⟨z, rfl⟩
                    have hbb := HFB.out z
                    clear HFB hz0 x0 x1 x2 x3 x4 x5 x6 y0 y1 y2 p0
                    replace HB := Lib.hid (HB.out.trans (hbb.mono HB.out.size))
                    go_wp2_with fail
                    go_ret
                    exact ⟨by rw [GB.out _ hlt OKF]; rfl, HB.out⟩
                · have OKF : ok (j + 1) = false := by rw [OKS.out (j + 1), HEK.out, Nat.add_sub_cancel, HEJ.out]; simp [c1]
                  rw [c1] at T1
                  clear c1
                  go_wp2_with fail
                  have hlx := X.out.lt
                  have hly := Y.out.lt
                  obtain ⟨Z, f, hfb, ⟨z0, hz0⟩, hcl⟩ := class_of Try.prog wz
                  haveI : Nonempty Z := ⟨z0⟩
                  have x0 := fun z => (X.out.below (hfb z) hlx).cell (i := 0) rfl
                  have x1 := fun z => (X.out.below (hfb z) hlx).cell (i := 1) rfl
                  have x2 := fun z => (X.out.below (hfb z) hlx).cell (i := 2) rfl
                  have x3 := fun z => (X.out.below (hfb z) hlx).cell (i := 3) rfl
                  have x4 := fun z => (X.out.below (hfb z) hlx).cell (i := 4) rfl
                  have x5 := fun z => (X.out.below (hfb z) hlx).cell (i := 5) rfl
                  have x6 := fun z => (X.out.below (hfb z) hlx).cell (i := 6) rfl
                  have y0 := fun z => (Y.out.below (hfb z) hly).cell (i := 0) rfl
                  have y1 := fun z => (Y.out.below (hfb z) hly).cell (i := 1) rfl
                  have y2 := fun z => (Y.out.below (hfb z) hly).cell (i := 2) rfl
                  have p0 := fun z => PV.out (f z) (HB.out.trans ((hfb z).mono HB.out.size))
                  have T1C := Lib.hid (hcl _ _ _ (fun w1 _ => T1.out w1))
                  have T2C := Lib.hid (hcl _ _ _ (fun w1 _ => T2.out w1))
                  have HFB := Lib.hid hfb
                  clear hfb hcl
                  refine Lex.region_class hz0 (by kernel_rfl) (by kernel_rfl) ?_
                  repeat (go_big_quiet_step (first | (go_at_call 23; (first | (with_reducible exact T1C.out _) | (with_reducible exact T2C.out _)))))
                  refine wpQuiet_nil ?_
                  rintro w' ⟨z, rfl⟩
                  have hbb := HFB.out z
                  clear HFB hz0 x0 x1 x2 x3 x4 x5 x6 y0 y1 y2 p0
                  replace HB := Lib.hid (HB.out.trans (hbb.mono HB.out.size))
                  go_wp2_with fail
                  go_ret
                  exact ⟨by rw [GB.out _ hlt OKF]; rfl, HB.out⟩
                · have OKF : ok (j + 1) = false := by rw [OKS.out (j + 1), HEK.out, Nat.add_sub_cancel, HEJ.out]; simp [c1]
                  rw [c1] at T1
                  clear c1
                  go_wp2_with fail
                  have hlx := X.out.lt
                  have hly := Y.out.lt
                  obtain ⟨Z, f, hfb, ⟨z0, hz0⟩, hcl⟩ := class_of Try.prog wz
                  haveI : Nonempty Z := ⟨z0⟩
                  have x0 := fun z => (X.out.below (hfb z) hlx).cell (i := 0) rfl
                  have x1 := fun z => (X.out.below (hfb z) hlx).cell (i := 1) rfl
                  have x2 := fun z => (X.out.below (hfb z) hlx).cell (i := 2) rfl
                  have x3 := fun z => (X.out.below (hfb z) hlx).cell (i := 3) rfl
                  have x4 := fun z => (X.out.below (hfb z) hlx).cell (i := 4) rfl
                  have x5 := fun z => (X.out.below (hfb z) hlx).cell (i := 5) rfl
                  have x6 := fun z => (X.out.below (hfb z) hlx).cell (i := 6) rfl
                  have y0 := fun z => (Y.out.below (hfb z) hly).cell (i := 0) rfl
                  have y1 := fun z => (Y.out.below (hfb z) hly).cell (i := 1) rfl
                  have y2 := fun z => (Y.out.below (hfb z) hly).cell (i := 2) rfl
                  have p0 := fun z => PV.out (f z) (HB.out.trans ((hfb z).mono HB.out.size))
                  have T1C := Lib.hid (hcl _ _ _ (fun w1 _ => T1.out w1))
                  have T2C := Lib.hid (hcl _ _ _ (fun w1 _ => T2.out w1))
                  have HFB := Lib.hid hfb
                  clear hfb hcl
                  refine Lex.region_class hz0 (by kernel_rfl) (by kernel_rfl) ?_
                  repeat (go_big_quiet_step (first | (go_at_call 23; (first | (with_reducible exact T1C.out _) | (with_reducible exact T2C.out _)))))
                  refine wpQuiet_nil ?_
                  rintro w' ⟨z, rfl⟩
                  have hbb := HFB.out z
                  clear HFB hz0 x0 x1 x2 x3 x4 x5 x6 y0 y1 y2 p0
                  replace HB := Lib.hid (HB.out.trans (hbb.mono HB.out.size))
                  go_wp2_with fail
                  go_ret
                  exact ⟨by rw [GB.out _ hlt OKF]; rfl, HB.out⟩
            · have OKF : ok k = false := by rw [OKS.out k, HEK.out]; simp [entGood, lv]
              go_wp2_with fail
              go_ret
              exact ⟨by rw [GB.out _ hlt OKF]; rfl, HB.out⟩
          · have d2 : ((val.size : Int) != 2) = true := by simp; omega
            have OKF : ok k = false := by rw [OKS.out k, HEK.out]; simp [entGood, lv, v2]
            go_wp2_with fail
            go_ret
            exact ⟨by rw [GB.out _ hlt OKF]; rfl, HB.out⟩
        · have dl : decide (0 < l) = false := by simpa using lv
          have cg : entGood ⟨key, val, g⟩ l = true := by simp [entGood, k9, lv]; omega
          go_wp2_with fail
          clear z0 z1 z2 xw6
          rw [← heb] at Y ⊢
          generalize wr.alloc (.cells #[.string key, .string val, .bool g] 44) = wz at *
          clear heb
          have T2 := Lib.hid (fun w => texts_calls key hi w (by omega) (by omega))
          rcases (by cases k with | zero => exact .inl rfl | succ j => exact .inr ⟨j, rfl⟩ : k = 0 ∨ ∃ j, k = j + 1) with rfl | ⟨j, rfl⟩
          · rcases cmpB_three key.data.toList hi.data.toList with c2 | c2 | c2
            · have OKT : ∀ i, i < 0 + 1 → ok i = true := fun i hi9 => by
                rcases Nat.lt_or_ge i 0 with h' | h'
                · exact OKB.out i h'
                · obtain rfl : i = 0 := by omega
                  rw [OKS.out 0, HEK.out, cg]
                  simp [c2]
              rw [c2] at T2
              have OKH := Lib.hid OKT
              clear c2 OKT
              go_wp2_with fail
              have hlx := X.out.lt
              have hly := Y.out.lt
              obtain ⟨Z, f, hfb, ⟨z0, hz0⟩, hcl⟩ := class_of Try.prog wz
              haveI : Nonempty Z := ⟨z0⟩
              have x0 := fun z => (X.out.below (hfb z) hlx).cell (i := 0) rfl
              have x1 := fun z => (X.out.below (hfb z) hlx).cell (i := 1) rfl
              have x2 := fun z => (X.out.below (hfb z) hlx).cell (i := 2) rfl
              have x3 := fun z => (X.out.below (hfb z) hlx).cell (i := 3) rfl
              have x4 := fun z => (X.out.below (hfb z) hlx).cell (i := 4) rfl
              have x5 := fun z => (X.out.below (hfb z) hlx).cell (i := 5) rfl
              have x6 := fun z => (X.out.below (hfb z) hlx).cell (i := 6) rfl
              have y0 := fun z => (Y.out.below (hfb z) hly).cell (i := 0) rfl
              have y1 := fun z => (Y.out.below (hfb z) hly).cell (i := 1) rfl
              have y2 := fun z => (Y.out.below (hfb z) hly).cell (i := 2) rfl
              have T2C := Lib.hid (hcl _ _ _ (fun w1 _ => T2.out w1))
              have HFB := Lib.hid hfb
              clear hfb hcl
              refine Lex.region_class hz0 (by kernel_rfl) (by kernel_rfl) ?_
              repeat (go_big_quiet_step (first | (go_at_call 23; (first | (with_reducible exact T2C.out _)))))
              refine wpQuiet_nil ?_
              rintro w' ⟨z, rfl⟩
              have hbb := HFB.out z
              clear HFB hz0 x0 x1 x2 x3 x4 x5 x6 y0 y1 y2
              go_wp2_with fail
              exact ⟨⟨0 + 1, by omega, by go_num, OKH.out, X.out.below hbb hlx, HB.out.trans (hbb.mono HB.out.size)⟩, by simp [intOf]; omega⟩
            · have OKF : ok 0 = false := by rw [OKS.out 0, HEK.out]; simp [c2]
              rw [c2] at T2
              clear c2
              go_wp2_with fail
              have hlx := X.out.lt
              have hly := Y.out.lt
              obtain ⟨Z, f, hfb, ⟨z0, hz0⟩, hcl⟩ := class_of Try.prog wz
              haveI : Nonempty Z := ⟨z0⟩
              have x0 := fun z => (X.out.below (hfb z) hlx).cell (i := 0) rfl
              have x1 := fun z => (X.out.below (hfb z) hlx).cell (i := 1) rfl
              have x2 := fun z => (X.out.below (hfb z) hlx).cell (i := 2) rfl
              have x3 := fun z => (X.out.below (hfb z) hlx).cell (i := 3) rfl
              have x4 := fun z => (X.out.below (hfb z) hlx).cell (i := 4) rfl
              have x5 := fun z => (X.out.below (hfb z) hlx).cell (i := 5) rfl
              have x6 := fun z => (X.out.below (hfb z) hlx).cell (i := 6) rfl
              have y0 := fun z => (Y.out.below (hfb z) hly).cell (i := 0) rfl
              have y1 := fun z => (Y.out.below (hfb z) hly).cell (i := 1) rfl
              have y2 := fun z => (Y.out.below (hfb z) hly).cell (i := 2) rfl
              have T2C := Lib.hid (hcl _ _ _ (fun w1 _ => T2.out w1))
              have HFB := Lib.hid hfb
              clear hfb hcl
              refine Lex.region_class hz0 (by kernel_rfl) (by kernel_rfl) ?_
              repeat (go_big_quiet_step (first | (go_at_call 23; (first | (with_reducible exact T2C.out _)))))
              refine wpQuiet_nil ?_
              rintro w' ⟨z, rfl⟩
              have hbb := HFB.out z
              clear HFB hz0 x0 x1 x2 x3 x4 x5 x6 y0 y1 y2
              replace HB := Lib.hid (HB.out.trans (hbb.mono HB.out.size))
              go_wp2_with fail
              go_ret
              exact ⟨by rw [GB.out _ hlt OKF]; rfl, HB.out⟩
            · have OKF : ok 0 = false := by rw [OKS.out 0, HEK.out]; simp [c2]
              rw [c2] at T2
              clear c2
              go_wp2_with fail
              have hlx := X.out.lt
              have hly := Y.out.lt
              obtain ⟨Z, f, hfb, ⟨z0, hz0⟩, hcl⟩ := class_of Try.prog wz
              haveI : Nonempty Z := ⟨z0⟩
              have x0 := fun z => (X.out.below (hfb z) hlx).cell (i := 0) rfl
              have x1 := fun z => (X.out.below (hfb z) hlx).cell (i := 1) rfl
              have x2 := fun z => (X.out.below (hfb z) hlx).cell (i := 2) rfl
              have x3 := fun z => (X.out.below (hfb z) hlx).cell (i := 3) rfl
              have x4 := fun z => (X.out.below (hfb z) hlx).cell (i := 4) rfl
              have x5 := fun z => (X.out.below (hfb z) hlx).cell (i := 5) rfl
              have x6 := fun z => (X.out.below (hfb z) hlx).cell (i := 6) rfl
              have y0 := fun z => (Y.out.below (hfb z) hly).cell (i := 0) rfl
              have y1 := fun z => (Y.out.below (hfb z) hly).cell (i := 1) rfl
              have y2 := fun z => (Y.out.below (hfb z) hly).cell (i := 2) rfl
              have T2C := Lib.hid (hcl _ _ _ (fun w1 _ => T2.out w1))
              have HFB := Lib.hid hfb
              clear hfb hcl
              refine Lex.region_class hz0 (by kernel_rfl) (by kernel_rfl) ?_
              repeat (go_big_quiet_step (first | (go_at_call 23; (first | (with_reducible exact T2C.out _)))))
              refine wpQuiet_nil ?_
              rintro w' ⟨z, rfl⟩
              have hbb := HFB.out z
              clear HFB hz0 x0 x1 x2 x3 x4 x5 x6 y0 y1 y2
              replace HB := Lib.hid (HB.out.trans (hbb.mono HB.out.size))
              go_wp2_with fail
              go_ret
              exact ⟨by rw [GB.out _ hlt OKF]; rfl, HB.out⟩
          · obtain ⟨ad', hadj, _, hp⟩ := hE j (by omega)
            cases hadj
            have hej : es.getD j noE = es[j]'(by omega) := by rw [List.getD_eq_getElem?_getD, List.getElem?_eq_getElem (by omega)]; rfl
            have s3 := SM.out j (by omega)
            obtain ⟨⟨pk, pv, pg⟩, he⟩ : ∃ e, es[j]'(by omega) = e := ⟨_, rfl⟩
            have hp0 : ∀ w', Below w.heap.size w w' → w'.cell? (ad.add (j * 3)) = some (.string pk) := fun w' hw' => by
              have := (hp w' hw').1
              rw [he] at this
              exact this
            rw [he] at hej s3
            simp only at s3
            have T1 := Lib.hid (fun w => texts_calls pk key w (by omega) (by omega))
            have PV := Lib.hid hp0
            have HEJ := Lib.hid hej
            have hj0 : (0 : Int) < ((j : Int) + 1) := by omega
            have hj1 : (j : Int) < (es.length : Int) := by omega
            clear hp hp0 he hej
            rcases cmpB_three pk.data.toList key.data.toList with c1 | c1 | c1
            · rw [c1] at T1
              rcases cmpB_three key.data.toList hi.data.toList with c2 | c2 | c2
              · have OKT : ∀ i, i < (j + 1) + 1 → ok i = true := fun i hi9 => by
                  rcases Nat.lt_or_ge i (j + 1) with h' | h'
                  · exact OKB.out i h'
                  · obtain rfl : i = (j + 1) := by omega
                    rw [OKS.out (j + 1), HEK.out, cg]
                    rw [Nat.add_sub_cancel, HEJ.out]
                    simp [c1, c2]
                rw [c2] at T2
                have OKH := Lib.hid OKT
                clear c2 OKT c1
                go_wp2_with fail
                have hlx := X.out.lt
                have hly := Y.out.lt
                obtain ⟨Z, f, hfb, ⟨z0, hz0⟩, hcl⟩ := class_of Try.prog wz
                haveI : Nonempty Z := ⟨z0⟩
                have x0 := fun z => (X.out.below (hfb z) hlx).cell (i := 0) rfl
                have x1 := fun z => (X.out.below (hfb z) hlx).cell (i := 1) rfl
                have x2 := fun z => (X.out.below (hfb z) hlx).cell (i := 2) rfl
                have x3 := fun z => (X.out.below (hfb z) hlx).cell (i := 3) rfl
                have x4 := fun z => (X.out.below (hfb z) hlx).cell (i := 4) rfl
                have x5 := fun z => (X.out.below (hfb z) hlx).cell (i := 5) rfl
                have x6 := fun z => (X.out.below (hfb z) hlx).cell (i := 6) rfl
                have y0 := fun z => (Y.out.below (hfb z) hly).cell (i := 0) rfl
                have y1 := fun z => (Y.out.below (hfb z) hly).cell (i := 1) rfl
                have y2 := fun z => (Y.out.below (hfb z) hly).cell (i := 2) rfl
                have p0 := fun z => PV.out (f z) (HB.out.trans ((hfb z).mono HB.out.size))
                have T1C := Lib.hid (hcl _ _ _ (fun w1 _ => T1.out w1))
                have T2C := Lib.hid (hcl _ _ _ (fun w1 _ => T2.out w1))
                have HFB := Lib.hid hfb
                clear hfb hcl
                refine Lex.region_class hz0 (by kernel_rfl) (by kernel_rfl) ?_
                repeat (go_big_quiet_step (first | (go_at_call 23; (first | (with_reducible exact T1C.out _) | (with_reducible exact T2C.out _)))))
                refine wpQuiet_nil ?_
                rintro w' ⟨z, rfl⟩
                have hbb := HFB.out z
                clear HFB hz0 x0 x1 x2 x3 x4 x5 x6 y0 y1 y2 p0
                go_wp2_with fail
                exact ⟨⟨(j + 1) + 1, by omega, by go_num, OKH.out, X.out.below hbb hlx, HB.out.trans (hbb.mono HB.out.size)⟩, by simp [intOf]; omega⟩
              · have OKF : ok (j + 1) = false := by rw [OKS.out (j + 1), HEK.out]; simp [c2]
                rw [c2] at T2
                clear c2
                go_wp2_with fail
                have hlx := X.out.lt
                have hly := Y.out.lt
                obtain ⟨Z, f, hfb, ⟨z0, hz0⟩, hcl⟩ := class_of Try.prog wz
                haveI : Nonempty Z := ⟨z0⟩
                have x0 := fun z => (X.out.below (hfb z) hlx).cell (i := 0) rfl
                have x1 := fun z => (X.out.below (hfb z) hlx).cell (i := 1) rfl
                have x2 := fun z => (X.out.below (hfb z) hlx).cell (i := 2) rfl
                have x3 := fun z => (X.out.below (hfb z) hlx).cell (i := 3) rfl
                have x4 := fun z => (X.out.below (hfb z) hlx).cell (i := 4) rfl
                have x5 := fun z => (X.out.below (hfb z) hlx).cell (i := 5) rfl
                have x6 := fun z => (X.out.below (hfb z) hlx).cell (i := 6) rfl
                have y0 := fun z => (Y.out.below (hfb z) hly).cell (i := 0) rfl
                have y1 := fun z => (Y.out.below (hfb z) hly).cell (i := 1) rfl
                have y2 := fun z => (Y.out.below (hfb z) hly).cell (i := 2) rfl
                have p0 := fun z => PV.out (f z) (HB.out.trans ((hfb z).mono HB.out.size))
                have T1C := Lib.hid (hcl _ _ _ (fun w1 _ => T1.out w1))
                have T2C := Lib.hid (hcl _ _ _ (fun w1 _ => T2.out w1))
                have HFB := Lib.hid hfb
                clear hfb hcl
                refine Lex.region_class hz0 (by kernel_rfl) (by kernel_rfl) ?_
                repeat (go_big_quiet_step (first | (go_at_call 23; (first | (with_reducible exact T1C.out _) | (with_reducible exact T2C.out _)))))
                refine wpQuiet_nil ?_
                rintro w' ⟨z, rfl⟩
                have hbb := HFB.out z
                clear HFB hz0 x0 x1 x2 x3 x4 x5 x6 y0 y1 y2 p0
                replace HB := Lib.hid (HB.out.trans (hbb.mono HB.out.size))
                go_wp2_with fail
                go_ret
                exact ⟨by rw [GB.out _ hlt OKF]; rfl, HB.out⟩
              · have OKF : ok (j + 1) = false := by rw [OKS.out (j + 1), HEK.out]; simp [c2]
                rw [c2] at T2
                clear c2
                go_wp2_with fail
                have hlx := X.out.lt
                have hly := Y.out.lt
                obtain ⟨Z, f, hfb, ⟨z0, hz0⟩, hcl⟩ := class_of Try.prog wz
                haveI : Nonempty Z := ⟨z0⟩
                have x0 := fun z => (X.out.below (hfb z) hlx).cell (i := 0) rfl
                have x1 := fun z => (X.out.below (hfb z) hlx).cell (i := 1) rfl
                have x2 := fun z => (X.out.below (hfb z) hlx).cell (i := 2) rfl
                have x3 := fun z => (X.out.below (hfb z) hlx).cell (i := 3) rfl
                have x4 := fun z => (X.out.below (hfb z) hlx).cell (i := 4) rfl
                have x5 := fun z => (X.out.below (hfb z) hlx).cell (i := 5) rfl
                have x6 := fun z => (X.out.below (hfb z) hlx).cell (i := 6) rfl
                have y0 := fun z => (Y.out.below (hfb z) hly).cell (i := 0) rfl
                have y1 := fun z => (Y.out.below (hfb z) hly).cell (i := 1) rfl
                have y2 := fun z => (Y.out.below (hfb z) hly).cell (i := 2) rfl
                have p0 := fun z => PV.out (f z) (HB.out.trans ((hfb z).mono HB.out.size))
                have T1C := Lib.hid (hcl _ _ _ (fun w1 _ => T1.out w1))
                have T2C := Lib.hid (hcl _ _ _ (fun w1 _ => T2.out w1))
                have HFB := Lib.hid hfb
                clear hfb hcl
                refine Lex.region_class hz0 (by kernel_rfl) (by kernel_rfl) ?_
                repeat (go_big_quiet_step (first | (go_at_call 23; (first | (with_reducible exact T1C.out _) | (with_reducible exact T2C.out _)))))
                refine wpQuiet_nil ?_
                rintro w' ⟨z, rfl⟩
                have hbb := HFB.out z
                clear HFB hz0 x0 x1 x2 x3 x4 x5 x6 y0 y1 y2 p0
                replace HB := Lib.hid (HB.out.trans (hbb.mono HB.out.size))
                go_wp2_with fail
                go_ret
                exact ⟨by rw [GB.out _ hlt OKF]; rfl, HB.out⟩
            · have OKF : ok (j + 1) = false := by rw [OKS.out (j + 1), HEK.out, Nat.add_sub_cancel, HEJ.out]; simp [c1]
              rw [c1] at T1
              clear c1
              go_wp2_with fail
              have hlx := X.out.lt
              have hly := Y.out.lt
              obtain ⟨Z, f, hfb, ⟨z0, hz0⟩, hcl⟩ := class_of Try.prog wz
              haveI : Nonempty Z := ⟨z0⟩
              have x0 := fun z => (X.out.below (hfb z) hlx).cell (i := 0) rfl
              have x1 := fun z => (X.out.below (hfb z) hlx).cell (i := 1) rfl
              have x2 := fun z => (X.out.below (hfb z) hlx).cell (i := 2) rfl
              have x3 := fun z => (X.out.below (hfb z) hlx).cell (i := 3) rfl
              have x4 := fun z => (X.out.below (hfb z) hlx).cell (i := 4) rfl
              have x5 := fun z => (X.out.below (hfb z) hlx).cell (i := 5) rfl
              have x6 := fun z => (X.out.below (hfb z) hlx).cell (i := 6) rfl
              have y0 := fun z => (Y.out.below (hfb z) hly).cell (i := 0) rfl
              have y1 := fun z => (Y.out.below (hfb z) hly).cell (i := 1) rfl
              have y2 := fun z => (Y.out.below (hfb z) hly).cell (i := 2) rfl
              have p0 := fun z => PV.out (f z) (HB.out.trans ((hfb z).mono HB.out.size))
              have T1C := Lib.hid (hcl _ _ _ (fun w1 _ => T1.out w1))
              have T2C := Lib.hid (hcl _ _ _ (fun w1 _ => T2.out w1))
              have HFB := Lib.hid hfb
              clear hfb hcl
              refine Lex.region_class hz0 (by kernel_rfl) (by kernel_rfl) ?_
              repeat (go_big_quiet_step (first | (go_at_call 23; (first | (with_reducible exact T1C.out _) | (with_reducible exact T2C.out _)))))
              refine wpQuiet_nil ?_
              rintro w' ⟨z, rfl⟩
              have hbb := HFB.out z
              clear HFB hz0 x0 x1 x2 x3 x4 x5 x6 y0 y1 y2 p0
              replace HB := Lib.hid (HB.out.trans (hbb.mono HB.out.size))
              go_wp2_with fail
              go_ret
              exact ⟨by rw [GB.out _ hlt OKF]; rfl, HB.out⟩
            · have OKF : ok (j + 1) = false := by rw [OKS.out (j + 1), HEK.out, Nat.add_sub_cancel, HEJ.out]; simp [c1]
              rw [c1] at T1
              clear c1
              go_wp2_with fail
              have hlx := X.out.lt
              have hly := Y.out.lt
              obtain ⟨Z, f, hfb, ⟨z0, hz0⟩, hcl⟩ := class_of Try.prog wz
              haveI : Nonempty Z := ⟨z0⟩
              have x0 := fun z => (X.out.below (hfb z) hlx).cell (i := 0) rfl
              have x1 := fun z => (X.out.below (hfb z) hlx).cell (i := 1) rfl
              have x2 := fun z => (X.out.below (hfb z) hlx).cell (i := 2) rfl
              have x3 := fun z => (X.out.below (hfb z) hlx).cell (i := 3) rfl
              have x4 := fun z => (X.out.below (hfb z) hlx).cell (i := 4) rfl
              have x5 := fun z => (X.out.below (hfb z) hlx).cell (i := 5) rfl
              have x6 := fun z => (X.out.below (hfb z) hlx).cell (i := 6) rfl
              have y0 := fun z => (Y.out.below (hfb z) hly).cell (i := 0) rfl
              have y1 := fun z => (Y.out.below (hfb z) hly).cell (i := 1) rfl
              have y2 := fun z => (Y.out.below (hfb z) hly).cell (i := 2) rfl
              have p0 := fun z => PV.out (f z) (HB.out.trans ((hfb z).mono HB.out.size))
              have T1C := Lib.hid (hcl _ _ _ (fun w1 _ => T1.out w1))
              have T2C := Lib.hid (hcl _ _ _ (fun w1 _ => T2.out w1))
              have HFB := Lib.hid hfb
              clear hfb hcl
              refine Lex.region_class hz0 (by kernel_rfl) (by kernel_rfl) ?_
              repeat (go_big_quiet_step (first | (go_at_call 23; (first | (with_reducible exact T1C.out _) | (with_reducible exact T2C.out _)))))
              refine wpQuiet_nil ?_
              rintro w' ⟨z, rfl⟩
              have hbb := HFB.out z
              clear HFB hz0 x0 x1 x2 x3 x4 x5 x6 y0 y1 y2 p0
              replace HB := Lib.hid (HB.out.trans (hbb.mono HB.out.size))
              go_wp2_with fail
              go_ret
              exact ⟨by rw [GB.out _ hlt OKF]; rfl, HB.out⟩
      · obtain rfl : k = es.length := by omega
        go_wp2_with fail
        go_ret
        exact ⟨by rw [GG.out hok9]; rfl, hbw⟩
  | false =>
    by_cases ch : hi.size = 0
    rotate_left
    · have ch' := not_empty ch
      rw [show (Nd.good ⟨t, l, s, false, hi, r, es⟩) = false by simp [Nd.good, highGood, ch]]
      go_enter Try.func10, Try.ntmps10
      go_wp2_with fail
      go_ret
      exact ⟨rfl, hb⟩
    obtain rfl := size_zero ch
    have hg9 : highGood ⟨t, l, s, false, ⟨#[]⟩, r, es⟩ = true := by simp [highGood]; rfl
    have hgg2 := hgg hg9
    obtain ⟨ok, hok⟩ : ∃ ok, entOk ⟨t, l, s, false, ⟨#[]⟩, r, es⟩ = ok := ⟨_, rfl⟩
    rw [hG] at hgb hgg2 ⊢
    rw [hok] at hgb hgg2 hoks
    have GG := Lib.hid hgg2
    have GB := Lib.hid hgb
    have OKS := Lib.hid hoks
    clear hgg hgg2 hgb hoks hG hok hg9 HH
    go_enter Try.func10, Try.ntmps10
    go_wp2_with fail
    clear x0 x1 x2 x3 x4 x5 x6 cta ctb cla clb csa csb cra crb c5'
    go_loopw [3] (fun i wr => ∃ k : Nat, k ≤ es.length ∧ i = .int .i64 k ∧ (∀ i, i < k → ok i = true) ∧ Row wr w.heap.size 24 [.int .i64 t, .int .i64 l, .int .i64 s, .bool false, .string ⟨#[]⟩, .int .i64 r, .slice a es.length cap] ∧ Below w.heap.size w wr) (fun i _ => es.length - (intOf i).toNat)
    case atStart => exact ⟨0, by omega, rfl, fun i hi9 => absurd hi9 (Nat.not_lt_zero i), hX, hb⟩
    case round =>
      clear hb hX
      obtain ⟨k, hk, rfl, hok9, hXr, hbw⟩ := hrel
      have xw6 := hXr.cell (i := 6) rfl
      by_cases hlt : k < es.length
      · obtain ⟨ad, rfl, hlb, hx⟩ := hE k hlt
        obtain ⟨z0, z1, z2⟩ := hx _ hbw
        have hlt' : (k : Int) < (es.length : Int) := by omega
        have hek : es.getD k noE = es[k] := by rw [List.getD_eq_getElem?_getD, List.getElem?_eq_getElem hlt]; rfl
        obtain ⟨e, he⟩ : ∃ e, es[k] = e := ⟨_, rfl⟩
        have s1 := SM.out k hlt
        rw [he] at z0 z1 z2 hek s1
        clear he hx
        obtain ⟨key, val, g⟩ := e
        simp only at z0 z1 z2 s1
        have hY : Row (wr.alloc (.cells #[.string key, .string val, .bool g] 44)) wr.heap.size 44 [.string key, .string val, .bool g] := new_at rfl
        have X := Lib.hid (hXr.alloc (.cells #[.string key, .string val, .bool g] 44))
        have HB := Lib.hid (hbw.alloc hbw.size (.cells #[.string key, .string val, .bool g] 44))
        have Y := Lib.hid hY
        have HEK := Lib.hid hek
        have OKB := Lib.hid hok9
        obtain ⟨eb, heb⟩ : ∃ eb, eb = wr.heap.size := ⟨_, rfl⟩
        have x1 := X.out.cell (i := 1) rfl
        have y0 := Y.out.cell (i := 0) rfl
        have y1 := Y.out.cell (i := 1) rfl
        have y2 := Y.out.cell (i := 2) rfl
        clear hXr hbw hY hek hok9
        by_cases k9 : key.size = 9
        rotate_left
        · have OKF : ok k = false := by rw [OKS.out k, HEK.out]; simp [entGood, k9]
          have d9 : ((key.size : Int) != 9) = true := by simp; omega
          go_wp2_with fail
          go_ret
          exact ⟨by rw [GB.out _ hlt OKF]; rfl, HB.out⟩
        have d9 : ((key.size : Int) != 9) = false := by simp; omega
        by_cases v100 : (100 : Int) < (val.size : Int)
        · have OKF : ok k = false := by rw [OKS.out k, HEK.out]; simp [entGood]; omega
          go_wp2_with fail
          go_ret
          exact ⟨by rw [GB.out _ hlt OKF]; rfl, HB.out⟩
        by_cases lv : 0 < l
        · by_cases v2 : val.size = 2
          · have d2 : ((val.size : Int) != 2) = false := by simp; omega
            cases g
            · have cg : entGood ⟨key, val, false⟩ l = true := by simp [entGood, k9, v2]
              go_wp2_with fail
              clear z0 z1 z2 xw6
              rw [← heb] at Y ⊢
              generalize wr.alloc (.cells #[.string key, .string val, .bool false] 44) = wz at *
              clear heb
              have T2 := Lib.hid (fun w => texts_calls key ⟨#[]⟩ w (by omega) (by omega))
              rcases (by cases k with | zero => exact .inl rfl | succ j => exact .inr ⟨j, rfl⟩ : k = 0 ∨ ∃ j, k = j + 1) with rfl | ⟨j, rfl⟩
              · have OKT : ∀ i, i < 0 + 1 → ok i = true := fun i hi9 => by
                  rcases Nat.lt_or_ge i 0 with h' | h'
                  · exact OKB.out i h'
                  · obtain rfl : i = 0 := by omega
                    rw [OKS.out 0, HEK.out, cg]
                    simp
                have OKH := Lib.hid OKT
                clear OKT
                go_wp2_with fail
                have hlx := X.out.lt
                have hly := Y.out.lt
                obtain ⟨Z, f, hfb, ⟨z0, hz0⟩, hcl⟩ := class_of Try.prog wz
                haveI : Nonempty Z := ⟨z0⟩
                have x0 := fun z => (X.out.below (hfb z) hlx).cell (i := 0) rfl
                have x1 := fun z => (X.out.below (hfb z) hlx).cell (i := 1) rfl
                have x2 := fun z => (X.out.below (hfb z) hlx).cell (i := 2) rfl
                have x3 := fun z => (X.out.below (hfb z) hlx).cell (i := 3) rfl
                have x4 := fun z => (X.out.below (hfb z) hlx).cell (i := 4) rfl
                have x5 := fun z => (X.out.below (hfb z) hlx).cell (i := 5) rfl
                have x6 := fun z => (X.out.below (hfb z) hlx).cell (i := 6) rfl
                have y0 := fun z => (Y.out.below (hfb z) hly).cell (i := 0) rfl
                have y1 := fun z => (Y.out.below (hfb z) hly).cell (i := 1) rfl
                have y2 := fun z => (Y.out.below (hfb z) hly).cell (i := 2) rfl
                have T2C := Lib.hid (hcl _ _ _ (fun w1 _ => T2.out w1))
                have HFB := Lib.hid hfb
                clear hfb hcl
                refine Lex.region_class hz0 (by kernel_rfl) (by kernel_rfl) ?_
                repeat (go_big_quiet_step (first | (go_at_call 23; (first | (with_reducible exact T2C.out _)))))
                refine wpQuiet_nil ?_
                rintro w' ⟨z, rfl⟩
                have hbb := HFB.out z
                clear HFB hz0 x0 x1 x2 x3 x4 x5 x6 y0 y1 y2
                go_wp2_with fail
                exact ⟨⟨0 + 1, by omega, by go_num, OKH.out, X.out.below hbb hlx, HB.out.trans (hbb.mono HB.out.size)⟩, by simp [intOf]; omega⟩
              · obtain ⟨ad', hadj, _, hp⟩ := hE j (by omega)
                cases hadj
                have hej : es.getD j noE = es[j]'(by omega) := by rw [List.getD_eq_getElem?_getD, List.getElem?_eq_getElem (by omega)]; rfl
                have s3 := SM.out j (by omega)
                obtain ⟨⟨pk, pv, pg⟩, he⟩ : ∃ e, es[j]'(by omega) = e := ⟨_, rfl⟩
                have hp0 : ∀ w', Below w.heap.size w w' → w'.cell? (ad.add (j * 3)) = some (.string pk) := fun w' hw' => by
                  have := (hp w' hw').1
                  rw [he] at this
                  exact this
                rw [he] at hej s3
                simp only at s3
                have T1 := Lib.hid (fun w => texts_calls pk key w (by omega) (by omega))
                have PV := Lib.hid hp0
                have HEJ := Lib.hid hej
                have hj0 : (0 : Int) < ((j : Int) + 1) := by omega
                have hj1 : (j : Int) < (es.length : Int) := by omega
                clear hp hp0 he hej
                rcases cmpB_three pk.data.toList key.data.toList with c1 | c1 | c1
                · rw [c1] at T1
                  have OKT : ∀ i, i < (j + 1) + 1 → ok i = true := fun i hi9 => by
                    rcases Nat.lt_or_ge i (j + 1) with h' | h'
                    · exact OKB.out i h'
                    · obtain rfl : i = (j + 1) := by omega
                      rw [OKS.out (j + 1), HEK.out, cg]
                      rw [Nat.add_sub_cancel, HEJ.out]
                      simp [c1]
                  have OKH := Lib.hid OKT
                  clear OKT c1
                  go_wp2_with fail
                  have hlx := X.out.lt
                  have hly := Y.out.lt
                  obtain ⟨Z, f, hfb, ⟨z0, hz0⟩, hcl⟩ := class_of Try.prog wz
                  haveI : Nonempty Z := ⟨z0⟩
                  have x0 := fun z => (X.out.below (hfb z) hlx).cell (i := 0) rfl
                  have x1 := fun z => (X.out.below (hfb z) hlx).cell (i := 1) rfl
                  have x2 := fun z => (X.out.below (hfb z) hlx).cell (i := 2) rfl
                  have x3 := fun z => (X.out.below (hfb z) hlx).cell (i := 3) rfl
                  have x4 := fun z => (X.out.below (hfb z) hlx).cell (i := 4) rfl
                  have x5 := fun z => (X.out.below (hfb z) hlx).cell (i := 5) rfl
                  have x6 := fun z => (X.out.below (hfb z) hlx).cell (i := 6) rfl
                  have y0 := fun z => (Y.out.below (hfb z) hly).cell (i := 0) rfl
                  have y1 := fun z => (Y.out.below (hfb z) hly).cell (i := 1) rfl
                  have y2 := fun z => (Y.out.below (hfb z) hly).cell (i := 2) rfl
                  have p0 := fun z => PV.out (f z) (HB.out.trans ((hfb z).mono HB.out.size))
                  have T1C := Lib.hid (hcl _ _ _ (fun w1 _ => T1.out w1))
                  have T2C := Lib.hid (hcl _ _ _ (fun w1 _ => T2.out w1))
                  have HFB := Lib.hid hfb
                  clear hfb hcl
                  refine Lex.region_class hz0 (by kernel_rfl) (by kernel_rfl) ?_
                  repeat (go_big_quiet_step (first | (go_at_call 23; (first | (with_reducible exact T1C.out _) | (with_reducible exact T2C.out _)))))
                  refine wpQuiet_nil ?_
                  rintro w' ⟨z, rfl⟩
                  have hbb := HFB.out z
                  clear HFB hz0 x0 x1 x2 x3 x4 x5 x6 y0 y1 y2 p0
                  go_wp2_with fail
                  exact ⟨⟨(j + 1) + 1, by omega, by go_num, OKH.out, X.out.below hbb hlx, HB.out.trans (hbb.mono HB.out.size)⟩, by simp [intOf]; omega⟩
                · have OKF : ok (j + 1) = false := by rw [OKS.out (j + 1), HEK.out, Nat.add_sub_cancel, HEJ.out]; simp [c1]
                  rw [c1] at T1
                  clear c1
                  go_wp2_with fail
                  have hlx := X.out.lt
                  have hly := Y.out.lt
                  obtain ⟨Z, f, hfb, ⟨z0, hz0⟩, hcl⟩ := class_of Try.prog wz
                  haveI : Nonempty Z := ⟨z0⟩
                  have x0 := fun z => (X.out.below (hfb z) hlx).cell (i := 0) rfl
                  have x1 := fun z => (X.out.below (hfb z) hlx).cell (i := 1) rfl
                  have x2 := fun z => (X.out.below (hfb z) hlx).cell (i := 2) rfl
                  have x3 := fun z => (X.out.below (hfb z) hlx).cell (i := 3) rfl
                  have x4 := fun z => (X.out.below (hfb z) hlx).cell (i := 4) rfl
                  have x5 := fun z => (X.out.below (hfb z) hlx).cell (i := 5) rfl
                  have x6 := fun z => (X.out.below (hfb z) hlx).cell (i := 6) rfl
                  have y0 := fun z => (Y.out.below (hfb z) hly).cell (i := 0) rfl
                  have y1 := fun z => (Y.out.below (hfb z) hly).cell (i := 1) rfl
                  have y2 := fun z => (Y.out.below (hfb z) hly).cell (i := 2) rfl
                  have p0 := fun z => PV.out (f z) (HB.out.trans ((hfb z).mono HB.out.size))
                  have T1C := Lib.hid (hcl _ _ _ (fun w1 _ => T1.out w1))
                  have T2C := Lib.hid (hcl _ _ _ (fun w1 _ => T2.out w1))
                  have HFB := Lib.hid hfb
                  clear hfb hcl
                  refine Lex.region_class hz0 (by kernel_rfl) (by kernel_rfl) ?_
                  repeat (go_big_quiet_step (first | (go_at_call 23; (first | (with_reducible exact T1C.out _) | (with_reducible exact T2C.out _)))))
                  refine wpQuiet_nil ?_
                  rintro w' ⟨z, rfl⟩
                  have hbb := HFB.out z
                  clear HFB hz0 x0 x1 x2 x3 x4 x5 x6 y0 y1 y2 p0
                  replace HB := Lib.hid (HB.out.trans (hbb.mono HB.out.size))
                  go_wp2_with fail
                  go_ret
                  exact ⟨by rw [GB.out _ hlt OKF]; rfl, HB.out⟩
                · have OKF : ok (j + 1) = false := by rw [OKS.out (j + 1), HEK.out, Nat.add_sub_cancel, HEJ.out]; simp [c1]
                  rw [c1] at T1
                  clear c1
                  go_wp2_with fail
                  have hlx := X.out.lt
                  have hly := Y.out.lt
                  obtain ⟨Z, f, hfb, ⟨z0, hz0⟩, hcl⟩ := class_of Try.prog wz
                  haveI : Nonempty Z := ⟨z0⟩
                  have x0 := fun z => (X.out.below (hfb z) hlx).cell (i := 0) rfl
                  have x1 := fun z => (X.out.below (hfb z) hlx).cell (i := 1) rfl
                  have x2 := fun z => (X.out.below (hfb z) hlx).cell (i := 2) rfl
                  have x3 := fun z => (X.out.below (hfb z) hlx).cell (i := 3) rfl
                  have x4 := fun z => (X.out.below (hfb z) hlx).cell (i := 4) rfl
                  have x5 := fun z => (X.out.below (hfb z) hlx).cell (i := 5) rfl
                  have x6 := fun z => (X.out.below (hfb z) hlx).cell (i := 6) rfl
                  have y0 := fun z => (Y.out.below (hfb z) hly).cell (i := 0) rfl
                  have y1 := fun z => (Y.out.below (hfb z) hly).cell (i := 1) rfl
                  have y2 := fun z => (Y.out.below (hfb z) hly).cell (i := 2) rfl
                  have p0 := fun z => PV.out (f z) (HB.out.trans ((hfb z).mono HB.out.size))
                  have T1C := Lib.hid (hcl _ _ _ (fun w1 _ => T1.out w1))
                  have T2C := Lib.hid (hcl _ _ _ (fun w1 _ => T2.out w1))
                  have HFB := Lib.hid hfb
                  clear hfb hcl
                  refine Lex.region_class hz0 (by kernel_rfl) (by kernel_rfl) ?_
                  repeat (go_big_quiet_step (first | (go_at_call 23; (first | (with_reducible exact T1C.out _) | (with_reducible exact T2C.out _)))))
                  refine wpQuiet_nil ?_
                  rintro w' ⟨z, rfl⟩
                  have hbb := HFB.out z
                  clear HFB hz0 x0 x1 x2 x3 x4 x5 x6 y0 y1 y2 p0
                  replace HB := Lib.hid (HB.out.trans (hbb.mono HB.out.size))
                  go_wp2_with fail
                  go_ret
                  exact ⟨by rw [GB.out _ hlt OKF]; rfl, HB.out⟩
            · have OKF : ok k = false := by rw [OKS.out k, HEK.out]; simp [entGood, lv]
              go_wp2_with fail
              go_ret
              exact ⟨by rw [GB.out _ hlt OKF]; rfl, HB.out⟩
          · have d2 : ((val.size : Int) != 2) = true := by simp; omega
            have OKF : ok k = false := by rw [OKS.out k, HEK.out]; simp [entGood, lv, v2]
            go_wp2_with fail
            go_ret
            exact ⟨by rw [GB.out _ hlt OKF]; rfl, HB.out⟩
        · have dl : decide (0 < l) = false := by simpa using lv
          have cg : entGood ⟨key, val, g⟩ l = true := by simp [entGood, k9, lv]; omega
          go_wp2_with fail
          clear z0 z1 z2 xw6
          rw [← heb] at Y ⊢
          generalize wr.alloc (.cells #[.string key, .string val, .bool g] 44) = wz at *
          clear heb
          have T2 := Lib.hid (fun w => texts_calls key ⟨#[]⟩ w (by omega) (by omega))
          rcases (by cases k with | zero => exact .inl rfl | succ j => exact .inr ⟨j, rfl⟩ : k = 0 ∨ ∃ j, k = j + 1) with rfl | ⟨j, rfl⟩
          · have OKT : ∀ i, i < 0 + 1 → ok i = true := fun i hi9 => by
              rcases Nat.lt_or_ge i 0 with h' | h'
              · exact OKB.out i h'
              · obtain rfl : i = 0 := by omega
                rw [OKS.out 0, HEK.out, cg]
                simp
            have OKH := Lib.hid OKT
            clear OKT
            go_wp2_with fail
            have hlx := X.out.lt
            have hly := Y.out.lt
            obtain ⟨Z, f, hfb, ⟨z0, hz0⟩, hcl⟩ := class_of Try.prog wz
            haveI : Nonempty Z := ⟨z0⟩
            have x0 := fun z => (X.out.below (hfb z) hlx).cell (i := 0) rfl
            have x1 := fun z => (X.out.below (hfb z) hlx).cell (i := 1) rfl
            have x2 := fun z => (X.out.below (hfb z) hlx).cell (i := 2) rfl
            have x3 := fun z => (X.out.below (hfb z) hlx).cell (i := 3) rfl
            have x4 := fun z => (X.out.below (hfb z) hlx).cell (i := 4) rfl
            have x5 := fun z => (X.out.below (hfb z) hlx).cell (i := 5) rfl
            have x6 := fun z => (X.out.below (hfb z) hlx).cell (i := 6) rfl
            have y0 := fun z => (Y.out.below (hfb z) hly).cell (i := 0) rfl
            have y1 := fun z => (Y.out.below (hfb z) hly).cell (i := 1) rfl
            have y2 := fun z => (Y.out.below (hfb z) hly).cell (i := 2) rfl
            have T2C := Lib.hid (hcl _ _ _ (fun w1 _ => T2.out w1))
            have HFB := Lib.hid hfb
            clear hfb hcl
            refine Lex.region_class hz0 (by kernel_rfl) (by kernel_rfl) ?_
            repeat (go_big_quiet_step (first | (go_at_call 23; (first | (with_reducible exact T2C.out _)))))
            refine wpQuiet_nil ?_
            rintro w' ⟨z, rfl⟩
            have hbb := HFB.out z
            clear HFB hz0 x0 x1 x2 x3 x4 x5 x6 y0 y1 y2
            go_wp2_with fail
            exact ⟨⟨0 + 1, by omega, by go_num, OKH.out, X.out.below hbb hlx, HB.out.trans (hbb.mono HB.out.size)⟩, by simp [intOf]; omega⟩
          · obtain ⟨ad', hadj, _, hp⟩ := hE j (by omega)
            cases hadj
            have hej : es.getD j noE = es[j]'(by omega) := by rw [List.getD_eq_getElem?_getD, List.getElem?_eq_getElem (by omega)]; rfl
            have s3 := SM.out j (by omega)
            obtain ⟨⟨pk, pv, pg⟩, he⟩ : ∃ e, es[j]'(by omega) = e := ⟨_, rfl⟩
            have hp0 : ∀ w', Below w.heap.size w w' → w'.cell? (ad.add (j * 3)) = some (.string pk) := fun w' hw' => by
              have := (hp w' hw').1
              rw [he] at this
              exact this
            rw [he] at hej s3
            simp only at s3
            have T1 := Lib.hid (fun w => texts_calls pk key w (by omega) (by omega))
            have PV := Lib.hid hp0
            have HEJ := Lib.hid hej
            have hj0 : (0 : Int) < ((j : Int) + 1) := by omega
            have hj1 : (j : Int) < (es.length : Int) := by omega
            clear hp hp0 he hej
            rcases cmpB_three pk.data.toList key.data.toList with c1 | c1 | c1
            · rw [c1] at T1
              have OKT : ∀ i, i < (j + 1) + 1 → ok i = true := fun i hi9 => by
                rcases Nat.lt_or_ge i (j + 1) with h' | h'
                · exact OKB.out i h'
                · obtain rfl : i = (j + 1) := by omega
                  rw [OKS.out (j + 1), HEK.out, cg]
                  rw [Nat.add_sub_cancel, HEJ.out]
                  simp [c1]
              have OKH := Lib.hid OKT
              clear OKT c1
              go_wp2_with fail
              have hlx := X.out.lt
              have hly := Y.out.lt
              obtain ⟨Z, f, hfb, ⟨z0, hz0⟩, hcl⟩ := class_of Try.prog wz
              haveI : Nonempty Z := ⟨z0⟩
              have x0 := fun z => (X.out.below (hfb z) hlx).cell (i := 0) rfl
              have x1 := fun z => (X.out.below (hfb z) hlx).cell (i := 1) rfl
              have x2 := fun z => (X.out.below (hfb z) hlx).cell (i := 2) rfl
              have x3 := fun z => (X.out.below (hfb z) hlx).cell (i := 3) rfl
              have x4 := fun z => (X.out.below (hfb z) hlx).cell (i := 4) rfl
              have x5 := fun z => (X.out.below (hfb z) hlx).cell (i := 5) rfl
              have x6 := fun z => (X.out.below (hfb z) hlx).cell (i := 6) rfl
              have y0 := fun z => (Y.out.below (hfb z) hly).cell (i := 0) rfl
              have y1 := fun z => (Y.out.below (hfb z) hly).cell (i := 1) rfl
              have y2 := fun z => (Y.out.below (hfb z) hly).cell (i := 2) rfl
              have p0 := fun z => PV.out (f z) (HB.out.trans ((hfb z).mono HB.out.size))
              have T1C := Lib.hid (hcl _ _ _ (fun w1 _ => T1.out w1))
              have T2C := Lib.hid (hcl _ _ _ (fun w1 _ => T2.out w1))
              have HFB := Lib.hid hfb
              clear hfb hcl
              refine Lex.region_class hz0 (by kernel_rfl) (by kernel_rfl) ?_
              repeat (go_big_quiet_step (first | (go_at_call 23; (first | (with_reducible exact T1C.out _) | (with_reducible exact T2C.out _)))))
              refine wpQuiet_nil ?_
              rintro w' ⟨z, rfl⟩
              have hbb := HFB.out z
              clear HFB hz0 x0 x1 x2 x3 x4 x5 x6 y0 y1 y2 p0
              go_wp2_with fail
              exact ⟨⟨(j + 1) + 1, by omega, by go_num, OKH.out, X.out.below hbb hlx, HB.out.trans (hbb.mono HB.out.size)⟩, by simp [intOf]; omega⟩
            · have OKF : ok (j + 1) = false := by rw [OKS.out (j + 1), HEK.out, Nat.add_sub_cancel, HEJ.out]; simp [c1]
              rw [c1] at T1
              clear c1
              go_wp2_with fail
              have hlx := X.out.lt
              have hly := Y.out.lt
              obtain ⟨Z, f, hfb, ⟨z0, hz0⟩, hcl⟩ := class_of Try.prog wz
              haveI : Nonempty Z := ⟨z0⟩
              have x0 := fun z => (X.out.below (hfb z) hlx).cell (i := 0) rfl
              have x1 := fun z => (X.out.below (hfb z) hlx).cell (i := 1) rfl
              have x2 := fun z => (X.out.below (hfb z) hlx).cell (i := 2) rfl
              have x3 := fun z => (X.out.below (hfb z) hlx).cell (i := 3) rfl
              have x4 := fun z => (X.out.below (hfb z) hlx).cell (i := 4) rfl
              have x5 := fun z => (X.out.below (hfb z) hlx).cell (i := 5) rfl
              have x6 := fun z => (X.out.below (hfb z) hlx).cell (i := 6) rfl
              have y0 := fun z => (Y.out.below (hfb z) hly).cell (i := 0) rfl
              have y1 := fun z => (Y.out.below (hfb z) hly).cell (i := 1) rfl
              have y2 := fun z => (Y.out.below (hfb z) hly).cell (i := 2) rfl
              have p0 := fun z => PV.out (f z) (HB.out.trans ((hfb z).mono HB.out.size))
              have T1C := Lib.hid (hcl _ _ _ (fun w1 _ => T1.out w1))
              have T2C := Lib.hid (hcl _ _ _ (fun w1 _ => T2.out w1))
              have HFB := Lib.hid hfb
              clear hfb hcl
              refine Lex.region_class hz0 (by kernel_rfl) (by kernel_rfl) ?_
              repeat (go_big_quiet_step (first | (go_at_call 23; (first | (with_reducible exact T1C.out _) | (with_reducible exact T2C.out _)))))
              refine wpQuiet_nil ?_
              rintro w' ⟨z, rfl⟩
              have hbb := HFB.out z
              clear HFB hz0 x0 x1 x2 x3 x4 x5 x6 y0 y1 y2 p0
              replace HB := Lib.hid (HB.out.trans (hbb.mono HB.out.size))
              go_wp2_with fail
              go_ret
              exact ⟨by rw [GB.out _ hlt OKF]; rfl, HB.out⟩
            · have OKF : ok (j + 1) = false := by rw [OKS.out (j + 1), HEK.out, Nat.add_sub_cancel, HEJ.out]; simp [c1]
              rw [c1] at T1
              clear c1
              go_wp2_with fail
              have hlx := X.out.lt
              have hly := Y.out.lt
              obtain ⟨Z, f, hfb, ⟨z0, hz0⟩, hcl⟩ := class_of Try.prog wz
              haveI : Nonempty Z := ⟨z0⟩
              have x0 := fun z => (X.out.below (hfb z) hlx).cell (i := 0) rfl
              have x1 := fun z => (X.out.below (hfb z) hlx).cell (i := 1) rfl
              have x2 := fun z => (X.out.below (hfb z) hlx).cell (i := 2) rfl
              have x3 := fun z => (X.out.below (hfb z) hlx).cell (i := 3) rfl
              have x4 := fun z => (X.out.below (hfb z) hlx).cell (i := 4) rfl
              have x5 := fun z => (X.out.below (hfb z) hlx).cell (i := 5) rfl
              have x6 := fun z => (X.out.below (hfb z) hlx).cell (i := 6) rfl
              have y0 := fun z => (Y.out.below (hfb z) hly).cell (i := 0) rfl
              have y1 := fun z => (Y.out.below (hfb z) hly).cell (i := 1) rfl
              have y2 := fun z => (Y.out.below (hfb z) hly).cell (i := 2) rfl
              have p0 := fun z => PV.out (f z) (HB.out.trans ((hfb z).mono HB.out.size))
              have T1C := Lib.hid (hcl _ _ _ (fun w1 _ => T1.out w1))
              have T2C := Lib.hid (hcl _ _ _ (fun w1 _ => T2.out w1))
              have HFB := Lib.hid hfb
              clear hfb hcl
              refine Lex.region_class hz0 (by kernel_rfl) (by kernel_rfl) ?_
              repeat (go_big_quiet_step (first | (go_at_call 23; (first | (with_reducible exact T1C.out _) | (with_reducible exact T2C.out _)))))
              refine wpQuiet_nil ?_
              rintro w' ⟨z, rfl⟩
              have hbb := HFB.out z
              clear HFB hz0 x0 x1 x2 x3 x4 x5 x6 y0 y1 y2 p0
              replace HB := Lib.hid (HB.out.trans (hbb.mono HB.out.size))
              go_wp2_with fail
              go_ret
              exact ⟨by rw [GB.out _ hlt OKF]; rfl, HB.out⟩
      · obtain rfl : k = es.length := by omega
        go_wp2_with fail
        go_ret
        exact ⟨by rw [GG.out hok9]; rfl, hbw⟩
end Go.Proofs.Ytebmalmciakhcaa.Node
