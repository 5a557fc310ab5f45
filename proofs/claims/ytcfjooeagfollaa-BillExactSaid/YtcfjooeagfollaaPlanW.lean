/- plan.Good, Trees, View, Free, Root. -/
import Derived.Test.YtcfjooeagfollaaPlanV
namespace Go.Proofs.Ytcfjooeagfollaa.Plan
open Go.RowKit Go.Proofs.Ytcfjooeagfollaa.Mem Go.Proofs.Ytcfjooeagfollaa.Bytes Go.Proofs.Ytcfjooeagfollaa.Num Go.Proofs.Ytcfjooeagfollaa.Wide
set_option linter.unusedSimpArgs false
set_option linter.unusedVariables false
set_option maxRecDepth 20000

def Pl.fits (p : Pl) : Prop := ∀ v ∈ p.views, ∀ s ∈ v.sums, -9223372036854775808 ≤ s ∧ s ≤ 9223372036854775807
def badVw (ts : List Tb) (v : Vw) : Bool := !okVw ts v
set_option maxHeartbeats 1000000 in
theorem badVw_calls (v : Vw) (p : Pl) (b : Nat) (w : World) (hR : Row w b 67 p.cells) (hT : Ts w p.ta p.tables) (hS : Is w v.a v.sums) (hl : v.sums.length ≤ 9223372036854775807) (hf : ∀ s ∈ v.sums, -9223372036854775808 ≤ s ∧ s ≤ 9223372036854775807) :
    Calls Try.prog 92 #[.agg #[.int .i64 v.table, .int .i64 v.by_, .slice v.a v.sums.length v.cap], .pointer (some ⟨b, 0, none⟩)] w fun e w' => e = .returned (.bool (badVw p.tables v)) ∧ Below w.heap.size w w' := by
  have hX : Row (w.alloc (.cells #[.int .i64 v.table, .int .i64 v.by_, .slice v.a v.sums.length v.cap] 137)) w.heap.size 137 [.int .i64 v.table, .int .i64 v.by_, .slice v.a v.sums.length v.cap] := Wide.new_at rfl
  have hb : Below w.heap.size w (w.alloc (.cells #[.int .i64 v.table, .int .i64 v.by_, .slice v.a v.sums.length v.cap] 137)) := (Below.refl _ _).alloc (Nat.le_refl _) _
  have x0 := hX.cell (i := 0) rfl
  have x1 := hX.cell (i := 1) rfl
  have x2 := hX.cell (i := 2) rfl
  have p0 := (hR.alloc (.cells #[.int .i64 v.table, .int .i64 v.by_, .slice v.a v.sums.length v.cap] 137)).cell (i := 0) rfl
  have E1 := Lib.hid (isView_calls v p.tables p.ta p.tcap _ (hT.keep hb) (hS.keep hb) hl hf)
  have HB := Lib.hid hb
  have hk : badVw p.tables v = !okVw p.tables v := rfl
  rw [hk]
  generalize okVw p.tables v = C at *
  clear hX hb hk hT hS hR
  go_enter Try.func92, Try.ntmps92
  go_wp2_with fail
  refine E1.out.mono ?_
  rintro e w1 ⟨rfl, k1⟩
  have B1 := Lib.hid (HB.out.trans (k1.mono HB.out.size))
  go_wp2_with fail
  go_ret
  exact ⟨rfl, B1.out⟩
set_option maxHeartbeats 800000 in
theorem viewIndex_calls (a : Option Addr) (n c : Nat) (xs : List Vw) (w : World) (h : Els Vw.cells 3 w a xs) (hl : xs.length = n) (hn : n ≤ 9223372036854775807) (p : Pl) (b : Nat) (HR : RowKit.Hid (Row w b 67 p.cells)) (HT : RowKit.Hid (Ts w p.ta p.tables ∧ ∀ v ∈ xs, Is w v.a v.sums ∧ v.sums.length ≤ 9223372036854775807 ∧ ∀ s ∈ v.sums, -9223372036854775808 ≤ s ∧ s ≤ 9223372036854775807)):
    Calls Try.prog 142 #[.slice a n c, .func (.func 92) #[] #[.pointer (some ⟨b, 0, none⟩)]] w fun e w' => (∃ k : Int, e = .returned (.int .i64 k) ∧ decide (0 ≤ k) = xs.any (badVw p.tables)) ∧ Below w.heap.size w w' := by
  have ES := Lib.hid h
  clear h
  go_enter Try.func142, Try.ntmps142
  go_wp2_with fail
  go_loopw [8] (fun i wr => ∃ j : Nat, j ≤ n ∧ i = .int .i64 j ∧ (xs.take j).any (badVw p.tables) = false ∧ Below w.heap.size w wr) (fun i _ => n - (intOf i).toNat)
  case atStart => exact ⟨0, by omega, rfl, rfl, Below.refl _ _⟩
  case round =>
    obtain ⟨j, hj, rfl, hany, hb⟩ := hrel
    by_cases hlt : j < n
    · have hlt2 : j < xs.length := by omega
      obtain ⟨ad, rfl, hlb, hz0, hz1⟩ := ES.out.at hlt2 hb
      have hlt' : (j : Int) < (n : Int) := by omega
      have hnext : (xs.take (j + 1)).any (badVw p.tables) = badVw p.tables xs[j] := by rw [List.take_add_one, List.getElem?_eq_getElem hlt2, List.any_append, hany]; simp
      have hall : badVw p.tables xs[j] = true → xs.any (badVw p.tables) = true := fun hb => List.any_eq_true.2 ⟨_, List.getElem_mem hlt2, hb⟩
      have hmem := List.getElem_mem hlt2
      generalize xs[j] = x at *
      skip
      have y0 := hz0 _ rfl
      try rw [Nat.mul_one] at y0
      have y1 := hz1 0 _ rfl
      have y2 := hz1 1 _ rfl
      have CL := Lib.hid (fun (wz : World) (hbz : Below w.heap.size w wz) => badVw_calls x p b wz ((HR.out).below hbz HR.out.lt) (HT.out.1.keep hbz) ((HT.out.2 x hmem).1.keep hbz) (HT.out.2 x hmem).2.1 (HT.out.2 x hmem).2.2)
      have HN := Lib.hid hnext
      have HA := Lib.hid hall
      have HB := Lib.hid hb
      clear hnext hall hany hz0 hz1 hb hmem
      go_wp2_with fail
      refine (CL.out _ HB.out).mono ?_
      rintro e w2 ⟨rfl, hb2⟩
      have HB2 := Lib.hid (below_next HB.out hb2 (Nat.le_refl _))
      cases hbad : badVw p.tables (x)
      · rw [hbad] at HN
        have hbad' : (!badVw p.tables (x)) = true := by rw [hbad]; rfl
        have HBAD := Lib.hid hbad
        clear hb2 hbad hbad' HA
        go_wp2_with fail
        first
        | exact ⟨⟨j + 1, by omega, by go_num, HN.out, HB2.out⟩, by simp [intOf]; omega⟩
        | (go_roundw
           case rel => exact ⟨j + 1, by omega, by go_num, HN.out, HB2.out⟩
           case measure => simp [intOf]; omega)
      · have HF := Lib.hid (HA.out hbad)
        clear hb2 HA
        go_wp2_with fail
        go_ret
        exact ⟨⟨j, rfl, by rw [HF.out]; simp⟩, HB2.out⟩
    · obtain rfl : j = n := by omega
      have hx : xs.any (badVw p.tables) = false := by rw [← List.take_of_length_le (Nat.le_of_eq hl)]; exact hany
      have HF := Lib.hid hx
      clear hx hany
      go_wp2_with fail
      go_ret
      exact ⟨⟨-1, rfl, by rw [HF.out]; simp⟩, hb⟩

set_option maxHeartbeats 800000 in
theorem viewContains_calls (a : Option Addr) (n c : Nat) (xs : List Vw) (w : World) (h : Els Vw.cells 3 w a xs) (hl : xs.length = n) (hn : n ≤ 9223372036854775807) (p : Pl) (b : Nat) (HR : RowKit.Hid (Row w b 67 p.cells)) (HT : RowKit.Hid (Ts w p.ta p.tables ∧ ∀ v ∈ xs, Is w v.a v.sums ∧ v.sums.length ≤ 9223372036854775807 ∧ ∀ s ∈ v.sums, -9223372036854775808 ≤ s ∧ s ≤ 9223372036854775807)):
    Calls Try.prog 95 #[.slice a n c, .func (.func 92) #[] #[.pointer (some ⟨b, 0, none⟩)]] w fun e w' => e = .returned (.bool (xs.any (badVw p.tables))) ∧ Below w.heap.size w w' := by
  go_enter Try.func95, Try.ntmps95
  go_wp2_with fail
  refine (viewIndex_calls a n c xs _ h hl hn p b HR HT).mono ?_
  rintro e w2 ⟨⟨k, rfl, hk⟩, hb⟩
  have HK := Lib.hid hk
  clear hk
  go_wp2_with fail
  go_ret
  refine ⟨?_, hb⟩
  show Ending.returned (.bool (decide (0 ≤ k))) = _
  rw [HK.out]

def Pl.good (p : Pl) : Bool := !(decide (p.tables.length < 1) || (decide (3 < p.tables.length) || decide (4 < p.views.length))) && (!p.tables.any badTb && !p.views.any (badVw p.tables))
set_option maxHeartbeats 1000000 in
theorem good_calls (p : Pl) (w : World) (h : HasP w p) (hf : p.fits) : Calls Try.prog 35 #[.agg #[.slice p.ta p.tables.length p.tcap, .slice p.va p.views.length p.vcap]] w fun e w' => e = .returned (.bool p.good) ∧ Below w.heap.size w w' := by
  have hX : Row (w.alloc (.cells #[.slice p.ta p.tables.length p.tcap, .slice p.va p.views.length p.vcap] 67)) w.heap.size 67 p.cells := Wide.new_at rfl
  have hb : Below w.heap.size w (w.alloc (.cells #[.slice p.ta p.tables.length p.tcap, .slice p.va p.views.length p.vcap] 67)) := (Below.refl _ _).alloc (Nat.le_refl _) _
  have x0 := hX.cell (i := 0) rfl
  have x1 := hX.cell (i := 1) rfl
  have hk : p.good = (!(decide (p.tables.length < 1) || (decide (3 < p.tables.length) || decide (4 < p.views.length))) && (!p.tables.any badTb && !p.views.any (badVw p.tables))) := rfl
  have T1 := Lib.hid (h.tabs.keep hb)
  have HP := Lib.hid h
  have HF := Lib.hid hf
  have X := Lib.hid hX
  have HB := Lib.hid hb
  rw [hk]
  clear hX hb hf
  by_cases c1 : p.tables.length < 1
  · have e : (!(decide (p.tables.length < 1) || (decide (3 < p.tables.length) || decide (4 < p.views.length))) && (!p.tables.any badTb && !p.views.any (badVw p.tables))) = false := by simp [c1]
    have c1' : (p.tables.length : Int) < 1 := by omega
    rw [e]
    clear e hk
    go_enter Try.func35, Try.ntmps35
    go_wp2_with fail
    go_ret
    exact ⟨rfl, HB.out⟩
  by_cases c2 : 3 < p.tables.length
  · have e : (!(decide (p.tables.length < 1) || (decide (3 < p.tables.length) || decide (4 < p.views.length))) && (!p.tables.any badTb && !p.views.any (badVw p.tables))) = false := by simp [c2]
    have c2' : (3 : Int) < (p.tables.length : Int) := by omega
    have c1' : decide ((p.tables.length : Int) < 1) = false := by simp; omega
    rw [e]
    clear e hk
    go_enter Try.func35, Try.ntmps35
    go_wp2_with fail
    go_ret
    exact ⟨rfl, HB.out⟩
  by_cases c3 : 4 < p.views.length
  · have e : (!(decide (p.tables.length < 1) || (decide (3 < p.tables.length) || decide (4 < p.views.length))) && (!p.tables.any badTb && !p.views.any (badVw p.tables))) = false := by simp [c3]
    have c3' : (4 : Int) < (p.views.length : Int) := by omega
    have c2' : decide ((3 : Int) < (p.tables.length : Int)) = false := by simp; omega
    have c1' : decide ((p.tables.length : Int) < 1) = false := by simp; omega
    rw [e]
    clear e hk
    go_enter Try.func35, Try.ntmps35
    go_wp2_with fail
    go_ret
    exact ⟨rfl, HB.out⟩
  have e : (!(decide (p.tables.length < 1) || (decide (3 < p.tables.length) || decide (4 < p.views.length))) && (!p.tables.any badTb && !p.views.any (badVw p.tables))) = (!p.tables.any badTb && !p.views.any (badVw p.tables)) := by
    rw [decide_eq_false c1, decide_eq_false c2, decide_eq_false c3]; rfl
  have c3' : decide ((4 : Int) < (p.views.length : Int)) = false := by simp; omega
  have c2' : decide ((3 : Int) < (p.tables.length : Int)) = false := by simp; omega
  have c1' : decide ((p.tables.length : Int) < 1) = false := by simp; omega
  rw [e]
  clear e hk h
  have E1 := Lib.hid (tableContains_calls p.ta p.tables.length p.tcap p.tables _ T1.out.row rfl T1.out.len (Lib.hid T1.out.cols))
  obtain ⟨C, hC⟩ : ∃ C, p.tables.any badTb = C := ⟨_, rfl⟩
  rw [hC] at E1 ⊢
  clear hC
  go_enter Try.func35, Try.ntmps35
  go_wp2_with fail
  refine E1.out.mono ?_
  rintro e w1 ⟨rfl, k1⟩
  have B1 := Lib.hid (HB.out.trans (k1.mono HB.out.size))
  have X1 := Lib.hid (X.out.below k1 X.out.lt)
  clear k1 x0 x1
  have x1 := X1.out.cell (i := 1) rfl
  cases C
  · go_wp2_with fail
    have P1 := Lib.hid (HP.out.keep B1.out)
    have E2 := Lib.hid (viewContains_calls p.va p.views.length p.vcap p.views w1 P1.out.row rfl P1.out.len p w.heap.size X1 (Lib.hid ⟨P1.out.tabs, fun v hv => ⟨(P1.out.sums v hv).1, (P1.out.sums v hv).2, HF.out v hv⟩⟩))
    obtain ⟨D, hD⟩ : ∃ D, p.views.any (badVw p.tables) = D := ⟨_, rfl⟩
    rw [hD] at E2
    have HD := Lib.hid hD
    clear hD
    refine E2.out.mono ?_
    rintro e w2 ⟨rfl, k2⟩
    have B2 := Lib.hid (B1.out.trans (k2.mono B1.out.size))
    clear k2
    go_wp2_with fail
    go_ret
    exact ⟨by rw [HD.out]; rfl, B2.out⟩
  · go_wp2_with fail
    go_ret
    exact ⟨rfl, B1.out⟩

set_option maxHeartbeats 1000000 in
theorem trees_calls (p : Pl) (w : World) (h1 : p.tables.length ≤ 1000) (h2 : p.views.length ≤ 1000) : Calls Try.prog 69 #[.agg #[.slice p.ta p.tables.length p.tcap, .slice p.va p.views.length p.vcap]] w fun e w' => e = .returned (.int .i64 ((p.tables.length : Int) + (p.views.length : Int))) ∧ Below w.heap.size w w' := by
  have hb : Below w.heap.size w (w.alloc (.cells #[.slice p.ta p.tables.length p.tcap, .slice p.va p.views.length p.vcap] 67)) := (Below.refl _ _).alloc (Nat.le_refl _) _
  go_enter Try.func69, Try.ntmps69
  go_wp2_with fail
  go_ret
  exact ⟨rfl, hb⟩
theorem root_calls (n : Int) (w : World) (h1 : 0 ≤ n) (h2 : n ≤ 3000) : Calls Try.prog 72 #[.int .i64 n] w fun e w' => e = .returned (.int .i64 (n + 1)) ∧ Below w.heap.size w w' := by
  go_enter Try.func72, Try.ntmps72
  go_wp2_with fail
  go_ret
  exact ⟨rfl, Below.refl _ _⟩
theorem viewT_calls (p : Pl) (n : Int) (w : World) (h1 : p.tables.length ≤ 1000) (h2 : 0 ≤ n) (h3 : n ≤ 1000) : Calls Try.prog 70 #[.agg #[.slice p.ta p.tables.length p.tcap, .slice p.va p.views.length p.vcap], .int .i64 n] w fun e w' => e = .returned (.int .i64 ((p.tables.length : Int) + n)) ∧ Below w.heap.size w w' := by
  have hb : Below w.heap.size w (w.alloc (.cells #[.slice p.ta p.tables.length p.tcap, .slice p.va p.views.length p.vcap] 67)) := (Below.refl _ _).alloc (Nat.le_refl _) _
  go_enter Try.func70, Try.ntmps70
  go_wp2_with fail
  go_ret
  exact ⟨rfl, hb⟩
theorem free_calls (p : Pl) (w : World) (h1 : p.tables.length ≤ 1000) (h2 : p.views.length ≤ 1000) : Calls Try.prog 71 #[.agg #[.slice p.ta p.tables.length p.tcap, .slice p.va p.views.length p.vcap]] w fun e w' => e = .returned (.int .i64 ((p.tables.length : Int) + (p.views.length : Int) + 1)) ∧ Below w.heap.size w w' := by
  have hb : Below w.heap.size w (w.alloc (.cells #[.slice p.ta p.tables.length p.tcap, .slice p.va p.views.length p.vcap] 67)) := (Below.refl _ _).alloc (Nat.le_refl _) _
  have E1 := Lib.hid (fun w => trees_calls p w h1 h2)
  have E2 := Lib.hid (fun w => root_calls ((p.tables.length : Int) + (p.views.length : Int)) w (by omega) (by omega))
  have B := Lib.hid hb
  clear hb
  go_enter Try.func71, Try.ntmps71
  go_wp2_with fail
  refine (E1.out _).mono ?_
  rintro e w1 ⟨rfl, k1⟩
  have B1 := Lib.hid (B.out.trans (k1.mono B.out.size))
  clear k1
  go_wp2_with fail
  refine (E2.out _).mono ?_
  rintro e w2 ⟨rfl, k2⟩
  have B2 := Lib.hid (B1.out.trans (k2.mono B1.out.size))
  clear k2
  go_wp2_with fail
  go_ret
  exact ⟨rfl, B2.out⟩
end Go.Proofs.Ytcfjooeagfollaa.Plan
