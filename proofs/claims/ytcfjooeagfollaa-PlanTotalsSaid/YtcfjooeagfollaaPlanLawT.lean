/- The law PlanTotals. Printed by plan_totals.py -/
import Derived.Test.YtcfjooeagfollaaPlanLawS
import Derived.Test.YtcfjooeagfollaaBitT
import Derived.Test.YtcfjooeagfollaaBitA
namespace Go.Proofs.Ytcfjooeagfollaa.Plan
open Go.RowKit Go.Proofs.Ytcfjooeagfollaa.Mem Go.Proofs.Ytcfjooeagfollaa.Bytes Go.Proofs.Ytcfjooeagfollaa.Num Go.Proofs.Ytcfjooeagfollaa.Wide
set_option linter.unusedSimpArgs false
set_option linter.unusedVariables false
set_option maxRecDepth 20000

theorem noT_is (w : World) : HasT w (.agg #[.int .i64 0, .int .u64 0, .slice none 0 0]) noT := ⟨⟨none, 0, rfl, Els.nil _ _ _ _⟩, ⟨noW_fits, fun s hs => by cases hs⟩, by simp [noT]⟩
theorem nothing_no (n : Int) : (nothing n).isNo = true := by
  have h : ((List.replicate (cnt n) noW).any someW) = false := by rw [List.any_eq_false]; intro x hx; rw [(List.mem_replicate.1 hx).2]; simp [someW, isNo, noW]
  unfold Tot.isNo nothing
  rw [h]
  simp [isNo, noW]
theorem rt_code {s : ByteArray} {n : Int} (h : rtOk s n) : ∃ t : Tot, rtOut s n = (t, 0) ∧ bs t.code = s ∧ t.sums.length ≤ 1000 := by
  obtain ⟨a, b, c⟩ := h
  obtain ⟨j, rfl⟩ := Int.eq_ofNat_of_zero_le a
  have e : ((j : Int) + 1).toNat = j + 1 := by omega
  have hr := (readW_is (j + 1) s.data.toList (by show s.size = _; omega)).1
  have hl := readW_length (j + 1) s.data.toList
  refine ⟨totOf (readW (j + 1) s.data.toList), by unfold rtOut; rw [if_pos ⟨a, b, c⟩, e], ?_, ?_⟩
  · rw [readW] at hr ⊢
    show bs (Tot.code ⟨_, _⟩) = s
    rw [Tot.code]
    unfold codesW at hr
    rw [List.flatMap_cons] at hr
    show bs (_ ++ List.flatMap _ _) = s
    rw [hr, bs_of]
  · rw [readW] at hl ⊢
    show (readW j _).length ≤ 1000
    rw [readW_length]
    omega

set_option maxHeartbeats 8000000 in
theorem totals_calls (va vb : Value) (a b : Tot) (s : ByteArray) (n : Int) (w : World) (hA : HasT w va a) (hB : HasT w vb b) (hs : s.size ≤ 140737488351232) (h1 : -9223372036854775808 ≤ n) (h2 : n ≤ 9223372036854775807) :
    Calls Try.prog 3 #[va, vb, .string s, .int .i64 n] w fun e w' => e = .returned (.bool true) ∧ Below w.heap.size w w' := by
  obtain ⟨aa, ac, rfl⟩ := hA.open
  obtain ⟨ba, bc, rfl⟩ := hB.open
  have AW := Lib.hid awake_calls
  have la := hA.2.2
  have lb := hB.2.2
  obtain ⟨p, hp⟩ : ∃ n, a.sums.length = n := ⟨_, rfl⟩
  obtain ⟨q, hq⟩ : ∃ m, b.sums.length = m := ⟨_, rfl⟩
  rw [hp] at la hA ⊢
  rw [hq] at lb hB ⊢
  obtain ⟨ah, hah⟩ : ∃ x, a.count.hi = x := ⟨_, rfl⟩
  obtain ⟨al, hal⟩ : ∃ x, a.count.lo = x := ⟨_, rfl⟩
  obtain ⟨bh, hbh⟩ : ∃ x, b.count.hi = x := ⟨_, rfl⟩
  obtain ⟨bl, hbl⟩ : ∃ x, b.count.lo = x := ⟨_, rfl⟩
  rw [hah, hal] at hA ⊢
  rw [hbh, hbl] at hB ⊢
  clear hah hal hbh hbl
  have hX : Row (w.alloc (.cells #[.int .i64 ah, .int .u64 al, .slice aa p ac] 27)) w.heap.size 27 [.int .i64 ah, .int .u64 al, .slice aa p ac] := Wide.new_at rfl
  have hX2 := hX.alloc (.cells #[.int .i64 bh, .int .u64 bl, .slice ba q bc] 27)
  have hY2 : Row ((w.alloc (.cells #[.int .i64 ah, .int .u64 al, .slice aa p ac] 27)).alloc (.cells #[.int .i64 bh, .int .u64 bl, .slice ba q bc] 27)) (w.heap.size + 1) 27 [.int .i64 bh, .int .u64 bl, .slice ba q bc] := Wide.new_at (by simp)
  have b2 : Below w.heap.size w ((w.alloc (.cells #[.int .i64 ah, .int .u64 al, .slice aa p ac] 27)).alloc (.cells #[.int .i64 bh, .int .u64 bl, .slice ba q bc] 27)) := ((Below.refl _ _).alloc (Nat.le_refl _) _).alloc (by simp) _
  have XA := Lib.hid hX2
  have XB := Lib.hid hY2
  have HB := Lib.hid b2
  have HA0 := Lib.hid hA
  have HB0 := Lib.hid hB
  clear hX hX2 hY2 b2 hA hB
  by_cases c1 : 10 < p
  · have c1' : (10 : Int) < (p : Int) := by omega
    go_enter Try.func3, Try.ntmps3
    go_wp2_with fail
    refine (AW.out _).mono ?_
    rintro e w1 ⟨rfl, k⟩
    have B1 := Lib.hid (HB.out.trans (k.mono HB.out.size))
    have x2 := (XA.out.below k XA.out.lt).cell (i := 2) rfl
    clear k
    go_wp2_with fail
    go_ret
    exact ⟨rfl, B1.out⟩
  have c1' : decide ((10 : Int) < (p : Int)) = false := by simp; omega
  by_cases c2 : 10 < q
  · have c2' : (10 : Int) < (q : Int) := by omega
    go_enter Try.func3, Try.ntmps3
    go_wp2_with fail
    refine (AW.out _).mono ?_
    rintro e w1 ⟨rfl, k⟩
    have B1 := Lib.hid (HB.out.trans (k.mono HB.out.size))
    have x2 := (XA.out.below k XA.out.lt).cell (i := 2) rfl
    have y2 := (XB.out.below k XB.out.lt).cell (i := 2) rfl
    clear k
    go_wp2_with fail
    go_ret
    exact ⟨rfl, B1.out⟩
  have c2' : decide ((10 : Int) < (q : Int)) = false := by simp; omega
  by_cases c3 : 100 < s.size
  · have c3' : (100 : Int) < (s.size : Int) := by omega
    go_enter Try.func3, Try.ntmps3
    go_wp2_with fail
    refine (AW.out _).mono ?_
    rintro e w1 ⟨rfl, k⟩
    have B1 := Lib.hid (HB.out.trans (k.mono HB.out.size))
    have x2 := (XA.out.below k XA.out.lt).cell (i := 2) rfl
    have y2 := (XB.out.below k XB.out.lt).cell (i := 2) rfl
    clear k
    go_wp2_with fail
    go_ret
    exact ⟨rfl, B1.out⟩
  have c3' : decide ((100 : Int) < (s.size : Int)) = false := by simp; omega
  have LA := Lib.hid (show a.sums.length ≤ 1000 by omega)
  have LB := Lib.hid (show b.sums.length ≤ 1000 by omega)
  have RC := Lib.hid (fun wx => readTotal_calls s n h1 h2 wx)
  clear c1 c2 hp hq
  go_enter Try.func3, Try.ntmps3
  go_wp2_with fail
  refine (AW.out _).mono ?_
  rintro e w1 ⟨rfl, k⟩
  replace XA := Lib.hid (XA.out.below k XA.out.lt)
  replace XB := Lib.hid (XB.out.below k XB.out.lt)
  replace HB := Lib.hid (HB.out.trans (k.mono HB.out.size))
  clear k AW
  have x2 := XA.out.cell (i := 2) rfl
  have y2 := XB.out.cell (i := 2) rfl
  go_wp2_with fail
  clear x2 y2
  replace XA := Lib.hid XA.out.drew
  replace XB := Lib.hid XB.out.drew
  replace HB := Lib.hid HB.out.drew
  replace HA0 := Lib.hid (HA0.out.keep HB.out)
  replace HB0 := Lib.hid (HB0.out.keep HB.out)
  obtain ⟨S, hS⟩ : ∃ S, bs a.code = S := ⟨_, rfl⟩
  have HS := Lib.hid hS
  clear hS
  obtain ⟨BN, hBN⟩ : ∃ S, a.isNo = S := ⟨_, rfl⟩
  have HBN := Lib.hid hBN
  clear hBN
  refine Reg.start (fun w' => w'.cell? ⟨w.heap.size, 0, none⟩ = some (.int .i64 ah) ∧ w'.cell? ⟨w.heap.size, 1, none⟩ = some (.int .u64 al) ∧ w'.cell? ⟨w.heap.size, 2, none⟩ = some (.slice aa p ac) ∧ w'.cell? ⟨w.heap.size + 1, 0, none⟩ = some (.int .i64 bh) ∧ w'.cell? ⟨w.heap.size + 1, 1, none⟩ = some (.int .u64 bl) ∧ w'.cell? ⟨w.heap.size + 1, 2, none⟩ = some (.slice ba q bc)) (fun i => false) (by kernel_rfl) ⟨XA.out.cell rfl, XA.out.cell rfl, XA.out.cell rfl, XB.out.cell rfl, XB.out.cell rfl, XB.out.cell rfl⟩ (fun hHeld => ?_)
  generalize w1.drew = wd at *
  refine Reg.takeI 0 (v := ?_) rfl (by kernel_rfl) (by kernel_rfl) (by kernel_rfl) (by kernel_rfl) (fun _ _ _ h => h) (by rfl) ?_ hHeld ?_
  rotate_left 1
  · (intro w hSw; (try dsimp only at hSw); go_simp; try with_reducible rfl)
  try simp only [Act.put, List.setIfInBounds_toArray, List.set_cons_zero, List.set_cons_succ]
  refine Reg.takeI 2 (v := ?_) rfl (by kernel_rfl) (by kernel_rfl) (by kernel_rfl) (by kernel_rfl) (fun _ _ _ h => h) (by rfl) ?_ hHeld ?_
  rotate_left 1
  · (intro w hSw; (try dsimp only at hSw); go_simp; try with_reducible rfl)
  try simp only [Act.put, List.setIfInBounds_toArray, List.set_cons_zero, List.set_cons_succ]
  refine Reg.oneI 1 rfl (by kernel_rfl) (by rfl) (fun K hK => ?_)
  go_simp
  go_at_call 14
  refine (total_calls _ _ _ HA0.out LA.out).mono ?_
  rintro e w11 ⟨rfl, k⟩
  rw [HS.out]
  replace XA := Lib.hid (XA.out.below k XA.out.lt)
  replace XB := Lib.hid (XB.out.below k XB.out.lt)
  replace HB := Lib.hid (HB.out.trans (k.mono HB.out.size))
  replace HA0 := Lib.hid (HA0.out.keep k)
  replace HB0 := Lib.hid (HB0.out.keep k)
  clear k
  go_wp2_with fail
  refine hK.out _ _ (fun _ => ⟨XA.out.cell rfl, XA.out.cell rfl, XA.out.cell rfl, XB.out.cell rfl, XB.out.cell rfl, XB.out.cell rfl⟩) (fun hHeld => ?_)
  replace hHeld := hHeld (by first | rfl | trivial)
  clear hK K
  try simp only [Act.put, List.setIfInBounds_toArray, List.set_cons_zero, List.set_cons_succ]
  refine Reg.oneI 3 rfl (by kernel_rfl) (by rfl) (fun K hK => ?_)
  go_simp
  go_at_call 15
  refine (rtotal_calls _ _ _ HA0.out LA.out).mono ?_
  rintro e w13 ⟨rfl, k⟩
  rw [HS.out]
  replace XA := Lib.hid (XA.out.below k XA.out.lt)
  replace XB := Lib.hid (XB.out.below k XB.out.lt)
  replace HB := Lib.hid (HB.out.trans (k.mono HB.out.size))
  replace HA0 := Lib.hid (HA0.out.keep k)
  replace HB0 := Lib.hid (HB0.out.keep k)
  clear k
  go_wp2_with fail
  refine hK.out _ _ (fun _ => ⟨XA.out.cell rfl, XA.out.cell rfl, XA.out.cell rfl, XB.out.cell rfl, XB.out.cell rfl, XB.out.cell rfl⟩) (fun hHeld => ?_)
  replace hHeld := hHeld (by first | rfl | trivial)
  clear hK K
  try simp only [Act.put, List.setIfInBounds_toArray, List.set_cons_zero, List.set_cons_succ]
  refine Reg.takeI 4 (v := ?_) rfl (by kernel_rfl) (by kernel_rfl) (by kernel_rfl) (by kernel_rfl) (fun _ _ _ h => h) (by rfl) ?_ hHeld ?_
  rotate_left 1
  · (intro w hSw; (try dsimp only at hSw); go_simp; try with_reducible rfl)
  try simp only [Act.put, List.setIfInBounds_toArray, List.set_cons_zero, List.set_cons_succ]
  refine Reg.takeI 5 (v := ?_) rfl (by kernel_rfl) (by kernel_rfl) (by kernel_rfl) (by kernel_rfl) (fun _ _ _ h => h) (by rfl) ?_ hHeld ?_
  rotate_left 1
  · (intro w hSw; (try dsimp only at hSw); go_simp; try with_reducible rfl)
  try simp only [Act.put, List.setIfInBounds_toArray, List.set_cons_zero, List.set_cons_succ]
  refine Reg.takeI 6 (v := ?_) rfl (by kernel_rfl) (by kernel_rfl) (by kernel_rfl) (by kernel_rfl) (fun _ _ _ h => h) (by rfl) ?_ hHeld ?_
  rotate_left 1
  · (intro w hSw; (try dsimp only at hSw); go_simp; try with_reducible rfl)
  try simp only [Act.put, List.setIfInBounds_toArray, List.set_cons_zero, List.set_cons_succ]
  refine Reg.takeI 7 (v := ?_) rfl (by kernel_rfl) (by kernel_rfl) (by kernel_rfl) (by kernel_rfl) (fun _ _ _ h => h) (by rfl) ?_ hHeld ?_
  rotate_left 1
  · (intro w hSw; (try dsimp only at hSw); go_simp; try with_reducible rfl)
  try simp only [Act.put, List.setIfInBounds_toArray, List.set_cons_zero, List.set_cons_succ]
  refine Reg.takeI 9 (v := ?_) rfl (by kernel_rfl) (by kernel_rfl) (by kernel_rfl) (by kernel_rfl) (fun _ _ _ h => h) (by rfl) ?_ hHeld ?_
  rotate_left 1
  · (intro w hSw; (try dsimp only at hSw); go_simp; try with_reducible rfl)
  try simp only [Act.put, List.setIfInBounds_toArray, List.set_cons_zero, List.set_cons_succ]
  refine Reg.takeI 10 (v := ?_) rfl (by kernel_rfl) (by kernel_rfl) (by kernel_rfl) (by kernel_rfl) (fun _ _ _ h => h) (by rfl) ?_ hHeld ?_
  rotate_left 1
  · (intro w hSw; (try dsimp only at hSw); go_simp; try with_reducible rfl)
  try simp only [Act.put, List.setIfInBounds_toArray, List.set_cons_zero, List.set_cons_succ]
  refine Reg.oneI 8 rfl (by kernel_rfl) (by rfl) (fun K hK => ?_)
  go_simp
  go_at_call 17
  refine (add_calls _ _ _ _ _ HA0.out HB0.out LA.out LB.out).mono ?_
  rintro e w18 ⟨⟨ABv, rfl, ABh⟩, k⟩
  have AB := Lib.hid ABh
  clear ABh
  replace XA := Lib.hid (XA.out.below k XA.out.lt)
  replace XB := Lib.hid (XB.out.below k XB.out.lt)
  replace HB := Lib.hid (HB.out.trans (k.mono HB.out.size))
  replace HA0 := Lib.hid (HA0.out.keep k)
  replace HB0 := Lib.hid (HB0.out.keep k)
  clear k
  go_wp2_with fail
  refine hK.out _ _ (fun _ => ⟨XA.out.cell rfl, XA.out.cell rfl, XA.out.cell rfl, XB.out.cell rfl, XB.out.cell rfl, XB.out.cell rfl⟩) (fun hHeld => ?_)
  replace hHeld := hHeld (by first | rfl | trivial)
  clear hK K
  try simp only [Act.put, List.setIfInBounds_toArray, List.set_cons_zero, List.set_cons_succ]
  refine Reg.oneI 11 rfl (by kernel_rfl) (by rfl) (fun K hK => ?_)
  go_simp
  go_at_call 18
  refine (radd17_calls _ _ _ _ _ HA0.out HB0.out LA.out LB.out).mono ?_
  rintro e w21 ⟨⟨AB2v, rfl, AB2h⟩, k⟩
  have AB2 := Lib.hid AB2h
  clear AB2h
  replace XA := Lib.hid (XA.out.below k XA.out.lt)
  replace XB := Lib.hid (XB.out.below k XB.out.lt)
  replace HB := Lib.hid (HB.out.trans (k.mono HB.out.size))
  replace HA0 := Lib.hid (HA0.out.keep k)
  replace HB0 := Lib.hid (HB0.out.keep k)
  replace AB := Lib.hid (AB.out.keep k)
  clear k
  go_wp2_with fail
  refine hK.out _ _ (fun _ => ⟨XA.out.cell rfl, XA.out.cell rfl, XA.out.cell rfl, XB.out.cell rfl, XB.out.cell rfl, XB.out.cell rfl⟩) (fun hHeld => ?_)
  replace hHeld := hHeld (by first | rfl | trivial)
  clear hK K
  try simp only [Act.put, List.setIfInBounds_toArray, List.set_cons_zero, List.set_cons_succ]
  refine Reg.oneI 12 rfl (by kernel_rfl) (by rfl) (fun K hK => ?_)
  go_simp
  go_at_call 16
  refine (same_calls _ _ _ _ AB.out AB2.out).mono ?_
  rintro e w22 ⟨rfl, k⟩
  replace XA := Lib.hid (XA.out.below k XA.out.lt)
  replace XB := Lib.hid (XB.out.below k XB.out.lt)
  replace HB := Lib.hid (HB.out.trans (k.mono HB.out.size))
  replace HA0 := Lib.hid (HA0.out.keep k)
  replace HB0 := Lib.hid (HB0.out.keep k)
  clear k
  go_wp2_with fail
  refine hK.out _ _ (fun _ => ⟨XA.out.cell rfl, XA.out.cell rfl, XA.out.cell rfl, XB.out.cell rfl, XB.out.cell rfl, XB.out.cell rfl⟩) (fun hHeld => ?_)
  replace hHeld := hHeld (by first | rfl | trivial)
  clear hK K
  try simp only [Act.put, List.setIfInBounds_toArray, List.set_cons_zero, List.set_cons_succ]
  refine Reg.takeI 13 (v := ?_) rfl (by kernel_rfl) (by kernel_rfl) (by kernel_rfl) (by kernel_rfl) (fun _ _ _ h => h) (by rfl) ?_ hHeld ?_
  rotate_left 1
  · (intro w hSw; (try dsimp only at hSw); go_simp; try with_reducible rfl)
  try simp only [Act.put, List.setIfInBounds_toArray, List.set_cons_zero, List.set_cons_succ]
  refine Reg.takeI 14 (v := ?_) rfl (by kernel_rfl) (by kernel_rfl) (by kernel_rfl) (by kernel_rfl) (fun _ _ _ h => h) (by rfl) ?_ hHeld ?_
  rotate_left 1
  · (intro w hSw; (try dsimp only at hSw); go_simp; try with_reducible rfl)
  try simp only [Act.put, List.setIfInBounds_toArray, List.set_cons_zero, List.set_cons_succ]
  refine Reg.takeI 15 (v := ?_) rfl (by kernel_rfl) (by kernel_rfl) (by kernel_rfl) (by kernel_rfl) (fun _ _ _ h => h) (by rfl) ?_ hHeld ?_
  rotate_left 1
  · (intro w hSw; (try dsimp only at hSw); go_simp; try with_reducible rfl)
  try simp only [Act.put, List.setIfInBounds_toArray, List.set_cons_zero, List.set_cons_succ]
  refine Reg.takeI 16 (v := ?_) rfl (by kernel_rfl) (by kernel_rfl) (by kernel_rfl) (by kernel_rfl) (fun _ _ _ h => h) (by rfl) ?_ hHeld ?_
  rotate_left 1
  · (intro w hSw; (try dsimp only at hSw); go_simp; try with_reducible rfl)
  try simp only [Act.put, List.setIfInBounds_toArray, List.set_cons_zero, List.set_cons_succ]
  refine Reg.takeI 18 (v := ?_) rfl (by kernel_rfl) (by kernel_rfl) (by kernel_rfl) (by kernel_rfl) (fun _ _ _ h => h) (by rfl) ?_ hHeld ?_
  rotate_left 1
  · (intro w hSw; (try dsimp only at hSw); go_simp; try with_reducible rfl)
  try simp only [Act.put, List.setIfInBounds_toArray, List.set_cons_zero, List.set_cons_succ]
  refine Reg.oneI 17 rfl (by kernel_rfl) (by rfl) (fun K hK => ?_)
  go_simp
  go_at_call 19
  refine (isNothing_calls _ _ _ HA0.out).mono ?_
  rintro e w27 ⟨rfl, k⟩
  rw [HBN.out]
  replace XA := Lib.hid (XA.out.below k XA.out.lt)
  replace XB := Lib.hid (XB.out.below k XB.out.lt)
  replace HB := Lib.hid (HB.out.trans (k.mono HB.out.size))
  replace HA0 := Lib.hid (HA0.out.keep k)
  replace HB0 := Lib.hid (HB0.out.keep k)
  clear k
  go_wp2_with fail
  refine hK.out _ _ (fun _ => ⟨XA.out.cell rfl, XA.out.cell rfl, XA.out.cell rfl, XB.out.cell rfl, XB.out.cell rfl, XB.out.cell rfl⟩) (fun hHeld => ?_)
  replace hHeld := hHeld (by first | rfl | trivial)
  clear hK K
  try simp only [Act.put, List.setIfInBounds_toArray, List.set_cons_zero, List.set_cons_succ]
  refine Reg.oneI 19 rfl (by kernel_rfl) (by rfl) (fun K hK => ?_)
  go_simp
  go_at_call 20
  refine (risNothing_calls _ _ _ HA0.out).mono ?_
  rintro e w29 ⟨rfl, k⟩
  rw [HBN.out]
  replace XA := Lib.hid (XA.out.below k XA.out.lt)
  replace XB := Lib.hid (XB.out.below k XB.out.lt)
  replace HB := Lib.hid (HB.out.trans (k.mono HB.out.size))
  replace HA0 := Lib.hid (HA0.out.keep k)
  replace HB0 := Lib.hid (HB0.out.keep k)
  clear k
  go_wp2_with fail
  refine hK.out _ _ (fun _ => ⟨XA.out.cell rfl, XA.out.cell rfl, XA.out.cell rfl, XB.out.cell rfl, XB.out.cell rfl, XB.out.cell rfl⟩) (fun hHeld => ?_)
  replace hHeld := hHeld (by first | rfl | trivial)
  clear hK K
  try simp only [Act.put, List.setIfInBounds_toArray, List.set_cons_zero, List.set_cons_succ]
  refine Reg.takeI 20 (v := ?_) rfl (by kernel_rfl) (by kernel_rfl) (by kernel_rfl) (by kernel_rfl) (fun _ _ _ h => h) (by rfl) ?_ hHeld ?_
  rotate_left 1
  · (intro w hSw; (try dsimp only at hSw); go_simp; try with_reducible rfl)
  try simp only [Act.put, List.setIfInBounds_toArray, List.set_cons_zero, List.set_cons_succ]
  refine Reg.takeI 21 (v := ?_) rfl (by kernel_rfl) (by kernel_rfl) (by kernel_rfl) (by kernel_rfl) (fun _ _ _ h => h) (by rfl) ?_ hHeld ?_
  rotate_left 1
  · (intro w hSw; (try dsimp only at hSw); go_simp; try with_reducible rfl)
  try simp only [Act.put, List.setIfInBounds_toArray, List.set_cons_zero, List.set_cons_succ]
  refine Reg.doneI (by kernel_rfl) ?_
  clear XA XB HA0 HB0 LA LB HS HBN
  go_wp2_with fail
  refine (RC.out _).mono ?_
  rintro e w40 ⟨⟨vd, rfl, hD⟩, k⟩
  replace HB := Lib.hid (HB.out.trans (k.mono HB.out.size))
  clear k RC
  have NC := Lib.hid (fun wx => nothing_calls n wx)
  have NI := Lib.hid (nothing_no n)
  have hmax := run_max2 Try.prog 3 n 0
  have hmin := run_min2i Try.prog 3 (max n 0) 2
  have hcn : ((nothing n).sums.length : Int) = min (max n 0) 2 := by show ((List.replicate (cnt n) noW).length : Int) = _; rw [List.length_replicate]; unfold cnt; omega
  obtain ⟨u, hu⟩ : ∃ u, (nothing n).sums.length = u := ⟨_, rfl⟩
  rw [hu] at hcn
  have HU := Lib.hid hu
  obtain ⟨mm, hmm⟩ : ∃ m, min (max n 0) 2 = m := ⟨_, rfl⟩
  rw [hmm] at hcn hmin
  have hcn2 : ((u : Int) == mm) = true := by simp; exact hcn
  clear hu hcn hmm
  by_cases g1 : n < 0
  · have hro : rtOut s n = (noT, 3) := by unfold rtOut; rw [if_neg (by unfold rtOk; omega)]
    rw [hro] at hD ⊢
    obtain ⟨da, dc, rfl⟩ := hD.open
    obtain ⟨dh, hdh⟩ : ∃ x, noT.count.hi = x := ⟨_, rfl⟩
    obtain ⟨dl, hdl⟩ : ∃ x, noT.count.lo = x := ⟨_, rfl⟩
    obtain ⟨r, hr⟩ : ∃ x, noT.sums.length = x := ⟨_, rfl⟩
    rw [hdh, hdl, hr] at hD ⊢
    have XD := Lib.hid (Wide.new_at rfl : Row (w40.alloc (.cells #[.int .i64 dh, .int .u64 dl, .slice da r dc] 27)) w40.heap.size 27 [.int .i64 dh, .int .u64 dl, .slice da r dc])
    have HB := Lib.hid (HB.out.alloc HB.out.size (.cells #[.int .i64 dh, .int .u64 dl, .slice da r dc] 27))
    have HD := Lib.hid (hD.keep ((Below.refl _ _).alloc (Nat.le_refl _) (.cells #[.int .i64 dh, .int .u64 dl, .slice da r dc] 27)))
    have d0 := XD.out.cell (i := 0) rfl
    have d1 := XD.out.cell (i := 1) rfl
    have d2 := XD.out.cell (i := 2) rfl
    clear hD hdh hdl hr XD
    go_wp2_with fail
    refine (same_calls noT _ _ _ HD.out (noT_is _)).mono ?_
    rintro e w41 ⟨rfl, k⟩
    replace HB := Lib.hid (HB.out.trans (k.mono HB.out.size))
    clear k d0 d1 d2 HD
    go_wp2_with fail
    refine (NC.out _).mono ?_
    rintro e w42 ⟨⟨ve, rfl, hE⟩, k⟩
    obtain ⟨za, zc, rfl⟩ := hE.open
    rw [HU.out, show (nothing n).count.hi = 0 from rfl, show (nothing n).count.lo = 0 from rfl] at hE ⊢
    have B3 := HB.out.trans (k.mono HB.out.size)
    replace HB := Lib.hid (B3.alloc B3.size (.cells #[.int .i64 0, .int .u64 0, .slice za u zc] 27))
    have XE := Lib.hid (Wide.new_at rfl : Row (w42.alloc (.cells #[.int .i64 0, .int .u64 0, .slice za u zc] 27)) w42.heap.size 27 [.int .i64 0, .int .u64 0, .slice za u zc])
    have HE := Lib.hid (hE.keep ((Below.refl _ _).alloc (Nat.le_refl _) (.cells #[.int .i64 0, .int .u64 0, .slice za u zc] 27)))
    have e0 := XE.out.cell (i := 0) rfl
    have e1 := XE.out.cell (i := 1) rfl
    have e2 := XE.out.cell (i := 2) rfl
    clear k hE B3 NC
    go_wp2_with fail
    refine (isNothing_calls _ _ _ HE.out).mono ?_
    rintro e w43 ⟨rfl, k⟩
    rw [NI.out]
    replace HB := Lib.hid (HB.out.trans (k.mono HB.out.size))
    replace e2 := (XE.out.below k XE.out.lt).cell (i := 2) rfl
    clear k e0 e1 XE HE
    go_wp2_with fail
    go_ret
    exact ⟨rfl, HB.out⟩
  have g1' : decide (n < 0) = false := by simp; omega
  by_cases g2 : 2 < n
  · have hro : rtOut s n = (noT, 3) := by unfold rtOut; rw [if_neg (by unfold rtOk; omega)]
    rw [hro] at hD ⊢
    obtain ⟨da, dc, rfl⟩ := hD.open
    obtain ⟨dh, hdh⟩ : ∃ x, noT.count.hi = x := ⟨_, rfl⟩
    obtain ⟨dl, hdl⟩ : ∃ x, noT.count.lo = x := ⟨_, rfl⟩
    obtain ⟨r, hr⟩ : ∃ x, noT.sums.length = x := ⟨_, rfl⟩
    rw [hdh, hdl, hr] at hD ⊢
    have XD := Lib.hid (Wide.new_at rfl : Row (w40.alloc (.cells #[.int .i64 dh, .int .u64 dl, .slice da r dc] 27)) w40.heap.size 27 [.int .i64 dh, .int .u64 dl, .slice da r dc])
    have HB := Lib.hid (HB.out.alloc HB.out.size (.cells #[.int .i64 dh, .int .u64 dl, .slice da r dc] 27))
    have HD := Lib.hid (hD.keep ((Below.refl _ _).alloc (Nat.le_refl _) (.cells #[.int .i64 dh, .int .u64 dl, .slice da r dc] 27)))
    have d0 := XD.out.cell (i := 0) rfl
    have d1 := XD.out.cell (i := 1) rfl
    have d2 := XD.out.cell (i := 2) rfl
    clear hD hdh hdl hr XD
    go_wp2_with fail
    refine (same_calls noT _ _ _ HD.out (noT_is _)).mono ?_
    rintro e w41 ⟨rfl, k⟩
    replace HB := Lib.hid (HB.out.trans (k.mono HB.out.size))
    clear k d0 d1 d2 HD
    go_wp2_with fail
    refine (NC.out _).mono ?_
    rintro e w42 ⟨⟨ve, rfl, hE⟩, k⟩
    obtain ⟨za, zc, rfl⟩ := hE.open
    rw [HU.out, show (nothing n).count.hi = 0 from rfl, show (nothing n).count.lo = 0 from rfl] at hE ⊢
    have B3 := HB.out.trans (k.mono HB.out.size)
    replace HB := Lib.hid (B3.alloc B3.size (.cells #[.int .i64 0, .int .u64 0, .slice za u zc] 27))
    have XE := Lib.hid (Wide.new_at rfl : Row (w42.alloc (.cells #[.int .i64 0, .int .u64 0, .slice za u zc] 27)) w42.heap.size 27 [.int .i64 0, .int .u64 0, .slice za u zc])
    have HE := Lib.hid (hE.keep ((Below.refl _ _).alloc (Nat.le_refl _) (.cells #[.int .i64 0, .int .u64 0, .slice za u zc] 27)))
    have e0 := XE.out.cell (i := 0) rfl
    have e1 := XE.out.cell (i := 1) rfl
    have e2 := XE.out.cell (i := 2) rfl
    clear k hE B3 NC
    go_wp2_with fail
    refine (isNothing_calls _ _ _ HE.out).mono ?_
    rintro e w43 ⟨rfl, k⟩
    rw [NI.out]
    replace HB := Lib.hid (HB.out.trans (k.mono HB.out.size))
    replace e2 := (XE.out.below k XE.out.lt).cell (i := 2) rfl
    clear k e0 e1 XE HE
    go_wp2_with fail
    go_ret
    exact ⟨rfl, HB.out⟩
  have g2' : decide (2 < n) = false := by simp; omega
  have v1 : IntKind.i64.wrap (16 * n) = 16 * n := by rw [IntKind.wrap_i64]; omega
  have v2 : IntKind.i64.wrap (16 + 16 * n) = 16 + 16 * n := by rw [IntKind.wrap_i64]; omega
  by_cases g3 : (s.size : Int) = 16 + 16 * n
  rotate_left 1
  · have g3' : ((s.size : Int) != 16 + 16 * n) = true := by simp; omega
    have hro : rtOut s n = (noT, 3) := by unfold rtOut; rw [if_neg (by unfold rtOk; omega)]
    rw [hro] at hD ⊢
    obtain ⟨da, dc, rfl⟩ := hD.open
    obtain ⟨dh, hdh⟩ : ∃ x, noT.count.hi = x := ⟨_, rfl⟩
    obtain ⟨dl, hdl⟩ : ∃ x, noT.count.lo = x := ⟨_, rfl⟩
    obtain ⟨r, hr⟩ : ∃ x, noT.sums.length = x := ⟨_, rfl⟩
    rw [hdh, hdl, hr] at hD ⊢
    have XD := Lib.hid (Wide.new_at rfl : Row (w40.alloc (.cells #[.int .i64 dh, .int .u64 dl, .slice da r dc] 27)) w40.heap.size 27 [.int .i64 dh, .int .u64 dl, .slice da r dc])
    have HB := Lib.hid (HB.out.alloc HB.out.size (.cells #[.int .i64 dh, .int .u64 dl, .slice da r dc] 27))
    have HD := Lib.hid (hD.keep ((Below.refl _ _).alloc (Nat.le_refl _) (.cells #[.int .i64 dh, .int .u64 dl, .slice da r dc] 27)))
    have d0 := XD.out.cell (i := 0) rfl
    have d1 := XD.out.cell (i := 1) rfl
    have d2 := XD.out.cell (i := 2) rfl
    clear hD hdh hdl hr XD
    go_wp2_with fail
    refine (same_calls noT _ _ _ HD.out (noT_is _)).mono ?_
    rintro e w41 ⟨rfl, k⟩
    replace HB := Lib.hid (HB.out.trans (k.mono HB.out.size))
    clear k d0 d1 d2 HD
    go_wp2_with fail
    refine (NC.out _).mono ?_
    rintro e w42 ⟨⟨ve, rfl, hE⟩, k⟩
    obtain ⟨za, zc, rfl⟩ := hE.open
    rw [HU.out, show (nothing n).count.hi = 0 from rfl, show (nothing n).count.lo = 0 from rfl] at hE ⊢
    have B3 := HB.out.trans (k.mono HB.out.size)
    replace HB := Lib.hid (B3.alloc B3.size (.cells #[.int .i64 0, .int .u64 0, .slice za u zc] 27))
    have XE := Lib.hid (Wide.new_at rfl : Row (w42.alloc (.cells #[.int .i64 0, .int .u64 0, .slice za u zc] 27)) w42.heap.size 27 [.int .i64 0, .int .u64 0, .slice za u zc])
    have HE := Lib.hid (hE.keep ((Below.refl _ _).alloc (Nat.le_refl _) (.cells #[.int .i64 0, .int .u64 0, .slice za u zc] 27)))
    have e0 := XE.out.cell (i := 0) rfl
    have e1 := XE.out.cell (i := 1) rfl
    have e2 := XE.out.cell (i := 2) rfl
    clear k hE B3 NC
    go_wp2_with fail
    refine (isNothing_calls _ _ _ HE.out).mono ?_
    rintro e w43 ⟨rfl, k⟩
    rw [NI.out]
    replace HB := Lib.hid (HB.out.trans (k.mono HB.out.size))
    replace e2 := (XE.out.below k XE.out.lt).cell (i := 2) rfl
    clear k e0 e1 XE HE
    go_wp2_with fail
    go_ret
    exact ⟨rfl, HB.out⟩
  have g3' : ((s.size : Int) != 16 + 16 * n) = false := by simp; omega
  obtain ⟨t, ht, hc, hl⟩ := rt_code (show rtOk s n by unfold rtOk; omega)
  rw [ht] at hD ⊢
  have HC := Lib.hid hc
  have HL := hl
  clear hc ht hl
  obtain ⟨da, dc, rfl⟩ := hD.open
  obtain ⟨dh, hdh⟩ : ∃ x, t.count.hi = x := ⟨_, rfl⟩
  obtain ⟨dl, hdl⟩ : ∃ x, t.count.lo = x := ⟨_, rfl⟩
  obtain ⟨r, hr⟩ : ∃ x, t.sums.length = x := ⟨_, rfl⟩
  rw [hdh, hdl, hr] at hD ⊢
  have XD := Lib.hid (Wide.new_at rfl : Row (w40.alloc (.cells #[.int .i64 dh, .int .u64 dl, .slice da r dc] 27)) w40.heap.size 27 [.int .i64 dh, .int .u64 dl, .slice da r dc])
  have HB := Lib.hid (HB.out.alloc HB.out.size (.cells #[.int .i64 dh, .int .u64 dl, .slice da r dc] 27))
  have HD := Lib.hid (hD.keep ((Below.refl _ _).alloc (Nat.le_refl _) (.cells #[.int .i64 dh, .int .u64 dl, .slice da r dc] 27)))
  have d0 := XD.out.cell (i := 0) rfl
  have d1 := XD.out.cell (i := 1) rfl
  have d2 := XD.out.cell (i := 2) rfl
  clear hD hdh hdl hr XD
  go_wp2_with fail
  refine (rtotal_calls _ _ _ HD.out HL).mono ?_
  rintro e w41 ⟨rfl, k⟩
  rw [HC.out]
  replace HB := Lib.hid (HB.out.trans (k.mono HB.out.size))
  clear k d0 d1 d2 HD
  go_wp2_with fail
  refine (NC.out _).mono ?_
  rintro e w42 ⟨⟨ve, rfl, hE⟩, k⟩
  obtain ⟨za, zc, rfl⟩ := hE.open
  rw [HU.out, show (nothing n).count.hi = 0 from rfl, show (nothing n).count.lo = 0 from rfl] at hE ⊢
  have B3 := HB.out.trans (k.mono HB.out.size)
  replace HB := Lib.hid (B3.alloc B3.size (.cells #[.int .i64 0, .int .u64 0, .slice za u zc] 27))
  have XE := Lib.hid (Wide.new_at rfl : Row (w42.alloc (.cells #[.int .i64 0, .int .u64 0, .slice za u zc] 27)) w42.heap.size 27 [.int .i64 0, .int .u64 0, .slice za u zc])
  have HE := Lib.hid (hE.keep ((Below.refl _ _).alloc (Nat.le_refl _) (.cells #[.int .i64 0, .int .u64 0, .slice za u zc] 27)))
  have e0 := XE.out.cell (i := 0) rfl
  have e1 := XE.out.cell (i := 1) rfl
  have e2 := XE.out.cell (i := 2) rfl
  clear k hE B3 NC
  go_wp2_with fail
  refine (isNothing_calls _ _ _ HE.out).mono ?_
  rintro e w43 ⟨rfl, k⟩
  rw [NI.out]
  replace HB := Lib.hid (HB.out.trans (k.mono HB.out.size))
  replace e2 := (XE.out.below k XE.out.lt).cell (i := 2) rfl
  clear k e0 e1 XE HE
  go_wp2_with fail
  go_ret
  exact ⟨rfl, HB.out⟩
theorem totals_row (cs : List Value) (x : _) (ds : List Value) (y : _) (s : ByteArray) (n : Int) (W : World) (h1 : totC.R W cs x) (h2 : totC.R W ds y) (hs : s.size ≤ 140737488351232) (hn : (Lit.int .i64 n).wf = true) :
    Calls Try.prog 3 #[.agg cs.toArray, .agg ds.toArray, .string s, .int .i64 n] W fun e w' => e = .returned (.bool true) ∧ Below W.heap.size W w' := by
  obtain ⟨a, ha⟩ := tot_of h1
  obtain ⟨b, hb⟩ := tot_of h2
  simp [Lit.wf, IntKind.min, IntKind.max, IntKind.signed, IntKind.bits] at hn
  exact totals_calls _ _ a b s n W ha hb hs (by omega) (by omega)
end Go.Proofs.Ytcfjooeagfollaa.Plan
