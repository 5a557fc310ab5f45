/- The law PlanSums. Printed by plan_sums.py -/
import Derived.Test.YtcfjooeagfollaaPlanK
namespace Go.Proofs.Ytcfjooeagfollaa.Plan
open Go.RowKit Go.Proofs.Ytcfjooeagfollaa.Mem Go.Proofs.Ytcfjooeagfollaa.Bytes Go.Proofs.Ytcfjooeagfollaa.Num Go.Proofs.Ytcfjooeagfollaa.Wide
set_option linter.unusedSimpArgs false
set_option linter.unusedVariables false
set_option maxRecDepth 20000

theorem zip_comm : ∀ (l m : List Wd), List.zipWith Wd.add l m = List.zipWith Wd.add m l
  | [], [] => rfl
  | [], _ :: _ => rfl
  | _ :: _, [] => rfl
  | a :: l, b :: m => by rw [List.zipWith_cons_cons, List.zipWith_cons_cons, Wd.add_comm, zip_comm l m]
theorem zip_assoc : ∀ (l m n : List Wd), List.zipWith Wd.add (List.zipWith Wd.add l m) n = List.zipWith Wd.add l (List.zipWith Wd.add m n)
  | [], _, _ => by simp
  | _ :: _, [], _ => by simp
  | _ :: _, _ :: _, [] => by simp
  | a :: l, b :: m, c :: n => by rw [List.zipWith_cons_cons, List.zipWith_cons_cons, List.zipWith_cons_cons, List.zipWith_cons_cons, Wd.add_assoc, zip_assoc l m n]
theorem zip_no : ∀ (l : List Wd), (∀ s ∈ l, s.fits) → List.zipWith Wd.add l (List.replicate l.length noW) = l
  | [], _ => rfl
  | a :: l, h => by rw [List.length_cons, List.replicate_succ, List.zipWith_cons_cons, Wd.add_no (h a List.mem_cons_self), zip_no l (fun s hs => h s (List.mem_cons_of_mem _ hs))]
theorem tadd_comm (a b : Tot) : a.add b = b.add a := by unfold Tot.add; rw [Wd.add_comm, zip_comm]
theorem tadd_assoc (a b c : Tot) : (a.add b).add c = a.add (b.add c) := by unfold Tot.add; rw [Wd.add_assoc, zip_assoc]
theorem tadd_no {a : Tot} {n : Nat} (h : a.fits) (hn : a.sums.length = n ∧ n ≤ 2) : a.add (nothing (n : Int)) = a := by
  obtain ⟨c, l⟩ := a
  obtain ⟨rfl, h2⟩ := hn
  simp only at h2
  have e : cnt (l.length : Int) = l.length := by unfold cnt; omega
  unfold Tot.add nothing
  rw [e, Wd.add_no h.1, zip_no l h.2]
theorem HasT.open {w : World} {v : Value} {t : Tot} (h : HasT w v t) : ∃ a c, v = .agg #[.int .i64 t.count.hi, .int .u64 t.count.lo, .slice a t.sums.length c] := by
  obtain ⟨⟨a, c, rfl, _⟩, _⟩ := h
  exact ⟨a, c, rfl⟩

set_option maxHeartbeats 8000000 in
theorem sums_calls (va vb vc : Value) (a b c : Tot) (w : World) (hA : HasT w va a) (hB : HasT w vb b) (hC : HasT w vc c) :
    Calls Try.prog 4 #[va, vb, vc] w fun e w' => e = .returned (.bool true) ∧ Below w.heap.size w w' := by
  obtain ⟨aa, ac, rfl⟩ := hA.open
  obtain ⟨ba, bc, rfl⟩ := hB.open
  obtain ⟨ca, cc, rfl⟩ := hC.open
  have AW := Lib.hid awake_calls
  have la := hA.2.2
  have lb := hB.2.2
  have lc := hC.2.2
  obtain ⟨n, hn⟩ : ∃ n, a.sums.length = n := ⟨_, rfl⟩
  obtain ⟨m, hm⟩ : ∃ m, b.sums.length = m := ⟨_, rfl⟩
  obtain ⟨q, hq⟩ : ∃ q, c.sums.length = q := ⟨_, rfl⟩
  rw [hn] at la hA ⊢
  rw [hm] at lb hB ⊢
  rw [hq] at lc hC ⊢
  obtain ⟨ah, hah⟩ : ∃ x, a.count.hi = x := ⟨_, rfl⟩
  obtain ⟨al, hal⟩ : ∃ x, a.count.lo = x := ⟨_, rfl⟩
  obtain ⟨bh, hbh⟩ : ∃ x, b.count.hi = x := ⟨_, rfl⟩
  obtain ⟨bl, hbl⟩ : ∃ x, b.count.lo = x := ⟨_, rfl⟩
  obtain ⟨ch, hch⟩ : ∃ x, c.count.hi = x := ⟨_, rfl⟩
  obtain ⟨cl, hcl⟩ : ∃ x, c.count.lo = x := ⟨_, rfl⟩
  rw [hah, hal] at hA ⊢
  rw [hbh, hbl] at hB ⊢
  rw [hch, hcl] at hC ⊢
  have HAH := Lib.hid (And.intro hah hal)
  clear hah hal hbh hbl hch hcl
  have hX : Row (w.alloc (.cells #[.int .i64 ah, .int .u64 al, .slice aa n ac] 27)) w.heap.size 27 [.int .i64 ah, .int .u64 al, .slice aa n ac] := Wide.new_at rfl
  have hX2 := hX.alloc (.cells #[.int .i64 bh, .int .u64 bl, .slice ba m bc] 27)
  have hY2 : Row ((w.alloc (.cells #[.int .i64 ah, .int .u64 al, .slice aa n ac] 27)).alloc (.cells #[.int .i64 bh, .int .u64 bl, .slice ba m bc] 27)) (w.heap.size + 1) 27 [.int .i64 bh, .int .u64 bl, .slice ba m bc] := Wide.new_at (by simp)
  have b2 : Below w.heap.size w ((w.alloc (.cells #[.int .i64 ah, .int .u64 al, .slice aa n ac] 27)).alloc (.cells #[.int .i64 bh, .int .u64 bl, .slice ba m bc] 27)) := ((Below.refl _ _).alloc (Nat.le_refl _) _).alloc (by simp) _
  have hX3 := hX2.alloc (.cells #[.int .i64 ch, .int .u64 cl, .slice ca q cc] 27)
  have hY3 := hY2.alloc (.cells #[.int .i64 ch, .int .u64 cl, .slice ca q cc] 27)
  have hZ3 : Row (((w.alloc (.cells #[.int .i64 ah, .int .u64 al, .slice aa n ac] 27)).alloc (.cells #[.int .i64 bh, .int .u64 bl, .slice ba m bc] 27)).alloc (.cells #[.int .i64 ch, .int .u64 cl, .slice ca q cc] 27)) (w.heap.size + 1 + 1) 27 [.int .i64 ch, .int .u64 cl, .slice ca q cc] := Wide.new_at (by simp)
  have b3 := b2.alloc (by simp; omega) (.cells #[.int .i64 ch, .int .u64 cl, .slice ca q cc] 27)
  have XA := Lib.hid hX3
  have XB := Lib.hid hY3
  have XC := Lib.hid hZ3
  have HB := Lib.hid b3
  have HA0 := Lib.hid hA
  have HB0 := Lib.hid hB
  have HC0 := Lib.hid hC
  clear hX hX2 hY2 b2 hX3 hY3 hZ3 b3 hA hB hC
  by_cases c1 : 2 < n
  · have c1' : (2 : Int) < (n : Int) := by omega
    go_enter Try.func4, Try.ntmps4
    go_wp2_with fail
    refine (AW.out _).mono ?_
    rintro e w1 ⟨rfl, k⟩
    have B1 := Lib.hid (HB.out.trans (k.mono HB.out.size))
    have x2 := (XA.out.below k XA.out.lt).cell (i := 2) rfl
    clear k
    go_wp2_with fail
    go_ret
    exact ⟨rfl, B1.out⟩
  have c1' : decide ((2 : Int) < (n : Int)) = false := by simp; omega
  by_cases c2 : m = n
  rotate_left 1
  · have c2' : ((m : Int) != (n : Int)) = true := by simp; omega
    go_enter Try.func4, Try.ntmps4
    go_wp2_with fail
    refine (AW.out _).mono ?_
    rintro e w1 ⟨rfl, k⟩
    have B1 := Lib.hid (HB.out.trans (k.mono HB.out.size))
    have x2 := (XA.out.below k XA.out.lt).cell (i := 2) rfl
    have y2 := (XB.out.below k XB.out.lt).cell (i := 2) rfl
    clear k
    go_wp2_with fail
    go_ret
    exact ⟨rfl, B1.out⟩
  replace c2 := c2.symm
  subst c2
  by_cases c3 : q = n
  rotate_left 1
  · have c3' : ((q : Int) != (n : Int)) = true := by simp; omega
    go_enter Try.func4, Try.ntmps4
    go_wp2_with fail
    refine (AW.out _).mono ?_
    rintro e w1 ⟨rfl, k⟩
    have B1 := Lib.hid (HB.out.trans (k.mono HB.out.size))
    have x2 := (XA.out.below k XA.out.lt).cell (i := 2) rfl
    have y2 := (XB.out.below k XB.out.lt).cell (i := 2) rfl
    have z2 := (XC.out.below k XC.out.lt).cell (i := 2) rfl
    clear k
    go_wp2_with fail
    go_ret
    exact ⟨rfl, B1.out⟩
  replace c3 := c3.symm
  subst c3
  have L3 := Lib.hid (show a.sums.length = n ∧ n ≤ 2 ∧ b.sums.length = n ∧ c.sums.length = n from ⟨hn, by omega, hm, hq⟩)
  have CN : cnt (n : Int) ≤ 2 := by unfold cnt; omega
  have hro := rt_total HA0.out.2.1 (by rw [hn]; omega)
  rw [hn] at hro
  have RC := Lib.hid (fun wx => readTotal_calls (bs a.code) (n : Int) (by omega) (by omega) wx)
  rw [hro] at RC
  obtain ⟨S, hS⟩ : ∃ S, bs a.code = S := ⟨_, rfl⟩
  rw [hS] at RC
  have HS := Lib.hid hS
  clear hS hro hn hm hq c1
  go_enter Try.func4, Try.ntmps4
  go_wp2_with fail
  refine (AW.out _).mono ?_
  rintro e w1 ⟨rfl, k⟩
  have XA := Lib.hid (XA.out.below k XA.out.lt)
  have XB := Lib.hid (XB.out.below k XB.out.lt)
  have XC := Lib.hid (XC.out.below k XC.out.lt)
  have HB := Lib.hid (HB.out.trans (k.mono HB.out.size))
  clear k
  have x0 := XA.out.cell (i := 0) rfl
  have x1 := XA.out.cell (i := 1) rfl
  have x2 := XA.out.cell (i := 2) rfl
  have y2 := XB.out.cell (i := 2) rfl
  have z2 := XC.out.cell (i := 2) rfl
  have HA1 := Lib.hid (HA0.out.keep HB.out)
  have TC := Lib.hid (total_calls a _ w1 HA1.out (by have := L3.out; omega))
  rw [HS.out] at TC
  go_wp2_with fail
  clear x0 x1 x2 y2 z2
  refine TC.out.mono ?_
  rintro e w2 ⟨rfl, k⟩
  have XA := Lib.hid (XA.out.below k XA.out.lt)
  have XB := Lib.hid (XB.out.below k XB.out.lt)
  have XC := Lib.hid (XC.out.below k XC.out.lt)
  have HB := Lib.hid (HB.out.trans (k.mono HB.out.size))
  clear k TC HA1
  go_wp2_with fail
  refine (RC.out _).mono ?_
  rintro e w3 ⟨⟨vd, rfl, hD⟩, k⟩
  obtain ⟨da, dc, rfl⟩ := hD.open
  rw [HAH.out.1, HAH.out.2, L3.out.1] at hD ⊢
  have XD := Lib.hid ((Wide.new_at rfl : Row (w3.alloc (.cells #[.int .i64 ah, .int .u64 al, .slice da n dc] 27)) w3.heap.size 27 [.int .i64 ah, .int .u64 al, .slice da n dc]).drew)
  have XA := Lib.hid (((XA.out.below k XA.out.lt).alloc (.cells #[.int .i64 ah, .int .u64 al, .slice da n dc] 27)).drew)
  have XB := Lib.hid (((XB.out.below k XB.out.lt).alloc (.cells #[.int .i64 ah, .int .u64 al, .slice da n dc] 27)).drew)
  have XC := Lib.hid (((XC.out.below k XC.out.lt).alloc (.cells #[.int .i64 ah, .int .u64 al, .slice da n dc] 27)).drew)
  have B3 := HB.out.trans (k.mono HB.out.size)
  have HB := Lib.hid ((B3.alloc B3.size (.cells #[.int .i64 ah, .int .u64 al, .slice da n dc] 27)).drew)
  have HA0 := Lib.hid (HA0.out.keep HB.out)
  have HB0 := Lib.hid (HB0.out.keep HB.out)
  have HC0 := Lib.hid (HC0.out.keep HB.out)
  have HD0 := Lib.hid (hD.keep ((Below.refl _ _).alloc (Nat.le_refl _) (.cells #[.int .i64 ah, .int .u64 al, .slice da n dc] 27)).drew)
  clear k hD B3 RC AW
  go_wp2_with fail
  generalize w3.heap.size = db at *
  refine Reg.start (fun w' => w'.cell? ⟨w.heap.size, 0, none⟩ = some (.int .i64 ah) ∧ w'.cell? ⟨w.heap.size, 1, none⟩ = some (.int .u64 al) ∧ w'.cell? ⟨w.heap.size, 2, none⟩ = some (.slice aa n ac) ∧ w'.cell? ⟨w.heap.size + 1, 0, none⟩ = some (.int .i64 bh) ∧ w'.cell? ⟨w.heap.size + 1, 1, none⟩ = some (.int .u64 bl) ∧ w'.cell? ⟨w.heap.size + 1, 2, none⟩ = some (.slice ba n bc) ∧ w'.cell? ⟨w.heap.size + 1 + 1, 0, none⟩ = some (.int .i64 ch) ∧ w'.cell? ⟨w.heap.size + 1 + 1, 1, none⟩ = some (.int .u64 cl) ∧ w'.cell? ⟨w.heap.size + 1 + 1, 2, none⟩ = some (.slice ca n cc) ∧ w'.cell? ⟨db, 0, none⟩ = some (.int .i64 ah) ∧ w'.cell? ⟨db, 1, none⟩ = some (.int .u64 al) ∧ w'.cell? ⟨db, 2, none⟩ = some (.slice da n dc)) (fun i => false) (by kernel_rfl) ⟨XA.out.cell rfl, XA.out.cell rfl, XA.out.cell rfl, XB.out.cell rfl, XB.out.cell rfl, XB.out.cell rfl, XC.out.cell rfl, XC.out.cell rfl, XC.out.cell rfl, XD.out.cell rfl, XD.out.cell rfl, XD.out.cell rfl⟩ (fun hHeld => ?_)
  generalize (w3.alloc (.cells #[.int .i64 ah, .int .u64 al, .slice da n dc] 27)).drew = wd at *
  refine Reg.takeI 0 (v := ?_) rfl (by kernel_rfl) (by kernel_rfl) (by kernel_rfl) (by kernel_rfl) (fun _ _ _ h => h) (by rfl) ?_ hHeld ?_
  rotate_left 1
  · (intro w hSw; (try dsimp only at hSw); go_simp; try with_reducible rfl)
  try simp only [Act.put, List.setIfInBounds_toArray, List.set_cons_zero, List.set_cons_succ]
  refine Reg.takeI 1 (v := ?_) rfl (by kernel_rfl) (by kernel_rfl) (by kernel_rfl) (by kernel_rfl) (fun _ _ _ h => h) (by rfl) ?_ hHeld ?_
  rotate_left 1
  · (intro w hSw; (try dsimp only at hSw); go_simp; try with_reducible rfl)
  try simp only [Act.put, List.setIfInBounds_toArray, List.set_cons_zero, List.set_cons_succ]
  refine Reg.takeI 2 (v := ?_) rfl (by kernel_rfl) (by kernel_rfl) (by kernel_rfl) (by kernel_rfl) (fun _ _ _ h => h) (by rfl) ?_ hHeld ?_
  rotate_left 1
  · (intro w hSw; (try dsimp only at hSw); go_simp; try with_reducible rfl)
  try simp only [Act.put, List.setIfInBounds_toArray, List.set_cons_zero, List.set_cons_succ]
  refine Reg.takeI 3 (v := ?_) rfl (by kernel_rfl) (by kernel_rfl) (by kernel_rfl) (by kernel_rfl) (fun _ _ _ h => h) (by rfl) ?_ hHeld ?_
  rotate_left 1
  · (intro w hSw; (try dsimp only at hSw); go_simp; try with_reducible rfl)
  try simp only [Act.put, List.setIfInBounds_toArray, List.set_cons_zero, List.set_cons_succ]
  refine Reg.takeI 4 (v := ?_) rfl (by kernel_rfl) (by kernel_rfl) (by kernel_rfl) (by kernel_rfl) (fun _ _ _ h => h) (by rfl) ?_ hHeld ?_
  rotate_left 1
  · (intro w hSw; (try dsimp only at hSw); go_simp; try with_reducible rfl)
  try simp only [Act.put, List.setIfInBounds_toArray, List.set_cons_zero, List.set_cons_succ]
  refine Reg.oneI 5 rfl (by kernel_rfl) (by rfl) (fun K hK => ?_)
  go_simp
  go_at_call 16
  refine (same_calls _ _ _ _ HD0.out (HA0.out)).mono ?_
  rintro e w4 ⟨rfl, k⟩
  replace XA := Lib.hid (XA.out.below k XA.out.lt)
  replace XB := Lib.hid (XB.out.below k XB.out.lt)
  replace XC := Lib.hid (XC.out.below k XC.out.lt)
  replace XD := Lib.hid (XD.out.below k XD.out.lt)
  replace HB := Lib.hid (HB.out.trans (k.mono HB.out.size))
  replace HA0 := Lib.hid (HA0.out.keep k)
  replace HB0 := Lib.hid (HB0.out.keep k)
  replace HC0 := Lib.hid (HC0.out.keep k)
  replace HD0 := Lib.hid (HD0.out.keep k)
  clear k
  go_wp2_with fail
  refine hK.out _ _ (fun _ => ⟨XA.out.cell rfl, XA.out.cell rfl, XA.out.cell rfl, XB.out.cell rfl, XB.out.cell rfl, XB.out.cell rfl, XC.out.cell rfl, XC.out.cell rfl, XC.out.cell rfl, XD.out.cell rfl, XD.out.cell rfl, XD.out.cell rfl⟩) (fun hHeld => ?_)
  replace hHeld := hHeld (by first | rfl | trivial)
  clear hK K
  try simp only [Act.put, List.setIfInBounds_toArray, List.set_cons_zero, List.set_cons_succ]
  refine Reg.takeI 6 (v := ?_) rfl (by kernel_rfl) (by kernel_rfl) (by kernel_rfl) (by kernel_rfl) (fun _ _ _ h => h) (by rfl) ?_ hHeld ?_
  rotate_left 1
  · (intro w hSw; (try dsimp only at hSw); go_simp; try with_reducible rfl)
  try simp only [Act.put, List.setIfInBounds_toArray, List.set_cons_zero, List.set_cons_succ]
  refine Reg.takeI 7 (v := ?_) rfl (by kernel_rfl) (by kernel_rfl) (by kernel_rfl) (by kernel_rfl) (fun _ _ _ h => h) (by rfl) ?_ hHeld ?_
  rotate_left 1
  · (intro w hSw; (try dsimp only at hSw); go_simp; try with_reducible rfl)
  try simp only [Act.put, List.setIfInBounds_toArray, List.set_cons_zero, List.set_cons_succ]
  refine Reg.takeI 8 (v := ?_) rfl (by kernel_rfl) (by kernel_rfl) (by kernel_rfl) (by kernel_rfl) (fun _ _ _ h => h) (by rfl) ?_ hHeld ?_
  rotate_left 1
  · (intro w hSw; (try dsimp only at hSw); go_simp; try with_reducible rfl)
  try simp only [Act.put, List.setIfInBounds_toArray, List.set_cons_zero, List.set_cons_succ]
  refine Reg.takeI 9 (v := ?_) rfl (by kernel_rfl) (by kernel_rfl) (by kernel_rfl) (by kernel_rfl) (fun _ _ _ h => h) (by rfl) ?_ hHeld ?_
  rotate_left 1
  · (intro w hSw; (try dsimp only at hSw); go_simp; try with_reducible rfl)
  try simp only [Act.put, List.setIfInBounds_toArray, List.set_cons_zero, List.set_cons_succ]
  refine Reg.takeI 11 (v := ?_) rfl (by kernel_rfl) (by kernel_rfl) (by kernel_rfl) (by kernel_rfl) (fun _ _ _ h => h) (by rfl) ?_ hHeld ?_
  rotate_left 1
  · (intro w hSw; (try dsimp only at hSw); go_simp; try with_reducible rfl)
  try simp only [Act.put, List.setIfInBounds_toArray, List.set_cons_zero, List.set_cons_succ]
  refine Reg.takeI 12 (v := ?_) rfl (by kernel_rfl) (by kernel_rfl) (by kernel_rfl) (by kernel_rfl) (fun _ _ _ h => h) (by rfl) ?_ hHeld ?_
  rotate_left 1
  · (intro w hSw; (try dsimp only at hSw); go_simp; try with_reducible rfl)
  try simp only [Act.put, List.setIfInBounds_toArray, List.set_cons_zero, List.set_cons_succ]
  refine Reg.oneI 10 rfl (by kernel_rfl) (by rfl) (fun K hK => ?_)
  go_simp
  go_at_call 17
  refine (add_calls _ _ _ _ _ HA0.out HB0.out (by have := L3.out; first | omega | (simp only [Tot.add, nothing, List.length_zipWith, List.length_replicate]; omega)) (by have := L3.out; first | omega | (simp only [Tot.add, nothing, List.length_zipWith, List.length_replicate]; omega))).mono ?_
  rintro e w5 ⟨⟨ABv, rfl, ABh⟩, k⟩
  have AB := Lib.hid ABh
  clear ABh
  replace XA := Lib.hid (XA.out.below k XA.out.lt)
  replace XB := Lib.hid (XB.out.below k XB.out.lt)
  replace XC := Lib.hid (XC.out.below k XC.out.lt)
  replace XD := Lib.hid (XD.out.below k XD.out.lt)
  replace HB := Lib.hid (HB.out.trans (k.mono HB.out.size))
  replace HA0 := Lib.hid (HA0.out.keep k)
  replace HB0 := Lib.hid (HB0.out.keep k)
  replace HC0 := Lib.hid (HC0.out.keep k)
  replace HD0 := Lib.hid (HD0.out.keep k)
  clear k
  go_wp2_with fail
  refine hK.out _ _ (fun _ => ⟨XA.out.cell rfl, XA.out.cell rfl, XA.out.cell rfl, XB.out.cell rfl, XB.out.cell rfl, XB.out.cell rfl, XC.out.cell rfl, XC.out.cell rfl, XC.out.cell rfl, XD.out.cell rfl, XD.out.cell rfl, XD.out.cell rfl⟩) (fun hHeld => ?_)
  replace hHeld := hHeld (by first | rfl | trivial)
  clear hK K
  try simp only [Act.put, List.setIfInBounds_toArray, List.set_cons_zero, List.set_cons_succ]
  refine Reg.oneI 13 rfl (by kernel_rfl) (by rfl) (fun K hK => ?_)
  go_simp
  go_at_call 17
  refine (add_calls _ _ _ _ _ HB0.out HA0.out (by have := L3.out; first | omega | (simp only [Tot.add, nothing, List.length_zipWith, List.length_replicate]; omega)) (by have := L3.out; first | omega | (simp only [Tot.add, nothing, List.length_zipWith, List.length_replicate]; omega))).mono ?_
  rintro e w6 ⟨⟨BAv, rfl, BAh⟩, k⟩
  have BA := Lib.hid BAh
  clear BAh
  replace XA := Lib.hid (XA.out.below k XA.out.lt)
  replace XB := Lib.hid (XB.out.below k XB.out.lt)
  replace XC := Lib.hid (XC.out.below k XC.out.lt)
  replace XD := Lib.hid (XD.out.below k XD.out.lt)
  replace HB := Lib.hid (HB.out.trans (k.mono HB.out.size))
  replace HA0 := Lib.hid (HA0.out.keep k)
  replace HB0 := Lib.hid (HB0.out.keep k)
  replace HC0 := Lib.hid (HC0.out.keep k)
  replace HD0 := Lib.hid (HD0.out.keep k)
  replace AB := Lib.hid (AB.out.keep k)
  clear k
  go_wp2_with fail
  refine hK.out _ _ (fun _ => ⟨XA.out.cell rfl, XA.out.cell rfl, XA.out.cell rfl, XB.out.cell rfl, XB.out.cell rfl, XB.out.cell rfl, XC.out.cell rfl, XC.out.cell rfl, XC.out.cell rfl, XD.out.cell rfl, XD.out.cell rfl, XD.out.cell rfl⟩) (fun hHeld => ?_)
  replace hHeld := hHeld (by first | rfl | trivial)
  clear hK K
  try simp only [Act.put, List.setIfInBounds_toArray, List.set_cons_zero, List.set_cons_succ]
  refine Reg.oneI 14 rfl (by kernel_rfl) (by rfl) (fun K hK => ?_)
  go_simp
  go_at_call 16
  refine (same_calls _ _ _ _ AB.out (by rw [tadd_comm]; exact BA.out)).mono ?_
  rintro e w7 ⟨rfl, k⟩
  replace XA := Lib.hid (XA.out.below k XA.out.lt)
  replace XB := Lib.hid (XB.out.below k XB.out.lt)
  replace XC := Lib.hid (XC.out.below k XC.out.lt)
  replace XD := Lib.hid (XD.out.below k XD.out.lt)
  replace HB := Lib.hid (HB.out.trans (k.mono HB.out.size))
  replace HA0 := Lib.hid (HA0.out.keep k)
  replace HB0 := Lib.hid (HB0.out.keep k)
  replace HC0 := Lib.hid (HC0.out.keep k)
  replace HD0 := Lib.hid (HD0.out.keep k)
  clear k
  go_wp2_with fail
  refine hK.out _ _ (fun _ => ⟨XA.out.cell rfl, XA.out.cell rfl, XA.out.cell rfl, XB.out.cell rfl, XB.out.cell rfl, XB.out.cell rfl, XC.out.cell rfl, XC.out.cell rfl, XC.out.cell rfl, XD.out.cell rfl, XD.out.cell rfl, XD.out.cell rfl⟩) (fun hHeld => ?_)
  replace hHeld := hHeld (by first | rfl | trivial)
  clear hK K
  try simp only [Act.put, List.setIfInBounds_toArray, List.set_cons_zero, List.set_cons_succ]
  refine Reg.takeI 15 (v := ?_) rfl (by kernel_rfl) (by kernel_rfl) (by kernel_rfl) (by kernel_rfl) (fun _ _ _ h => h) (by rfl) ?_ hHeld ?_
  rotate_left 1
  · (intro w hSw; (try dsimp only at hSw); go_simp; try with_reducible rfl)
  try simp only [Act.put, List.setIfInBounds_toArray, List.set_cons_zero, List.set_cons_succ]
  refine Reg.takeI 16 (v := ?_) rfl (by kernel_rfl) (by kernel_rfl) (by kernel_rfl) (by kernel_rfl) (fun _ _ _ h => h) (by rfl) ?_ hHeld ?_
  rotate_left 1
  · (intro w hSw; (try dsimp only at hSw); go_simp; try with_reducible rfl)
  try simp only [Act.put, List.setIfInBounds_toArray, List.set_cons_zero, List.set_cons_succ]
  refine Reg.takeI 17 (v := ?_) rfl (by kernel_rfl) (by kernel_rfl) (by kernel_rfl) (by kernel_rfl) (fun _ _ _ h => h) (by rfl) ?_ hHeld ?_
  rotate_left 1
  · (intro w hSw; (try dsimp only at hSw); go_simp; try with_reducible rfl)
  try simp only [Act.put, List.setIfInBounds_toArray, List.set_cons_zero, List.set_cons_succ]
  refine Reg.takeI 18 (v := ?_) rfl (by kernel_rfl) (by kernel_rfl) (by kernel_rfl) (by kernel_rfl) (fun _ _ _ h => h) (by rfl) ?_ hHeld ?_
  rotate_left 1
  · (intro w hSw; (try dsimp only at hSw); go_simp; try with_reducible rfl)
  try simp only [Act.put, List.setIfInBounds_toArray, List.set_cons_zero, List.set_cons_succ]
  refine Reg.takeI 20 (v := ?_) rfl (by kernel_rfl) (by kernel_rfl) (by kernel_rfl) (by kernel_rfl) (fun _ _ _ h => h) (by rfl) ?_ hHeld ?_
  rotate_left 1
  · (intro w hSw; (try dsimp only at hSw); go_simp; try with_reducible rfl)
  try simp only [Act.put, List.setIfInBounds_toArray, List.set_cons_zero, List.set_cons_succ]
  refine Reg.takeI 22 (v := ?_) rfl (by kernel_rfl) (by kernel_rfl) (by kernel_rfl) (by kernel_rfl) (fun _ _ _ h => h) (by rfl) ?_ hHeld ?_
  rotate_left 1
  · (intro w hSw; (try dsimp only at hSw); go_simp; try with_reducible rfl)
  try simp only [Act.put, List.setIfInBounds_toArray, List.set_cons_zero, List.set_cons_succ]
  refine Reg.takeI 23 (v := ?_) rfl (by kernel_rfl) (by kernel_rfl) (by kernel_rfl) (by kernel_rfl) (fun _ _ _ h => h) (by rfl) ?_ hHeld ?_
  rotate_left 1
  · (intro w hSw; (try dsimp only at hSw); go_simp; try with_reducible rfl)
  try simp only [Act.put, List.setIfInBounds_toArray, List.set_cons_zero, List.set_cons_succ]
  refine Reg.takeI 24 (v := ?_) rfl (by kernel_rfl) (by kernel_rfl) (by kernel_rfl) (by kernel_rfl) (fun _ _ _ h => h) (by rfl) ?_ hHeld ?_
  rotate_left 1
  · (intro w hSw; (try dsimp only at hSw); go_simp; try with_reducible rfl)
  try simp only [Act.put, List.setIfInBounds_toArray, List.set_cons_zero, List.set_cons_succ]
  refine Reg.oneI 19 rfl (by kernel_rfl) (by rfl) (fun K hK => ?_)
  go_simp
  go_at_call 17
  refine (add_calls _ _ _ _ _ HA0.out HB0.out (by have := L3.out; first | omega | (simp only [Tot.add, nothing, List.length_zipWith, List.length_replicate]; omega)) (by have := L3.out; first | omega | (simp only [Tot.add, nothing, List.length_zipWith, List.length_replicate]; omega))).mono ?_
  rintro e w8 ⟨⟨AB2v, rfl, AB2h⟩, k⟩
  have AB2 := Lib.hid AB2h
  clear AB2h
  replace XA := Lib.hid (XA.out.below k XA.out.lt)
  replace XB := Lib.hid (XB.out.below k XB.out.lt)
  replace XC := Lib.hid (XC.out.below k XC.out.lt)
  replace XD := Lib.hid (XD.out.below k XD.out.lt)
  replace HB := Lib.hid (HB.out.trans (k.mono HB.out.size))
  replace HA0 := Lib.hid (HA0.out.keep k)
  replace HB0 := Lib.hid (HB0.out.keep k)
  replace HC0 := Lib.hid (HC0.out.keep k)
  replace HD0 := Lib.hid (HD0.out.keep k)
  clear k
  go_wp2_with fail
  refine hK.out _ _ (fun _ => ⟨XA.out.cell rfl, XA.out.cell rfl, XA.out.cell rfl, XB.out.cell rfl, XB.out.cell rfl, XB.out.cell rfl, XC.out.cell rfl, XC.out.cell rfl, XC.out.cell rfl, XD.out.cell rfl, XD.out.cell rfl, XD.out.cell rfl⟩) (fun hHeld => ?_)
  replace hHeld := hHeld (by first | rfl | trivial)
  clear hK K
  try simp only [Act.put, List.setIfInBounds_toArray, List.set_cons_zero, List.set_cons_succ]
  refine Reg.oneI 21 rfl (by kernel_rfl) (by rfl) (fun K hK => ?_)
  go_simp
  go_at_call 17
  refine (add_calls _ _ _ _ _ AB2.out HC0.out (by have := L3.out; first | omega | (simp only [Tot.add, nothing, List.length_zipWith, List.length_replicate]; omega)) (by have := L3.out; first | omega | (simp only [Tot.add, nothing, List.length_zipWith, List.length_replicate]; omega))).mono ?_
  rintro e w9 ⟨⟨ABCv, rfl, ABCh⟩, k⟩
  have ABC := Lib.hid ABCh
  clear ABCh
  replace XA := Lib.hid (XA.out.below k XA.out.lt)
  replace XB := Lib.hid (XB.out.below k XB.out.lt)
  replace XC := Lib.hid (XC.out.below k XC.out.lt)
  replace XD := Lib.hid (XD.out.below k XD.out.lt)
  replace HB := Lib.hid (HB.out.trans (k.mono HB.out.size))
  replace HA0 := Lib.hid (HA0.out.keep k)
  replace HB0 := Lib.hid (HB0.out.keep k)
  replace HC0 := Lib.hid (HC0.out.keep k)
  replace HD0 := Lib.hid (HD0.out.keep k)
  clear k
  go_wp2_with fail
  refine hK.out _ _ (fun _ => ⟨XA.out.cell rfl, XA.out.cell rfl, XA.out.cell rfl, XB.out.cell rfl, XB.out.cell rfl, XB.out.cell rfl, XC.out.cell rfl, XC.out.cell rfl, XC.out.cell rfl, XD.out.cell rfl, XD.out.cell rfl, XD.out.cell rfl⟩) (fun hHeld => ?_)
  replace hHeld := hHeld (by first | rfl | trivial)
  clear hK K
  try simp only [Act.put, List.setIfInBounds_toArray, List.set_cons_zero, List.set_cons_succ]
  refine Reg.oneI 25 rfl (by kernel_rfl) (by rfl) (fun K hK => ?_)
  go_simp
  go_at_call 17
  refine (add_calls _ _ _ _ _ HB0.out HC0.out (by have := L3.out; first | omega | (simp only [Tot.add, nothing, List.length_zipWith, List.length_replicate]; omega)) (by have := L3.out; first | omega | (simp only [Tot.add, nothing, List.length_zipWith, List.length_replicate]; omega))).mono ?_
  rintro e w10 ⟨⟨BCv, rfl, BCh⟩, k⟩
  have BC := Lib.hid BCh
  clear BCh
  replace XA := Lib.hid (XA.out.below k XA.out.lt)
  replace XB := Lib.hid (XB.out.below k XB.out.lt)
  replace XC := Lib.hid (XC.out.below k XC.out.lt)
  replace XD := Lib.hid (XD.out.below k XD.out.lt)
  replace HB := Lib.hid (HB.out.trans (k.mono HB.out.size))
  replace HA0 := Lib.hid (HA0.out.keep k)
  replace HB0 := Lib.hid (HB0.out.keep k)
  replace HC0 := Lib.hid (HC0.out.keep k)
  replace HD0 := Lib.hid (HD0.out.keep k)
  replace ABC := Lib.hid (ABC.out.keep k)
  clear k
  go_wp2_with fail
  refine hK.out _ _ (fun _ => ⟨XA.out.cell rfl, XA.out.cell rfl, XA.out.cell rfl, XB.out.cell rfl, XB.out.cell rfl, XB.out.cell rfl, XC.out.cell rfl, XC.out.cell rfl, XC.out.cell rfl, XD.out.cell rfl, XD.out.cell rfl, XD.out.cell rfl⟩) (fun hHeld => ?_)
  replace hHeld := hHeld (by first | rfl | trivial)
  clear hK K
  try simp only [Act.put, List.setIfInBounds_toArray, List.set_cons_zero, List.set_cons_succ]
  refine Reg.oneI 26 rfl (by kernel_rfl) (by rfl) (fun K hK => ?_)
  go_simp
  go_at_call 17
  refine (add_calls _ _ _ _ _ HA0.out BC.out (by have := L3.out; first | omega | (simp only [Tot.add, nothing, List.length_zipWith, List.length_replicate]; omega)) (by have := L3.out; first | omega | (simp only [Tot.add, nothing, List.length_zipWith, List.length_replicate]; omega))).mono ?_
  rintro e w11 ⟨⟨ABC2v, rfl, ABC2h⟩, k⟩
  have ABC2 := Lib.hid ABC2h
  clear ABC2h
  replace XA := Lib.hid (XA.out.below k XA.out.lt)
  replace XB := Lib.hid (XB.out.below k XB.out.lt)
  replace XC := Lib.hid (XC.out.below k XC.out.lt)
  replace XD := Lib.hid (XD.out.below k XD.out.lt)
  replace HB := Lib.hid (HB.out.trans (k.mono HB.out.size))
  replace HA0 := Lib.hid (HA0.out.keep k)
  replace HB0 := Lib.hid (HB0.out.keep k)
  replace HC0 := Lib.hid (HC0.out.keep k)
  replace HD0 := Lib.hid (HD0.out.keep k)
  replace ABC := Lib.hid (ABC.out.keep k)
  clear k
  go_wp2_with fail
  refine hK.out _ _ (fun _ => ⟨XA.out.cell rfl, XA.out.cell rfl, XA.out.cell rfl, XB.out.cell rfl, XB.out.cell rfl, XB.out.cell rfl, XC.out.cell rfl, XC.out.cell rfl, XC.out.cell rfl, XD.out.cell rfl, XD.out.cell rfl, XD.out.cell rfl⟩) (fun hHeld => ?_)
  replace hHeld := hHeld (by first | rfl | trivial)
  clear hK K
  try simp only [Act.put, List.setIfInBounds_toArray, List.set_cons_zero, List.set_cons_succ]
  refine Reg.oneI 27 rfl (by kernel_rfl) (by rfl) (fun K hK => ?_)
  go_simp
  go_at_call 16
  refine (same_calls _ _ _ _ ABC.out (by rw [tadd_assoc]; exact ABC2.out)).mono ?_
  rintro e w12 ⟨rfl, k⟩
  replace XA := Lib.hid (XA.out.below k XA.out.lt)
  replace XB := Lib.hid (XB.out.below k XB.out.lt)
  replace XC := Lib.hid (XC.out.below k XC.out.lt)
  replace XD := Lib.hid (XD.out.below k XD.out.lt)
  replace HB := Lib.hid (HB.out.trans (k.mono HB.out.size))
  replace HA0 := Lib.hid (HA0.out.keep k)
  replace HB0 := Lib.hid (HB0.out.keep k)
  replace HC0 := Lib.hid (HC0.out.keep k)
  replace HD0 := Lib.hid (HD0.out.keep k)
  clear k
  go_wp2_with fail
  refine hK.out _ _ (fun _ => ⟨XA.out.cell rfl, XA.out.cell rfl, XA.out.cell rfl, XB.out.cell rfl, XB.out.cell rfl, XB.out.cell rfl, XC.out.cell rfl, XC.out.cell rfl, XC.out.cell rfl, XD.out.cell rfl, XD.out.cell rfl, XD.out.cell rfl⟩) (fun hHeld => ?_)
  replace hHeld := hHeld (by first | rfl | trivial)
  clear hK K
  try simp only [Act.put, List.setIfInBounds_toArray, List.set_cons_zero, List.set_cons_succ]
  refine Reg.takeI 28 (v := ?_) rfl (by kernel_rfl) (by kernel_rfl) (by kernel_rfl) (by kernel_rfl) (fun _ _ _ h => h) (by rfl) ?_ hHeld ?_
  rotate_left 1
  · (intro w hSw; (try dsimp only at hSw); go_simp; try with_reducible rfl)
  try simp only [Act.put, List.setIfInBounds_toArray, List.set_cons_zero, List.set_cons_succ]
  refine Reg.takeI 29 (v := ?_) rfl (by kernel_rfl) (by kernel_rfl) (by kernel_rfl) (by kernel_rfl) (fun _ _ _ h => h) (by rfl) ?_ hHeld ?_
  rotate_left 1
  · (intro w hSw; (try dsimp only at hSw); go_simp; try with_reducible rfl)
  try simp only [Act.put, List.setIfInBounds_toArray, List.set_cons_zero, List.set_cons_succ]
  refine Reg.takeI 30 (v := ?_) rfl (by kernel_rfl) (by kernel_rfl) (by kernel_rfl) (by kernel_rfl) (fun _ _ _ h => h) (by rfl) ?_ hHeld ?_
  rotate_left 1
  · (intro w hSw; (try dsimp only at hSw); go_simp; try with_reducible rfl)
  try simp only [Act.put, List.setIfInBounds_toArray, List.set_cons_zero, List.set_cons_succ]
  refine Reg.takeI 31 (v := ?_) rfl (by kernel_rfl) (by kernel_rfl) (by kernel_rfl) (by kernel_rfl) (fun _ _ _ h => h) (by rfl) ?_ hHeld ?_
  rotate_left 1
  · (intro w hSw; (try dsimp only at hSw); go_simp; try with_reducible rfl)
  try simp only [Act.put, List.setIfInBounds_toArray, List.set_cons_zero, List.set_cons_succ]
  refine Reg.takeI 34 (v := ?_) rfl (by kernel_rfl) (by kernel_rfl) (by kernel_rfl) (by kernel_rfl) (fun _ _ _ h => h) (by rfl) ?_ hHeld ?_
  rotate_left 1
  · (intro w hSw; (try dsimp only at hSw); go_simp; try with_reducible rfl)
  try simp only [Act.put, List.setIfInBounds_toArray, List.set_cons_zero, List.set_cons_succ]
  refine Reg.oneI 32 rfl (by kernel_rfl) (by rfl) (fun K hK => ?_)
  go_simp
  go_at_call 22
  refine (nothing_calls (n : Int) _).mono ?_
  rintro e w13 ⟨⟨NOv, rfl, NOh⟩, k⟩
  have NO := Lib.hid NOh
  clear NOh
  replace XA := Lib.hid (XA.out.below k XA.out.lt)
  replace XB := Lib.hid (XB.out.below k XB.out.lt)
  replace XC := Lib.hid (XC.out.below k XC.out.lt)
  replace XD := Lib.hid (XD.out.below k XD.out.lt)
  replace HB := Lib.hid (HB.out.trans (k.mono HB.out.size))
  replace HA0 := Lib.hid (HA0.out.keep k)
  replace HB0 := Lib.hid (HB0.out.keep k)
  replace HC0 := Lib.hid (HC0.out.keep k)
  replace HD0 := Lib.hid (HD0.out.keep k)
  clear k
  go_wp2_with fail
  refine hK.out _ _ (fun _ => ⟨XA.out.cell rfl, XA.out.cell rfl, XA.out.cell rfl, XB.out.cell rfl, XB.out.cell rfl, XB.out.cell rfl, XC.out.cell rfl, XC.out.cell rfl, XC.out.cell rfl, XD.out.cell rfl, XD.out.cell rfl, XD.out.cell rfl⟩) (fun hHeld => ?_)
  replace hHeld := hHeld (by first | rfl | trivial)
  clear hK K
  try simp only [Act.put, List.setIfInBounds_toArray, List.set_cons_zero, List.set_cons_succ]
  refine Reg.oneI 33 rfl (by kernel_rfl) (by rfl) (fun K hK => ?_)
  go_simp
  go_at_call 17
  refine (add_calls _ _ _ _ _ HA0.out NO.out (by have := L3.out; first | omega | (simp only [Tot.add, nothing, List.length_zipWith, List.length_replicate]; omega)) (by have := L3.out; first | omega | (simp only [Tot.add, nothing, List.length_zipWith, List.length_replicate]; omega))).mono ?_
  rintro e w14 ⟨⟨ANv, rfl, ANh⟩, k⟩
  have AN := Lib.hid ANh
  clear ANh
  replace XA := Lib.hid (XA.out.below k XA.out.lt)
  replace XB := Lib.hid (XB.out.below k XB.out.lt)
  replace XC := Lib.hid (XC.out.below k XC.out.lt)
  replace XD := Lib.hid (XD.out.below k XD.out.lt)
  replace HB := Lib.hid (HB.out.trans (k.mono HB.out.size))
  replace HA0 := Lib.hid (HA0.out.keep k)
  replace HB0 := Lib.hid (HB0.out.keep k)
  replace HC0 := Lib.hid (HC0.out.keep k)
  replace HD0 := Lib.hid (HD0.out.keep k)
  clear k
  go_wp2_with fail
  refine hK.out _ _ (fun _ => ⟨XA.out.cell rfl, XA.out.cell rfl, XA.out.cell rfl, XB.out.cell rfl, XB.out.cell rfl, XB.out.cell rfl, XC.out.cell rfl, XC.out.cell rfl, XC.out.cell rfl, XD.out.cell rfl, XD.out.cell rfl, XD.out.cell rfl⟩) (fun hHeld => ?_)
  replace hHeld := hHeld (by first | rfl | trivial)
  clear hK K
  try simp only [Act.put, List.setIfInBounds_toArray, List.set_cons_zero, List.set_cons_succ]
  refine Reg.oneI 35 rfl (by kernel_rfl) (by rfl) (fun K hK => ?_)
  go_simp
  go_at_call 16
  refine (same_calls _ _ _ _ AN.out (by rw [tadd_no HA0.out.2.1 ⟨L3.out.1, L3.out.2.1⟩]; exact HA0.out)).mono ?_
  rintro e w15 ⟨rfl, k⟩
  replace XA := Lib.hid (XA.out.below k XA.out.lt)
  replace XB := Lib.hid (XB.out.below k XB.out.lt)
  replace XC := Lib.hid (XC.out.below k XC.out.lt)
  replace XD := Lib.hid (XD.out.below k XD.out.lt)
  replace HB := Lib.hid (HB.out.trans (k.mono HB.out.size))
  replace HA0 := Lib.hid (HA0.out.keep k)
  replace HB0 := Lib.hid (HB0.out.keep k)
  replace HC0 := Lib.hid (HC0.out.keep k)
  replace HD0 := Lib.hid (HD0.out.keep k)
  clear k
  go_wp2_with fail
  refine hK.out _ _ (fun _ => ⟨XA.out.cell rfl, XA.out.cell rfl, XA.out.cell rfl, XB.out.cell rfl, XB.out.cell rfl, XB.out.cell rfl, XC.out.cell rfl, XC.out.cell rfl, XC.out.cell rfl, XD.out.cell rfl, XD.out.cell rfl, XD.out.cell rfl⟩) (fun hHeld => ?_)
  replace hHeld := hHeld (by first | rfl | trivial)
  clear hK K
  try simp only [Act.put, List.setIfInBounds_toArray, List.set_cons_zero, List.set_cons_succ]
  refine Reg.takeI 36 (v := ?_) rfl (by kernel_rfl) (by kernel_rfl) (by kernel_rfl) (by kernel_rfl) (fun _ _ _ h => h) (by rfl) ?_ hHeld ?_
  rotate_left 1
  · (intro w hSw; (try dsimp only at hSw); go_simp; try with_reducible rfl)
  try simp only [Act.put, List.setIfInBounds_toArray, List.set_cons_zero, List.set_cons_succ]
  refine Reg.takeI 37 (v := ?_) rfl (by kernel_rfl) (by kernel_rfl) (by kernel_rfl) (by kernel_rfl) (fun _ _ _ h => h) (by rfl) ?_ hHeld ?_
  rotate_left 1
  · (intro w hSw; (try dsimp only at hSw); go_simp; try with_reducible rfl)
  try simp only [Act.put, List.setIfInBounds_toArray, List.set_cons_zero, List.set_cons_succ]
  refine Reg.doneI (by kernel_rfl) ?_
  go_wp2_with fail
  go_ret
  exact ⟨rfl, HB.out⟩

abbrev wideC : Cod (Int × Int × Unit) := Cod.pair (Cod.int .i64) (Cod.pair (Cod.int .u64) Cod.unit)
abbrev totC : Cod ((Int × Int × Unit) × List (Int × Int × Unit) × Unit) := Cod.pair wideC (Cod.pair (Cod.slice wideC) Cod.unit)
def wOf (y : Int × Int × Unit) : Wd := ⟨y.1, y.2.1⟩
theorem wide_in {w : World} {cs : List Value} {y : Int × Int × Unit} (h : wideC.R w cs y) : cs = (wOf y).cells ∧ (wOf y).fits := by
  obtain ⟨c1, r1, rfl, ⟨rfl, w1⟩, c2, r2, rfl, ⟨rfl, w2⟩, hu⟩ := h
  obtain rfl : r2 = [] := hu
  refine ⟨rfl, ?_⟩
  simp [Lit.wf, IntKind.min, IntKind.max, IntKind.signed, IntKind.bits] at w1 w2
  unfold Wd.fits wOf
  simp only
  omega
/-- A total that came in. -/
theorem tot_of {w : World} {cs : List Value} {y : _} (h : totC.R w cs y) : ∃ t : Tot, HasT w (.agg cs.toArray) t := by
  obtain ⟨c1, r1, rfl, h1, c2, r2, rfl, ⟨a, n, cap, rfl, hn, hc, h0, hrow⟩, hu⟩ := h
  obtain rfl : r2 = [] := hu
  obtain ⟨rfl, f1⟩ := wide_in h1
  have hl := hrow.1
  refine ⟨⟨wOf y.1, y.2.1.map wOf⟩, ⟨a, cap, ?_, els_in wOf hrow (by decide) (fun cs x hx => (wide_in hx).1)⟩, ⟨f1, fun s hs => ?_⟩, ?_⟩
  · show _ = Value.agg #[_, _, .slice a (y.2.1.map wOf).length cap]
    rw [List.length_map, hl]
    rfl
  · obtain ⟨z, hz, rfl⟩ := List.mem_map.1 hs
    obtain ⟨i, hi, rfl⟩ := List.getElem_of_mem hz
    obtain ⟨ad, cs, ha, hl, hc, hR⟩ := hrow.2 i hi
    exact (wide_in hR).2
  · show (y.2.1.map wOf).length ≤ _
    rw [List.length_map, hl]
    unfold maxLen at hc
    omega
theorem sums_row (cs : List Value) (x : _) (ds : List Value) (y : _) (es : List Value) (z : _) (W : World) (h1 : totC.R W cs x) (h2 : totC.R W ds y) (h3 : totC.R W es z) :
    Calls Try.prog 4 #[.agg cs.toArray, .agg ds.toArray, .agg es.toArray] W fun e w' => e = .returned (.bool true) ∧ Below W.heap.size W w' := by
  obtain ⟨a, ha⟩ := tot_of h1
  obtain ⟨b, hb⟩ := tot_of h2
  obtain ⟨c, hc⟩ := tot_of h3
  exact sums_calls _ _ _ a b c W ha hb hc
end Go.Proofs.Ytcfjooeagfollaa.Plan
