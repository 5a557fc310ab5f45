/- plan.Add. -/
import Derived.Test.YtcfjooeagfollaaPlanT
import Derived.Test.YtcfjooeagfollaaRegApp
namespace Go.Proofs.Ytcfjooeagfollaa.Plan
open Go.RowKit Go.Proofs.Ytcfjooeagfollaa.Mem Go.Proofs.Ytcfjooeagfollaa.Bytes Go.Proofs.Ytcfjooeagfollaa.Num Go.Proofs.Ytcfjooeagfollaa.Wide
set_option linter.unusedSimpArgs false
set_option linter.unusedVariables false
set_option maxRecDepth 20000

def Tot.add (s t : Tot) : Tot := ⟨s.count.add t.count, List.zipWith Wd.add s.sums t.sums⟩
def TotPost (t : Tot) (e : Ending) (w : World) : Prop := ∃ v, e = .returned v ∧ HasT w v t
theorem info_wide : (Try.prog.info? 24).map (fun i => (i.zero, i.size, i.bytes)) = some (some (.agg #[.int .i64 0, .int .u64 0]), 2, 16) := by kernel_rfl
theorem wide_size : (Value.agg #[.int .i64 0, .int .u64 0]).cells.size = 2 := by rfl
theorem Tot.add_fits {s t : Tot} (h : s.fits) (k : t.fits) : (s.add t).fits := by
  refine ⟨Wd.add_fits h.1 k.1, fun x hx => ?_⟩
  obtain ⟨i, hi, rfl⟩ := List.getElem_of_mem hx
  unfold Tot.add at hi ⊢
  simp only [List.length_zipWith] at hi
  simp only [List.getElem_zipWith]
  exact Wd.add_fits (h.2 _ (List.getElem_mem _)) (k.2 _ (List.getElem_mem _))
theorem zip_take {l m : List Wd} {k : Nat} (h1 : k < l.length) (h2 : k < m.length) : (List.zipWith Wd.add l m).take (k + 1) = (List.zipWith Wd.add l m).take k ++ [l[k].add m[k]] := by
  rw [List.take_succ_eq_append_getElem (by rw [List.length_zipWith]; omega), List.getElem_zipWith]

set_option maxHeartbeats 2000000 in
theorem add_calls (s t : Tot) (v u : Value) (w : World) (h : HasT w v s) (g : HasT w u t) (h10 : s.sums.length ≤ 1000) (g10 : t.sums.length ≤ 1000) :
    Calls Try.prog 17 #[v, u] w fun e w' => TotPost (s.add t) e w' ∧ Below w.heap.size w w' := by
  have hfit := Lib.hid (Tot.add_fits h.2.1 g.2.1)
  obtain ⟨⟨a, cap, rfl, hE⟩, ⟨hf, hfs⟩, _⟩ := h
  obtain ⟨⟨b, cap2, rfl, gE⟩, ⟨gf, gfs⟩, _⟩ := g
  obtain ⟨⟨h1, l1⟩, l⟩ := s
  obtain ⟨⟨h2, l2⟩, m⟩ := t
  simp only at hE gE hf gf hfs gfs h10 g10
  have hX : Row (w.alloc (.cells #[.int .i64 h1, .int .u64 l1, .slice a l.length cap] 27)) w.heap.size 27 [.int .i64 h1, .int .u64 l1, .slice a l.length cap] := new_at rfl
  have X0 := hX.alloc (.cells #[.int .i64 h2, .int .u64 l2, .slice b m.length cap2] 27)
  have Y0 : Row ((w.alloc (.cells #[.int .i64 h1, .int .u64 l1, .slice a l.length cap] 27)).alloc (.cells #[.int .i64 h2, .int .u64 l2, .slice b m.length cap2] 27)) (w.heap.size + 1) 27 [.int .i64 h2, .int .u64 l2, .slice b m.length cap2] := new_at (by simp)
  have b0 : Below w.heap.size w ((w.alloc (.cells #[.int .i64 h1, .int .u64 l1, .slice a l.length cap] 27)).alloc (.cells #[.int .i64 h2, .int .u64 l2, .slice b m.length cap2] 27)) := ((Below.refl _ _).alloc (Nat.le_refl _) _).alloc (by simp) _
  have X1 := X0.alloc (.cells #[.int .i64 0, .int .u64 0, .slice none 0 0] 27)
  have Y1 := Y0.alloc (.cells #[.int .i64 0, .int .u64 0, .slice none 0 0] 27)
  have Z1 : Row (((w.alloc (.cells #[.int .i64 h1, .int .u64 l1, .slice a l.length cap] 27)).alloc (.cells #[.int .i64 h2, .int .u64 l2, .slice b m.length cap2] 27)).alloc (.cells #[.int .i64 0, .int .u64 0, .slice none 0 0] 27)) (w.heap.size + 1 + 1) 27 [.int .i64 0, .int .u64 0, .slice none 0 0] := new_at (by simp)
  have b1 := b0.alloc (by simp; omega) (.cells #[.int .i64 0, .int .u64 0, .slice none 0 0] 27)
  have AC := Lib.hid (fun w => Wide.add_calls ⟨h1, l1⟩ ⟨h2, l2⟩ hf gf w)
  show Calls Try.prog 17 #[.agg #[.int .i64 h1, .int .u64 l1, .slice a l.length cap], .agg #[.int .i64 h2, .int .u64 l2, .slice b m.length cap2]] w _
  have hres : Tot.add ⟨⟨h1, l1⟩, l⟩ ⟨⟨h2, l2⟩, m⟩ = ⟨Wd.add ⟨h1, l1⟩ ⟨h2, l2⟩, List.zipWith Wd.add l m⟩ := rfl
  rw [hres] at hfit ⊢
  generalize Wd.add ⟨h1, l1⟩ ⟨h2, l2⟩ = C at *
  obtain ⟨ch, cl⟩ := C
  replace AC : RowKit.Hid (∀ w, Calls Try.prog 75 #[.agg #[.int .i64 h1, .int .u64 l1], .agg #[.int .i64 h2, .int .u64 l2]] w fun e w' => e = .returned (.agg #[.int .i64 ch, .int .u64 cl]) ∧ Below w.heap.size w w') := AC
  have x0 := X1.cell (i := 0) rfl
  have x1 := X1.cell (i := 1) rfl
  have y0 := Y1.cell (i := 0) rfl
  have y1 := Y1.cell (i := 1) rfl
  have HX := Lib.hid X1
  have HY := Lib.hid Y1
  have HZ := Lib.hid Z1
  have HB := Lib.hid b1
  have HE := Lib.hid hE
  have GE := Lib.hid gE
  have HF := Lib.hid hfs
  have GF := Lib.hid gfs
  have hmin := run_min2 Try.prog 3 l.length m.length
  clear hX X0 Y0 b0 X1 Y1 Z1 b1 hE gE hfs gfs hf gf hres
  go_enter Try.func17, Try.ntmps17
  go_wp2_with fail
  clear x0 x1 y0 y1
  refine (AC.out _).mono ?_
  rintro e w1 ⟨rfl, k1⟩
  have X2 := HX.out.below k1 HX.out.lt
  have Y2 := HY.out.below k1 HY.out.lt
  have Z2 := HZ.out.below k1 HZ.out.lt
  have B2 := HB.out.trans (k1.mono HB.out.size)
  have hsz := k1.size
  simp at hsz
  have X3 := X2.alloc (.cells #[.int .i64 ch, .int .u64 cl, .slice none 0 0] 27)
  have Y3 := Y2.alloc (.cells #[.int .i64 ch, .int .u64 cl, .slice none 0 0] 27)
  have Z3 := Z2.alloc (.cells #[.int .i64 ch, .int .u64 cl, .slice none 0 0] 27)
  have R3 : Row (w1.alloc (.cells #[.int .i64 ch, .int .u64 cl, .slice none 0 0] 27)) w1.heap.size 27 [.int .i64 ch, .int .u64 cl, .slice none 0 0] := new_at rfl
  have B3 := B2.alloc B2.size (.cells #[.int .i64 ch, .int .u64 cl, .slice none 0 0] 27)
  have x2 := X3.cell (i := 2) rfl
  have y2 := Y3.cell (i := 2) rfl
  have hs3 : (w1.alloc (.cells #[.int .i64 ch, .int .u64 cl, .slice none 0 0] 27)).heap.size = w1.heap.size + 1 := by simp
  have X3 := Lib.hid X3
  have Y3 := Lib.hid Y3
  have Z3 := Lib.hid Z3
  have R3 := Lib.hid R3
  have B3 := Lib.hid B3
  have S3 := Lib.hid hs3
  clear X2 Y2 Z2 B2 k1 HX HY HZ HB hs3
  go_wp2_with fail
  generalize (w1.alloc (.cells #[.int .i64 ch, .int .u64 cl, .slice none 0 0] 27)) = w3 at *
  generalize w1.heap.size = b5 at *
  obtain ⟨n, hn⟩ : ∃ n, min l.length m.length = n := ⟨_, rfl⟩
  have hnl : n ≤ l.length := by omega
  have hnm : n ≤ m.length := by omega
  rw [hn]
  have HN := Lib.hid hn
  clear x2 y2 hn hmin AC
  rename_i q1 q2 q3 q4 q5 q6 q7 q8 q9
  go_loopw [20] (fun i wr => ∃ (k : Nat) (p : Value), k ≤ n ∧ i = .int .i64 k ∧ Row wr b5 27 [.int .i64 ch, .int .u64 cl, p] ∧ wr.ownsRow (b5 + 1) 24 2 p k (((List.zipWith Wd.add l m).take k).flatMap Wd.cells) ∧ Row wr w.heap.size 27 [.int .i64 h1, .int .u64 l1, .slice a l.length cap] ∧ Row wr (w.heap.size + 1) 27 [.int .i64 h2, .int .u64 l2, .slice b m.length cap2] ∧ Row wr (w.heap.size + 1 + 1) 27 [.int .i64 0, .int .u64 0, .slice none 0 0] ∧ Below w.heap.size w wr ∧ b5 + 1 ≤ wr.heap.size) (fun i _ => n - (intOf i).toNat)
  case atStart => exact ⟨0, .slice none 0 0, by omega, rfl, R3.out, World.ownsRow_nil _ _ _ _, X3.out, Y3.out, Z3.out, B3.out, Nat.le_of_eq S3.out.symm⟩
  case round =>
    clear X3 Y3 Z3 R3 B3 S3
    obtain ⟨k, p, hk, rfl, R, O, X, Y, Z, B, S⟩ := hrel
    have hR := Lib.hid R
    have hO := Lib.hid O
    have hX := Lib.hid X
    have hY := Lib.hid Y
    have hZ := Lib.hid Z
    have hB := Lib.hid B
    clear R O X Y Z B
    by_cases hlt : k < n
    · have hlt' : (k : Int) < (n : Int) := by omega
      obtain ⟨ad, rfl, hlb, za⟩ := HE.out.all (show k < l.length by omega)
      obtain ⟨bd, rfl, hlb2, ya⟩ := GE.out.all (show k < m.length by omega)
      have hsn := zip_take (show k < l.length by omega) (show k < m.length by omega)
      have f1 := HF.out _ (List.getElem_mem (show k < l.length by omega))
      have f2 := GF.out _ (List.getElem_mem (show k < m.length by omega))
      have hkl : k < l.length := by omega
      have hkm : k < m.length := by omega
      have hkl' : (k : Int) < (l.length : Int) := by omega
      have hkm' : (k : Int) < (m.length : Int) := by omega
      generalize l[k] = x at *
      generalize m[k] = y at *
      have AC := Lib.hid (fun w => Wide.add_calls x y f1 f2 w)
      obtain ⟨xh, xl⟩ := x
      obtain ⟨yh, yl⟩ := y
      generalize Wd.add ⟨xh, xl⟩ ⟨yh, yl⟩ = D at *
      obtain ⟨dh, dl⟩ := D
      replace AC : RowKit.Hid (∀ w, Calls Try.prog 75 #[.agg #[.int .i64 xh, .int .u64 xl], .agg #[.int .i64 yh, .int .u64 yl]] w fun e w' => e = .returned (.agg #[.int .i64 dh, .int .u64 dl]) ∧ Below w.heap.size w w') := AC
      have SN := Lib.hid hsn
      clear hsn f1 f2
      have EZ := Lib.hid (show ∀ w', Below w.heap.size w w' → w'.cell? (ad.add (k * 2)) = some (.int .i64 xh) ∧ w'.cell? ⟨(ad.add (k * 2)).block, (ad.add (k * 2)).off + (0 + 1), none⟩ = some (.int .u64 xl) ∧ w'.cell? (bd.add (k * 2)) = some (.int .i64 yh) ∧ w'.cell? ⟨(bd.add (k * 2)).block, (bd.add (k * 2)).off + (0 + 1), none⟩ = some (.int .u64 yl) from fun w' hb => ⟨(za w' hb).1 _ rfl, (za w' hb).2 0 _ rfl, (ya w' hb).1 _ rfl, (ya w' hb).2 0 _ rfl⟩)
      clear za ya
      go_wp2_with fail
      have hR := Lib.hid hR.out.drew
      have hX := Lib.hid hX.out.drew
      have hY := Lib.hid hY.out.drew
      have hZ := Lib.hid hZ.out.drew
      have hB := Lib.hid hB.out.drew
      have hO := Lib.hid (show wr.drew.ownsRow _ _ _ _ _ _ from hO.out)
      replace S : b5 + 1 ≤ wr.drew.heap.size := S
      refine Reg.start (fun w' => w'.cell? ⟨b5, 2, none⟩ = some p ∧ w'.cell? ⟨w.heap.size, 2, none⟩ = some (.slice (some ad) l.length cap) ∧ w'.cell? ⟨w.heap.size + 1, 2, none⟩ = some (.slice (some bd) m.length cap2) ∧ w'.cell? (ad.add (k * 2)) = some (.int .i64 xh) ∧ w'.cell? ⟨(ad.add (k * 2)).block, (ad.add (k * 2)).off + (0 + 1), none⟩ = some (.int .u64 xl) ∧ w'.cell? (bd.add (k * 2)) = some (.int .i64 yh) ∧ w'.cell? ⟨(bd.add (k * 2)).block, (bd.add (k * 2)).off + (0 + 1), none⟩ = some (.int .u64 yl)) (fun i => i == 16) (by kernel_rfl) ⟨hR.out.cell rfl, hX.out.cell rfl, hY.out.cell rfl, EZ.out _ hB.out⟩ (fun hHeld => ?_)
      refine Reg.takeI 0 (v := ?_) rfl (by kernel_rfl) (by kernel_rfl) (by kernel_rfl) (by kernel_rfl) (fun _ _ _ h => h) (by rfl) ?_ hHeld ?_
      rotate_left 1
      · (intro w hSw; (try dsimp only at hSw); go_simp; try with_reducible rfl)
      try simp only [Act.put, List.setIfInBounds_toArray, List.set_cons_zero, List.set_cons_succ]
      refine Reg.takeI 1 (v := ?_) rfl (by kernel_rfl) (by kernel_rfl) (by kernel_rfl) (by kernel_rfl) (fun _ _ _ h => h) (by rfl) ?_ hHeld ?_
      rotate_left 1
      · (intro w hSw; (try dsimp only at hSw); go_simp; try with_reducible rfl)
      try simp only [Act.put, List.setIfInBounds_toArray, List.set_cons_zero, List.set_cons_succ]
      refine Reg.takeI 2 (v := ?_) rfl (by kernel_rfl) (by kernel_rfl) (by kernel_rfl) (by kernel_rfl) (fun _ _ _ h => h) (by rfl) ?_ hHeld ?_
      rotate_left 1
      · (intro w hSw; (try dsimp only at hSw); go_simp; try with_reducible rfl)
      try simp only [Act.put, List.setIfInBounds_toArray, List.set_cons_zero, List.set_cons_succ]
      refine Reg.takeI 3 (v := ?_) rfl (by kernel_rfl) (by kernel_rfl) (by kernel_rfl) (by kernel_rfl) (fun _ _ _ h => h) (by rfl) ?_ hHeld ?_
      rotate_left 1
      · (intro w hSw; (try dsimp only at hSw); go_simp; try with_reducible rfl)
      try simp only [Act.put, List.setIfInBounds_toArray, List.set_cons_zero, List.set_cons_succ]
      refine Reg.takeI 4 (v := ?_) rfl (by kernel_rfl) (by kernel_rfl) (by kernel_rfl) (by kernel_rfl) (fun _ _ _ h => h) (by rfl) ?_ hHeld ?_
      rotate_left 1
      · (intro w hSw; (try dsimp only at hSw); go_simp; try with_reducible rfl)
      try simp only [Act.put, List.setIfInBounds_toArray, List.set_cons_zero, List.set_cons_succ]
      refine Reg.takeI 5 (v := ?_) rfl (by kernel_rfl) (by kernel_rfl) (by kernel_rfl) (by kernel_rfl) (fun _ _ _ h => h) (by rfl) ?_ hHeld ?_
      rotate_left 1
      · (intro w hSw; (try dsimp only at hSw); go_simp; try with_reducible rfl)
      try simp only [Act.put, List.setIfInBounds_toArray, List.set_cons_zero, List.set_cons_succ]
      refine Reg.takeI 6 (v := ?_) rfl (by kernel_rfl) (by kernel_rfl) (by kernel_rfl) (by kernel_rfl) (fun _ _ _ h => h) (by rfl) ?_ hHeld ?_
      rotate_left 1
      · (intro w hSw; (try dsimp only at hSw); go_simp; try with_reducible rfl)
      try simp only [Act.put, List.setIfInBounds_toArray, List.set_cons_zero, List.set_cons_succ]
      refine Reg.takeI 7 (v := ?_) rfl (by kernel_rfl) (by kernel_rfl) (by kernel_rfl) (by kernel_rfl) (fun _ _ _ h => h) (by rfl) ?_ hHeld ?_
      rotate_left 1
      · (intro w hSw; (try dsimp only at hSw); go_simp; try with_reducible rfl)
      try simp only [Act.put, List.setIfInBounds_toArray, List.set_cons_zero, List.set_cons_succ]
      refine Reg.takeI 8 (v := ?_) rfl (by kernel_rfl) (by kernel_rfl) (by kernel_rfl) (by kernel_rfl) (fun _ _ _ h => h) (by rfl) ?_ hHeld ?_
      rotate_left 1
      · (intro w hSw; (try dsimp only at hSw); go_simp; try with_reducible rfl)
      try simp only [Act.put, List.setIfInBounds_toArray, List.set_cons_zero, List.set_cons_succ]
      refine Reg.takeI 9 (v := ?_) rfl (by kernel_rfl) (by kernel_rfl) (by kernel_rfl) (by kernel_rfl) (fun _ _ _ h => h) (by rfl) ?_ hHeld ?_
      rotate_left 1
      · (intro w hSw; (try dsimp only at hSw); go_simp; try with_reducible rfl)
      try simp only [Act.put, List.setIfInBounds_toArray, List.set_cons_zero, List.set_cons_succ]
      refine Reg.takeI 10 (v := ?_) rfl (by kernel_rfl) (by kernel_rfl) (by kernel_rfl) (by kernel_rfl) (fun _ _ _ h => h) (by rfl) ?_ hHeld ?_
      rotate_left 1
      · (intro w hSw; (try dsimp only at hSw); go_simp; try with_reducible rfl)
      try simp only [Act.put, List.setIfInBounds_toArray, List.set_cons_zero, List.set_cons_succ]
      refine Reg.takeI 11 (v := ?_) rfl (by kernel_rfl) (by kernel_rfl) (by kernel_rfl) (by kernel_rfl) (fun _ _ _ h => h) (by rfl) ?_ hHeld ?_
      rotate_left 1
      · (intro w hSw; (try dsimp only at hSw); go_simp; try with_reducible rfl)
      try simp only [Act.put, List.setIfInBounds_toArray, List.set_cons_zero, List.set_cons_succ]
      refine Reg.oneI 12 rfl (by kernel_rfl) (by rfl) (fun K hK => ?_)
      go_simp
      go_at_call 75
      refine (AC.out _).mono ?_
      rintro e w4 ⟨rfl, k4⟩
      have hS4 := k4.size
      replace hR := Lib.hid (hR.out.below k4 hR.out.lt)
      replace hX := Lib.hid (hX.out.below k4 hX.out.lt)
      replace hY := Lib.hid (hY.out.below k4 hY.out.lt)
      replace hZ := Lib.hid (hZ.out.below k4 hZ.out.lt)
      replace hO := Lib.hid (Reel.own_chg hO.out (chg_none k4) (fun _ _ x => x))
      replace hB := Lib.hid (hB.out.trans (k4.mono hB.out.size))
      replace S : b5 + 1 ≤ w4.heap.size := Nat.le_trans S hS4
      clear k4 hS4
      have hR4 := hR
      have hX4 := hX
      have hY4 := hY
      have hZ4 := hZ
      have hB4 := hB
      go_wp2_with fail
      refine hK.out _ _ (fun _ => ⟨hR.out.cell rfl, hX.out.cell rfl, hY.out.cell rfl, EZ.out _ hB.out⟩) (fun hHeld => ?_)
      replace hHeld := hHeld (by first | rfl | trivial)
      clear hK K
      try simp only [Act.put, List.setIfInBounds_toArray, List.set_cons_zero, List.set_cons_succ]
      refine Reg.oneI 13 rfl (by kernel_rfl) (by rfl) (fun K hK => ?_)
      go_simp
      replace hR := Lib.hid (hR.out.alloc (.cells #[.int .i64 dh, .int .u64 dl] 24))
      replace hX := Lib.hid (hX.out.alloc (.cells #[.int .i64 dh, .int .u64 dl] 24))
      replace hY := Lib.hid (hY.out.alloc (.cells #[.int .i64 dh, .int .u64 dl] 24))
      replace hZ := Lib.hid (hZ.out.alloc (.cells #[.int .i64 dh, .int .u64 dl] 24))
      replace hB := Lib.hid (hB.out.alloc hB.out.size (.cells #[.int .i64 dh, .int .u64 dl] 24))
      refine hK.out _ _ (fun _ => ⟨hR.out.cell rfl, hX.out.cell rfl, hY.out.cell rfl, EZ.out _ hB.out⟩) (fun hHeld => ?_)
      replace hHeld := hHeld (by first | rfl | trivial)
      clear hK K
      try simp only [Act.put, List.setIfInBounds_toArray, List.set_cons_zero, List.set_cons_succ]
      refine Reg.oneI 14 rfl (by kernel_rfl) (by rfl) (fun K hK => ?_)
      refine app1_op (news := [.int .i64 dh, .int .u64 dl]) hO.out S 25 Try.underlying25 info_wide wide_size (by decide) (by decide) (by omega) rfl (by simp [Value.oneCell']) rfl rfl rfl ?_
      intro v' w5 O5 G5
      have hne : ∀ j, p.ownBlock = some j → b5 + 1 ≤ j := fun j hj => (hO.out.lt j hj).1
      have C5 : Chg (fun j => b5 + 1 ≤ j) w4 w5 := chg_grown G5 hne
      obtain ⟨a', cap', rfl, _⟩ := Reel.own_shape O5
      replace hR := Lib.hid (hR4.out.chg C5 (by show ¬ b5 + 1 ≤ b5; omega))
      replace hX := Lib.hid (hX4.out.chg C5 (by show ¬ b5 + 1 ≤ w.heap.size; omega))
      replace hY := Lib.hid (hY4.out.chg C5 (by show ¬ b5 + 1 ≤ w.heap.size + 1; omega))
      replace hZ := Lib.hid (hZ4.out.chg C5 (by show ¬ b5 + 1 ≤ w.heap.size + 1 + 1; omega))
      replace hB := Lib.hid (hB4.out.trans (C5.below hB4.out.size (fun b hb => by omega)))
      replace S : b5 + 1 ≤ w5.heap.size := Nat.le_trans S C5.size
      have c2 := hR.out.cell (i := 2) rfl
      have f2 := hR.out.frozen 2 (by simp)
      have HO5 := Lib.hid O5
      clear hR4 hX4 hY4 hZ4 hB4 C5 G5 hne O5 hO
      refine hK.out _ _ (fun _ => ⟨hR.out.cell rfl, hX.out.cell rfl, hY.out.cell rfl, EZ.out _ hB.out⟩) (fun hHeld => ?_)
      replace hHeld := hHeld (by first | rfl | trivial)
      clear hK K
      try simp only [Act.put, List.setIfInBounds_toArray, List.set_cons_zero, List.set_cons_succ]
      refine Reg.takeI 15 (v := ?_) rfl (by kernel_rfl) (by kernel_rfl) (by kernel_rfl) (by kernel_rfl) (fun _ _ _ h => h) (by rfl) ?_ hHeld ?_
      rotate_left 1
      · (intro w hSw; (try dsimp only at hSw); go_simp; try with_reducible rfl)
      try simp only [Act.put, List.setIfInBounds_toArray, List.set_cons_zero, List.set_cons_succ]
      refine Reg.oneI 16 rfl (by kernel_rfl) (by rfl) (fun K hK => ?_)
      go_simp
      refine hK.out _ _ (fun h => by cases h) (fun _ => ?_)
      clear hK K
      try simp only [Act.put, List.setIfInBounds_toArray, List.set_cons_zero, List.set_cons_succ]
      refine Reg.doneI (by kernel_rfl) ?_
      have R6 := Lib.hid ((hR.out.set 2 (.slice a' (k + 1) cap')).cast rfl)
      have X6 := Lib.hid (hX.out.set_ne ⟨b5, 2, none⟩ (.slice a' (k + 1) cap') (by show b5 ≠ w.heap.size; omega))
      have Y6 := Lib.hid (hY.out.set_ne ⟨b5, 2, none⟩ (.slice a' (k + 1) cap') (by show b5 ≠ w.heap.size + 1; omega))
      have Z6 := Lib.hid (hZ.out.set_ne ⟨b5, 2, none⟩ (.slice a' (k + 1) cap') (by show b5 ≠ w.heap.size + 1 + 1; omega))
      have B6 := Lib.hid (hB.out.setCell (p := ⟨b5, 2, none⟩) (by show w.heap.size ≤ b5; omega) (.slice a' (k + 1) cap'))
      have O6 := Lib.hid (Reel.own_chg HO5.out ((Chg.refl (One b5) _).put 2 (.slice a' (k + 1) cap')) (fun j hj x => by have := (HO5.out.lt j hj).1; have e : j = b5 := x; omega))
      have S6 : b5 + 1 ≤ (w5.setCell ⟨b5, 2, none⟩ (.slice a' (k + 1) cap')).heap.size := by simp [World.setCell]; exact S
      clear hR hX hY hZ hB HO5 c2 f2
      go_wp2_with fail
      exact ⟨⟨k + 1, _, by omega, by go_num, R6.out, by rw [SN.out, List.flatMap_append]; exact O6.out, X6.out, Y6.out, Z6.out, B6.out, S6⟩, by simp [intOf]; omega⟩
    · obtain rfl : k = n := by omega
      have hlt' : ¬ (k : Int) < (k : Int) := by omega
      have hzl : (List.zipWith Wd.add l m).length = k := by rw [List.length_zipWith]; exact HN.out
      have hO2 := hO.out
      rw [List.take_of_length_le (Nat.le_of_eq hzl)] at hO2
      obtain ⟨a', cap', rfl, hcap, hW, hbl⟩ := els_own wcells_len hO2 hzl
      have c0 := hR.out.cell (i := 0) rfl
      have c1 := hR.out.cell (i := 1) rfl
      have c2 := hR.out.cell (i := 2) rfl
      have z0 := hZ.out.cell (i := 0) rfl
      have z1 := hZ.out.cell (i := 1) rfl
      have z2 := hZ.out.cell (i := 2) rfl
      have f0 := hZ.out.frozen 0 (by simp)
      have f1 := hZ.out.frozen 1 (by simp)
      have f2 := hZ.out.frozen 2 (by simp)
      have ZF := (((hZ.out.set 0 (.int .i64 ch)).set 1 (.int .u64 cl)).set 2 (.slice a' k cap')).cast (cs' := [.int .i64 ch, .int .u64 cl, .slice a' k cap']) rfl
      have BF := ((hB.out.setCell (p := ⟨w.heap.size + 1 + 1, 0, none⟩) (by show w.heap.size ≤ w.heap.size + 1 + 1; omega) (.int .i64 ch)).setCell (p := ⟨w.heap.size + 1 + 1, 1, none⟩) (by show w.heap.size ≤ w.heap.size + 1 + 1; omega) (.int .u64 cl)).setCell (p := ⟨w.heap.size + 1 + 1, 2, none⟩) (by show w.heap.size ≤ w.heap.size + 1 + 1; omega) (.slice a' k cap')
      have CF := (((Chg.refl (One (w.heap.size + 1 + 1)) wr).put 0 (.int .i64 ch)).put 1 (.int .u64 cl)).put 2 (.slice a' k cap')
      have ZF := Lib.hid ZF
      have BF := Lib.hid BF
      have WF := Lib.hid (hW.chg CF (fun ad had x => by have := hbl ad had; have e : ad.block = w.heap.size + 1 + 1 := x; omega))
      have HZL := Lib.hid hzl
      clear CF hW hbl hO2 hzl
      go_wp2_with fail
      refine ret_row ZF.out Try.results17 Try.underlying27 rfl (by kernel_rfl) rfl rfl ⟨⟨_, rfl, ⟨a', cap', ?_, WF.out⟩, hfit.out, ?_⟩, BF.out⟩
      · show Value.agg #[_, _, .slice a' k cap'] = Value.agg #[_, _, .slice a' (List.zipWith Wd.add l m).length cap']
        rw [HZL.out]
      · show (List.zipWith Wd.add l m).length ≤ _
        rw [HZL.out]
        omega
end Go.Proofs.Ytcfjooeagfollaa.Plan
