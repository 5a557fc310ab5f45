/- NoteBack: the law's walk. -/
import Derived.Test.YthfpliiknifgdaaNoteLaw
namespace Go.Proofs.Ythfpliiknifgdaa.Note
open Go.RowKit Go.Proofs.Ythfpliiknifgdaa.Mem Go.Proofs.Ythfpliiknifgdaa.Bytes
set_option linter.unusedSimpArgs false
set_option linter.unusedVariables false

theorem bytes_same {a b : Rec} (ha : a.good = true) (hb : b.good = true) : a.bytes = b.bytes ↔ a = b := by
  constructor
  · intro h
    have h1 := nOut_app a ha []
    have h2 := nOut_app b hb []
    rw [h] at h1
    rw [h1] at h2
    exact (Prod.mk.inj h2).1
  · intro h
    rw [h]

set_option maxHeartbeats 8000000 in
set_option maxRecDepth 8000 in
theorem back_has (va vb : Value) (a b : Rec) (s : ByteArray) (W : World) (ha : HasRec W va a) (hb : HasRec W vb b) (hs : s.size ≤ 140737488351232) :
    Calls Try.prog 7 #[va, vb, .string s] W fun e w' => e = .returned (.bool true) ∧ Below W.heap.size W w' := by
  have ha0 := ha
  have hb0 := hb
  obtain ⟨a0, n0, c0, a1, n1, c1, a2, n2, c2, rfl, _⟩ := ha
  obtain ⟨b0, m0, d0, b1, m1, d1, b2, m2, d2, rfl, _⟩ := hb
  have xa : Row (W.alloc (.cells (a.cells (.slice a0 n0 c0) (.slice a1 n1 c1) (.slice a2 n2 c2)).toArray 57)) W.heap.size 57 (a.cells (.slice a0 n0 c0) (.slice a1 n1 c1) (.slice a2 n2 c2)) := new_at rfl
  have h1 : Below W.heap.size W (W.alloc (.cells (a.cells (.slice a0 n0 c0) (.slice a1 n1 c1) (.slice a2 n2 c2)).toArray 57)) := (Below.refl _ _).alloc (Nat.le_refl _) _
  have xb : Row ((W.alloc (.cells (a.cells (.slice a0 n0 c0) (.slice a1 n1 c1) (.slice a2 n2 c2)).toArray 57)).alloc (.cells (b.cells (.slice b0 m0 d0) (.slice b1 m1 d1) (.slice b2 m2 d2)).toArray 57)) (W.heap.size + 1) 57 (b.cells (.slice b0 m0 d0) (.slice b1 m1 d1) (.slice b2 m2 d2)) := new_at (by simp)
  replace xa := xa.alloc (.cells (b.cells (.slice b0 m0 d0) (.slice b1 m1 d1) (.slice b2 m2 d2)).toArray 57)
  replace h1 := h1.alloc h1.size (.cells (b.cells (.slice b0 m0 d0) (.slice b1 m1 d1) (.slice b2 m2 d2)).toArray 57)
  have HA : ∀ {w : World}, Below W.heap.size W w → HasRec w (.agg (a.cells (.slice a0 n0 c0) (.slice a1 n1 c1) (.slice a2 n2 c2)).toArray) a := fun h => ha0.keep h
  have HB : ∀ {w : World}, Below W.heap.size W w → HasRec w (.agg (b.cells (.slice b0 m0 d0) (.slice b1 m1 d1) (.slice b2 m2 d2)).toArray) b := fun h => hb0.keep h
  have XA0 := Lib.hid xa
  have XB0 := Lib.hid xb
  have B0 := Lib.hid h1
  clear xa xb h1 ha0 hb0
  go_enter Try.func7, Try.ntmps7
  go_wp2_with fail
  refine (awake_calls _).mono ?_
  rintro e w1 ⟨rfl, hb1⟩
  have XA1 := Lib.hid (XA0.out.below hb1 XA0.out.lt)
  have XB1 := Lib.hid (XB0.out.below hb1 XB0.out.lt)
  have B1 := Lib.hid (B0.out.trans (hb1.mono B0.out.size))
  clear hb1 XA0 XB0 B0
  go_wp2_with (refine load_row XA1.out 57 Try.underlying57 rfl (by kernel_rfl) rfl rfl rfl ?_)
  refine (great_calls _ a _ (HA B1.out)).mono ?_
  rintro e w2 ⟨rfl, hb2⟩
  have XA2 := Lib.hid (XA1.out.below hb2 XA1.out.lt)
  have XB2 := Lib.hid (XB1.out.below hb2 XB1.out.lt)
  have B2 := Lib.hid (B1.out.trans (hb2.mono B1.out.size))
  clear hb2 XA1 XB1 B1
  cases hga : a.great
  rotate_left
  · go_wp2_with fail
    go_ret
    exact ⟨rfl, B2.out⟩
  have SA := Lib.hid (small_of hga)
  clear hga
  go_wp2_with (refine load_row_g XB2.out 57 Try.underlying57 rfl (by kernel_rfl) (by rfl) rfl rfl ?_)
  refine (great_calls _ b _ (HB B2.out)).mono ?_
  rintro e w3 ⟨rfl, hb3⟩
  have XA3 := Lib.hid (XA2.out.below hb3 XA2.out.lt)
  have XB3 := Lib.hid (XB2.out.below hb3 XB2.out.lt)
  have B3 := Lib.hid (B2.out.trans (hb3.mono B2.out.size))
  clear hb3 XA2 XB2 B2
  cases hgb : b.great
  rotate_left
  · go_wp2_with fail
    go_ret
    exact ⟨rfl, B3.out⟩
  have SB := Lib.hid (small_of hgb)
  clear hgb
  by_cases hlong : 4096 < s.size
  · have hl1 : (4096 : Int) < (s.size : Int) := by omega
    go_wp2_with fail
    go_ret
    exact ⟨rfl, B3.out⟩
  have hl1 : ¬ (4096 : Int) < (s.size : Int) := by omega
  have hl2 : decide ((4096 : Int) < (s.size : Int)) = false := by simp; omega
  go_wp2_with fail
  refine (read_calls s _ (by omega)).mono ?_
  rintro e w4 ⟨hro, hb4⟩
  have XA4 := Lib.hid (XA3.out.below hb4 XA3.out.lt)
  have XB4 := Lib.hid (XB3.out.below hb4 XB3.out.lt)
  have B4 := Lib.hid (B3.out.trans (hb4.mono B3.out.size))
  clear hb4 XA3 XB3 B3
  have hz4 : Row (w4.alloc (.cells noCells.toArray 57)) w4.heap.size 57 noCells := new_at rfl
  have hbz4 : Below w4.heap.size w4 (w4.alloc (.cells noCells.toArray 57)) := (Below.refl _ _).alloc (Nat.le_refl _) _
  cases hR : nRead s.data.toList with
  | none =>
    rw [nOut_none hR] at hro
    obtain ⟨v, rfl, hv⟩ := hro
    obtain ⟨i0, j0, k0, i1, j1, k1, i2, j2, k2, rfl, _⟩ := hv
    go_wp2_with (first
      | (refine store_row hz4 (noRec.cells (.slice i0 j0 k0) (.slice i1 j1 k1) (.slice i2 j2 k2)) 57 (by kernel_rfl) rfl (cells_one _ _ _ _ _ _ _ _ _ _) rfl rfl rfl rfl ?_
         intro w5 hR5 hc5 hs5
         have hw5 := below_one' hbz4 hc5 hbz4.size (Nat.le_refl _)
         have XA9 := Lib.hid (XA4.out.below hw5 XA4.out.lt)
         have XB9 := Lib.hid (XB4.out.below hw5 XB4.out.lt)
         have B9 := Lib.hid (B4.out.trans (hw5.mono B4.out.size))
         clear hR5 hc5 hs5 hw5)
      | (refine load_row XA9.out 57 Try.underlying57 rfl (by kernel_rfl) rfl rfl rfl ?_))
    refine (ngood_calls _ a _ (HA B9.out)).mono ?_
    clear hR hz4 hbz4 XA4 XB4 B4
    rintro e w10 ⟨rfl, hb10⟩
    have XA10 := Lib.hid (XA9.out.below hb10 XA9.out.lt)
    have XB10 := Lib.hid (XB9.out.below hb10 XB9.out.lt)
    have B10 := Lib.hid (B9.out.trans (hb10.mono B9.out.size))
    clear hb10 XA9 XB9 B9
    cases hga : a.good
    · go_wp2_with fail
      go_ret
      exact ⟨rfl, B10.out⟩
    have GA := Lib.hid hga
    clear hga
    go_wp2_with (refine load_row_g XB10.out 57 Try.underlying57 rfl (by kernel_rfl) (by rfl) rfl rfl ?_)
    refine (ngood_calls _ b _ (HB B10.out)).mono ?_
    rintro e w11 ⟨rfl, hb11⟩
    have XA11 := Lib.hid (XA10.out.below hb11 XA10.out.lt)
    have XB11 := Lib.hid (XB10.out.below hb11 XB10.out.lt)
    have B11 := Lib.hid (B10.out.trans (hb11.mono B10.out.size))
    clear hb11 XA10 XB10 B10
    cases hgb : b.good
    · go_wp2_with fail
      go_ret
      exact ⟨rfl, B11.out⟩
    have GB := Lib.hid hgb
    clear hgb
    have hya := fun v w h => nbytes_calls v a w h
    have hyb := fun v w h => nbytes_calls v b w h
    rw [show bytesOut a = (a.bytes, 0) by simp [bytesOut, GA.out]] at hya
    rw [show bytesOut b = (b.bytes, 0) by simp [bytesOut, GB.out]] at hyb
    have YA := Lib.hid hya
    have YB := Lib.hid hyb
    clear hya hyb
    go_wp2_with (refine load_row XA11.out 57 Try.underlying57 rfl (by kernel_rfl) rfl rfl rfl ?_)
    refine (YA.out _ _ (HA B11.out)).mono ?_
    rintro e w12 ⟨rfl, hb12⟩
    have XA12 := Lib.hid (XA11.out.below hb12 XA11.out.lt)
    have XB12 := Lib.hid (XB11.out.below hb12 XB11.out.lt)
    have B12 := Lib.hid (B11.out.trans (hb12.mono B11.out.size))
    clear hb12 XA11 XB11 B11
    go_wp2_with (refine load_row XB12.out 57 Try.underlying57 rfl (by kernel_rfl) rfl rfl rfl ?_)
    refine (YB.out _ _ (HB B12.out)).mono ?_
    rintro e w13 ⟨rfl, hb13⟩
    have XA13 := Lib.hid (XA12.out.below hb13 XA12.out.lt)
    have XB13 := Lib.hid (XB12.out.below hb13 XB12.out.lt)
    have B13 := Lib.hid (B12.out.trans (hb13.mono B12.out.size))
    clear hb13 XA12 XB12 B12
    have la := (good_bytes GA.out).2
    have lb := (good_bytes GB.out).2
    have za : (bs a.bytes).size = a.bytes.length := rfl
    have zb : (bs b.bytes).size = b.bytes.length := rfl
    have k1 : ¬ 9223372036854775807 < a.bytes.length + b.bytes.length := by omega
    have k2 : ¬ 9223372036854775807 < a.bytes.length + b.bytes.length + s.size := by omega
    have hcat : bs a.bytes ++ bs b.bytes ++ s = bs (a.bytes ++ (b.bytes ++ s.data.toList)) := by simp only [app_bs, bs_data, List.append_assoc]
    have hsz : (bs a.bytes ++ bs b.bytes ++ s).size ≤ 100000 := by
      have e : s.data.toList.length = s.size := rfl
      rw [hcat, bs_size, List.length_append, List.length_append, e]
      omega
    have hn : nOut (bs a.bytes ++ bs b.bytes ++ s).data.toList = (a, a.bytes.length, 0) := by rw [hcat, bs_data, nOut_app a GA.out]
    have NA := Lib.hid hn
    have HC := Lib.hid hcat
    clear hn hcat
    go_wp2_with fail
    refine (read_calls _ _ hsz).mono ?_
    rintro e w14 ⟨hro, hb14⟩
    have XA14 := Lib.hid (XA13.out.below hb14 XA13.out.lt)
    have XB14 := Lib.hid (XB13.out.below hb14 XB13.out.lt)
    have B14 := Lib.hid (B13.out.trans (hb14.mono B13.out.size))
    clear hb14 XA13 XB13 B13
    rw [NA.out] at hro
    obtain ⟨v, rfl, hv⟩ := hro
    have HV := Lib.hid hv
    obtain ⟨i0, j0, k0, i1, j1, k1', i2, j2, k2', rfl, _⟩ := hv
    have hz14 : Row (w14.alloc (.cells noCells.toArray 57)) w14.heap.size 57 noCells := new_at rfl
    have hbz14 : Below w14.heap.size w14 (w14.alloc (.cells noCells.toArray 57)) := (Below.refl _ _).alloc (Nat.le_refl _) _
    go_wp2_with (first
      | (refine store_row hz14 (a.cells (.slice i0 j0 k0) (.slice i1 j1 k1') (.slice i2 j2 k2')) 57 (by kernel_rfl) rfl (cells_one _ _ _ _ _ _ _ _ _ _) rfl rfl rfl rfl ?_
         intro w15 hR15 hc15 hs15
         have hw15 := below_one' hbz14 hc15 hbz14.size (Nat.le_refl _)
         have XA15 := Lib.hid (XA14.out.below hw15 XA14.out.lt)
         have XB15 := Lib.hid (XB14.out.below hw15 XB14.out.lt)
         have B15 := Lib.hid (B14.out.trans (hw15.mono B14.out.size))
         have HV15 := Lib.hid (HV.out.keep hw15)
         clear hc15 hs15 hw15)
      | (refine load_row_g hR15 57 Try.underlying57 rfl (by kernel_rfl) (by rfl) rfl rfl ?_)
      | (refine load_row_g XA15.out 57 Try.underlying57 rfl (by kernel_rfl) (by rfl) rfl rfl ?_))
    refine (same_calls _ _ a a _ HV15.out (HA B15.out) SA.out).mono ?_
    rintro e w16 ⟨rfl, hb16⟩
    have XA16 := Lib.hid (XA15.out.below hb16 XA15.out.lt)
    have XB16 := Lib.hid (XB15.out.below hb16 XB15.out.lt)
    have B16 := Lib.hid (B15.out.trans (hb16.mono B15.out.size))
    clear hb16 XA15 XB15 B15
    rw [same_self]
    have k3 : a.bytes.length ≤ a.bytes.length + b.bytes.length + s.size := by omega
    have k4 : (a.bytes.length : Int) ≤ (a.bytes.length : Int) + (b.bytes.length : Int) + (s.size : Int) := by omega
    have k5 : a.bytes.length ≤ (bs a.bytes ++ bs b.bytes ++ s).size := by simp only [ByteArray.size_append, za, zb]; omega
    have hex : (bs a.bytes ++ bs b.bytes ++ s).extract a.bytes.length (a.bytes.length + b.bytes.length + s.size) = bs (b.bytes ++ s.data.toList) := by
      have e : s.data.toList.length = s.size := rfl
      have e2 : (bs (a.bytes ++ (b.bytes ++ s.data.toList))).size = a.bytes.length + b.bytes.length + s.size := by rw [bs_size, List.length_append, List.length_append, e]; omega
      rw [HC.out, ← e2, extract_drop, bs_data, List.drop_left]
    have hn2 : nOut (bs (b.bytes ++ s.data.toList)).data.toList = (b, b.bytes.length, 0) := by rw [bs_data, nOut_app b GB.out]
    have hsz2 : (bs (b.bytes ++ s.data.toList)).size ≤ 100000 := by
      have e : s.data.toList.length = s.size := rfl
      rw [bs_size, List.length_append, e]
      omega
    have HEX := Lib.hid hex
    have N2 := Lib.hid hn2
    clear hex hn2
    go_wp2_with fail
    rw [HEX.out]
    refine (read_calls _ _ hsz2).mono ?_
    rintro e w17 ⟨hro, hb17⟩
    have XA17 := Lib.hid (XA16.out.below hb17 XA16.out.lt)
    have XB17 := Lib.hid (XB16.out.below hb17 XB16.out.lt)
    have B17 := Lib.hid (B16.out.trans (hb17.mono B16.out.size))
    clear hb17 XA16 XB16 B16
    rw [N2.out] at hro
    obtain ⟨v, rfl, hv⟩ := hro
    have HV17 := Lib.hid hv
    obtain ⟨p0, q0, r0, p1, q1, r1, p2, q2, r2, rfl, _⟩ := hv
    have hz17 : Row (w17.alloc (.cells noCells.toArray 57)) w17.heap.size 57 noCells := new_at rfl
    have hbz17 : Below w17.heap.size w17 (w17.alloc (.cells noCells.toArray 57)) := (Below.refl _ _).alloc (Nat.le_refl _) _
    clear k1 k2 k3 k4 k5 hsz hsz2
    go_wp2_with (first
      | (refine store_row hz17 (b.cells (.slice p0 q0 r0) (.slice p1 q1 r1) (.slice p2 q2 r2)) 57 (by kernel_rfl) rfl (cells_one _ _ _ _ _ _ _ _ _ _) rfl rfl rfl rfl ?_
         intro w18 hR18 hc18 hs18
         have hw18 := below_one' hbz17 hc18 hbz17.size (Nat.le_refl _)
         have XA18 := Lib.hid (XA17.out.below hw18 XA17.out.lt)
         have XB18 := Lib.hid (XB17.out.below hw18 XB17.out.lt)
         have B18 := Lib.hid (B17.out.trans (hw18.mono B17.out.size))
         have HV18 := Lib.hid (HV17.out.keep hw18)
         clear hc18 hs18 hw18)
      | (refine load_row_g hR18 57 Try.underlying57 rfl (by kernel_rfl) (by rfl) rfl rfl ?_)
      | (refine load_row_g XB18.out 57 Try.underlying57 rfl (by kernel_rfl) (by rfl) rfl rfl ?_))
    refine (same_calls _ _ b b _ HV18.out (HB B18.out) SB.out).mono ?_
    rintro e w19 ⟨rfl, hb19⟩
    have XA19 := Lib.hid (XA18.out.below hb19 XA18.out.lt)
    have XB19 := Lib.hid (XB18.out.below hb19 XB18.out.lt)
    have B19 := Lib.hid (B18.out.trans (hb19.mono B18.out.size))
    clear hb19 XA18 XB18 B18 hR18 HV18
    rw [same_self]
    have heq : ((bs a.bytes).toList == (bs b.bytes).toList) = a.same b := by
      rw [Bool.eq_iff_iff, beq_iff_eq, Bytes.toList_inj, Rec.same_iff]
      constructor
      · intro h
        exact (bytes_same GA.out GB.out).1 (bs_inj h)
      · intro h
        rw [h]
    go_wp2_with (first
      | (refine load_row_g XA19.out 57 Try.underlying57 rfl (by kernel_rfl) (by rfl) rfl rfl ?_)
      | (refine load_row_g XB19.out 57 Try.underlying57 rfl (by kernel_rfl) (by rfl) rfl rfl ?_))
    refine (same_calls _ _ a b _ (HA B19.out) (HB B19.out) SA.out).mono ?_
    rintro e w20 ⟨rfl, hb20⟩
    have hfin := B19.out.trans (hb20.mono B19.out.size)
    go_wp2_with fail
    go_ret
    exact ⟨by simp, hfin⟩
  | some p =>
    obtain ⟨ro, no⟩ := p
    obtain ⟨hrg, hrn, t, hrt⟩ := (nRead_iff _ _ _).1 hR
    have hbo : bytesOut ro = (ro.bytes, 0) := by simp [bytesOut, hrg]
    have hl : s.size = s.data.toList.length := rfl
    have hno : no ≤ s.size := by rw [hl, hrt, hrn, List.length_append]; omega
    have hex : s.extract 0 no = bs ro.bytes := by rw [extract_take, hrt, hrn]; simp
    have hle : ¬ (s.size : Int) < (no : Int) := by omega
    have hY := nbytes_calls
    have hYr := fun v w h => hY v ro w h
    rw [hbo] at hYr
    rw [nOut_some hR] at hro
    have hq1 : ((bs ro.bytes).toList == (s.extract 0 no).toList) = true := by rw [hex]; simp
    have Y := Lib.hid hYr
    clear hYr hY hbo hrt hrn hl hex
    obtain ⟨v, rfl, hv⟩ := hro
    have HV := Lib.hid hv
    obtain ⟨i0, j0, k0, i1, j1, k1, i2, j2, k2, rfl, _⟩ := hv
    go_wp2_with (first
      | (refine store_row hz4 (ro.cells (.slice i0 j0 k0) (.slice i1 j1 k1) (.slice i2 j2 k2)) 57 (by kernel_rfl) rfl (cells_one _ _ _ _ _ _ _ _ _ _) rfl rfl rfl rfl ?_
         intro w5 hR5 hc5 hs5
         have hw5 := below_one' hbz4 hc5 hbz4.size (Nat.le_refl _)
         have XA5 := Lib.hid (XA4.out.below hw5 XA4.out.lt)
         have XB5 := Lib.hid (XB4.out.below hw5 XB4.out.lt)
         have B5 := Lib.hid (B4.out.trans (hw5.mono B4.out.size))
         have HV5 := Lib.hid (HV.out.keep hw5)
         clear hc5 hs5 hw5)
      | (refine load_row hR5 57 Try.underlying57 rfl (by kernel_rfl) rfl rfl rfl ?_))
    refine (Y.out _ _ HV5.out).mono ?_
    rintro e w6 ⟨rfl, hb6⟩
    have XA9 := Lib.hid (XA5.out.below hb6 XA5.out.lt)
    have XB9 := Lib.hid (XB5.out.below hb6 XB5.out.lt)
    have B9 := Lib.hid (B5.out.trans (hb6.mono B5.out.size))
    clear hb6 XA5 XB5 B5 XA4 XB4 B4 hz4 hbz4 hR HV HV5 Y hR5
    go_wp2_with (refine load_row XA9.out 57 Try.underlying57 rfl (by kernel_rfl) rfl rfl rfl ?_)
    refine (ngood_calls _ a _ (HA B9.out)).mono ?_
    clear hq1 hle hno
    rintro e w10 ⟨rfl, hb10⟩
    have XA10 := Lib.hid (XA9.out.below hb10 XA9.out.lt)
    have XB10 := Lib.hid (XB9.out.below hb10 XB9.out.lt)
    have B10 := Lib.hid (B9.out.trans (hb10.mono B9.out.size))
    clear hb10 XA9 XB9 B9
    cases hga : a.good
    · go_wp2_with fail
      go_ret
      exact ⟨rfl, B10.out⟩
    have GA := Lib.hid hga
    clear hga
    go_wp2_with (refine load_row_g XB10.out 57 Try.underlying57 rfl (by kernel_rfl) (by rfl) rfl rfl ?_)
    refine (ngood_calls _ b _ (HB B10.out)).mono ?_
    rintro e w11 ⟨rfl, hb11⟩
    have XA11 := Lib.hid (XA10.out.below hb11 XA10.out.lt)
    have XB11 := Lib.hid (XB10.out.below hb11 XB10.out.lt)
    have B11 := Lib.hid (B10.out.trans (hb11.mono B10.out.size))
    clear hb11 XA10 XB10 B10
    cases hgb : b.good
    · go_wp2_with fail
      go_ret
      exact ⟨rfl, B11.out⟩
    have GB := Lib.hid hgb
    clear hgb
    have hya := fun v w h => nbytes_calls v a w h
    have hyb := fun v w h => nbytes_calls v b w h
    rw [show bytesOut a = (a.bytes, 0) by simp [bytesOut, GA.out]] at hya
    rw [show bytesOut b = (b.bytes, 0) by simp [bytesOut, GB.out]] at hyb
    have YA := Lib.hid hya
    have YB := Lib.hid hyb
    clear hya hyb
    go_wp2_with (refine load_row XA11.out 57 Try.underlying57 rfl (by kernel_rfl) rfl rfl rfl ?_)
    refine (YA.out _ _ (HA B11.out)).mono ?_
    rintro e w12 ⟨rfl, hb12⟩
    have XA12 := Lib.hid (XA11.out.below hb12 XA11.out.lt)
    have XB12 := Lib.hid (XB11.out.below hb12 XB11.out.lt)
    have B12 := Lib.hid (B11.out.trans (hb12.mono B11.out.size))
    clear hb12 XA11 XB11 B11
    go_wp2_with (refine load_row XB12.out 57 Try.underlying57 rfl (by kernel_rfl) rfl rfl rfl ?_)
    refine (YB.out _ _ (HB B12.out)).mono ?_
    rintro e w13 ⟨rfl, hb13⟩
    have XA13 := Lib.hid (XA12.out.below hb13 XA12.out.lt)
    have XB13 := Lib.hid (XB12.out.below hb13 XB12.out.lt)
    have B13 := Lib.hid (B12.out.trans (hb13.mono B12.out.size))
    clear hb13 XA12 XB12 B12
    have la := (good_bytes GA.out).2
    have lb := (good_bytes GB.out).2
    have za : (bs a.bytes).size = a.bytes.length := rfl
    have zb : (bs b.bytes).size = b.bytes.length := rfl
    have k1 : ¬ 9223372036854775807 < a.bytes.length + b.bytes.length := by omega
    have k2 : ¬ 9223372036854775807 < a.bytes.length + b.bytes.length + s.size := by omega
    have hcat : bs a.bytes ++ bs b.bytes ++ s = bs (a.bytes ++ (b.bytes ++ s.data.toList)) := by simp only [app_bs, bs_data, List.append_assoc]
    have hsz : (bs a.bytes ++ bs b.bytes ++ s).size ≤ 100000 := by
      have e : s.data.toList.length = s.size := rfl
      rw [hcat, bs_size, List.length_append, List.length_append, e]
      omega
    have hn : nOut (bs a.bytes ++ bs b.bytes ++ s).data.toList = (a, a.bytes.length, 0) := by rw [hcat, bs_data, nOut_app a GA.out]
    have NA := Lib.hid hn
    have HC := Lib.hid hcat
    clear hn hcat
    go_wp2_with fail
    refine (read_calls _ _ hsz).mono ?_
    rintro e w14 ⟨hro, hb14⟩
    have XA14 := Lib.hid (XA13.out.below hb14 XA13.out.lt)
    have XB14 := Lib.hid (XB13.out.below hb14 XB13.out.lt)
    have B14 := Lib.hid (B13.out.trans (hb14.mono B13.out.size))
    clear hb14 XA13 XB13 B13
    rw [NA.out] at hro
    obtain ⟨v, rfl, hv⟩ := hro
    have HV := Lib.hid hv
    obtain ⟨i0, j0, k0, i1, j1, k1', i2, j2, k2', rfl, _⟩ := hv
    have hz14 : Row (w14.alloc (.cells noCells.toArray 57)) w14.heap.size 57 noCells := new_at rfl
    have hbz14 : Below w14.heap.size w14 (w14.alloc (.cells noCells.toArray 57)) := (Below.refl _ _).alloc (Nat.le_refl _) _
    go_wp2_with (first
      | (refine store_row hz14 (a.cells (.slice i0 j0 k0) (.slice i1 j1 k1') (.slice i2 j2 k2')) 57 (by kernel_rfl) rfl (cells_one _ _ _ _ _ _ _ _ _ _) rfl rfl rfl rfl ?_
         intro w15 hR15 hc15 hs15
         have hw15 := below_one' hbz14 hc15 hbz14.size (Nat.le_refl _)
         have XA15 := Lib.hid (XA14.out.below hw15 XA14.out.lt)
         have XB15 := Lib.hid (XB14.out.below hw15 XB14.out.lt)
         have B15 := Lib.hid (B14.out.trans (hw15.mono B14.out.size))
         have HV15 := Lib.hid (HV.out.keep hw15)
         clear hc15 hs15 hw15)
      | (refine load_row_g hR15 57 Try.underlying57 rfl (by kernel_rfl) (by rfl) rfl rfl ?_)
      | (refine load_row_g XA15.out 57 Try.underlying57 rfl (by kernel_rfl) (by rfl) rfl rfl ?_))
    refine (same_calls _ _ a a _ HV15.out (HA B15.out) SA.out).mono ?_
    rintro e w16 ⟨rfl, hb16⟩
    have XA16 := Lib.hid (XA15.out.below hb16 XA15.out.lt)
    have XB16 := Lib.hid (XB15.out.below hb16 XB15.out.lt)
    have B16 := Lib.hid (B15.out.trans (hb16.mono B15.out.size))
    clear hb16 XA15 XB15 B15
    rw [same_self]
    have k3 : a.bytes.length ≤ a.bytes.length + b.bytes.length + s.size := by omega
    have k4 : (a.bytes.length : Int) ≤ (a.bytes.length : Int) + (b.bytes.length : Int) + (s.size : Int) := by omega
    have k5 : a.bytes.length ≤ (bs a.bytes ++ bs b.bytes ++ s).size := by simp only [ByteArray.size_append, za, zb]; omega
    have hex : (bs a.bytes ++ bs b.bytes ++ s).extract a.bytes.length (a.bytes.length + b.bytes.length + s.size) = bs (b.bytes ++ s.data.toList) := by
      have e : s.data.toList.length = s.size := rfl
      have e2 : (bs (a.bytes ++ (b.bytes ++ s.data.toList))).size = a.bytes.length + b.bytes.length + s.size := by rw [bs_size, List.length_append, List.length_append, e]; omega
      rw [HC.out, ← e2, extract_drop, bs_data, List.drop_left]
    have hn2 : nOut (bs (b.bytes ++ s.data.toList)).data.toList = (b, b.bytes.length, 0) := by rw [bs_data, nOut_app b GB.out]
    have hsz2 : (bs (b.bytes ++ s.data.toList)).size ≤ 100000 := by
      have e : s.data.toList.length = s.size := rfl
      rw [bs_size, List.length_append, e]
      omega
    have HEX := Lib.hid hex
    have N2 := Lib.hid hn2
    clear hex hn2
    go_wp2_with fail
    rw [HEX.out]
    refine (read_calls _ _ hsz2).mono ?_
    rintro e w17 ⟨hro, hb17⟩
    have XA17 := Lib.hid (XA16.out.below hb17 XA16.out.lt)
    have XB17 := Lib.hid (XB16.out.below hb17 XB16.out.lt)
    have B17 := Lib.hid (B16.out.trans (hb17.mono B16.out.size))
    clear hb17 XA16 XB16 B16
    rw [N2.out] at hro
    obtain ⟨v, rfl, hv⟩ := hro
    have HV17 := Lib.hid hv
    obtain ⟨p0, q0, r0, p1, q1, r1, p2, q2, r2, rfl, _⟩ := hv
    have hz17 : Row (w17.alloc (.cells noCells.toArray 57)) w17.heap.size 57 noCells := new_at rfl
    have hbz17 : Below w17.heap.size w17 (w17.alloc (.cells noCells.toArray 57)) := (Below.refl _ _).alloc (Nat.le_refl _) _
    clear k1 k2 k3 k4 k5 hsz hsz2
    go_wp2_with (first
      | (refine store_row hz17 (b.cells (.slice p0 q0 r0) (.slice p1 q1 r1) (.slice p2 q2 r2)) 57 (by kernel_rfl) rfl (cells_one _ _ _ _ _ _ _ _ _ _) rfl rfl rfl rfl ?_
         intro w18 hR18 hc18 hs18
         have hw18 := below_one' hbz17 hc18 hbz17.size (Nat.le_refl _)
         have XA18 := Lib.hid (XA17.out.below hw18 XA17.out.lt)
         have XB18 := Lib.hid (XB17.out.below hw18 XB17.out.lt)
         have B18 := Lib.hid (B17.out.trans (hw18.mono B17.out.size))
         have HV18 := Lib.hid (HV17.out.keep hw18)
         clear hc18 hs18 hw18)
      | (refine load_row_g hR18 57 Try.underlying57 rfl (by kernel_rfl) (by rfl) rfl rfl ?_)
      | (refine load_row_g XB18.out 57 Try.underlying57 rfl (by kernel_rfl) (by rfl) rfl rfl ?_))
    refine (same_calls _ _ b b _ HV18.out (HB B18.out) SB.out).mono ?_
    rintro e w19 ⟨rfl, hb19⟩
    have XA19 := Lib.hid (XA18.out.below hb19 XA18.out.lt)
    have XB19 := Lib.hid (XB18.out.below hb19 XB18.out.lt)
    have B19 := Lib.hid (B18.out.trans (hb19.mono B18.out.size))
    clear hb19 XA18 XB18 B18 hR18 HV18
    rw [same_self]
    have heq : ((bs a.bytes).toList == (bs b.bytes).toList) = a.same b := by
      rw [Bool.eq_iff_iff, beq_iff_eq, Bytes.toList_inj, Rec.same_iff]
      constructor
      · intro h
        exact (bytes_same GA.out GB.out).1 (bs_inj h)
      · intro h
        rw [h]
    go_wp2_with (first
      | (refine load_row_g XA19.out 57 Try.underlying57 rfl (by kernel_rfl) (by rfl) rfl rfl ?_)
      | (refine load_row_g XB19.out 57 Try.underlying57 rfl (by kernel_rfl) (by rfl) rfl rfl ?_))
    refine (same_calls _ _ a b _ (HA B19.out) (HB B19.out) SA.out).mono ?_
    rintro e w20 ⟨rfl, hb20⟩
    have hfin := B19.out.trans (hb20.mono B19.out.size)
    go_wp2_with fail
    go_ret
    exact ⟨by simp, hfin⟩

theorem back_row (cs : List Value) (y : YRec) (ds : List Value) (z : YRec) (s : ByteArray) (W : World) (h : cRec.R W cs y) (g : cRec.R W ds z) (hs : s.size ≤ 140737488351232) :
    Calls Try.prog 7 #[.agg cs.toArray, .agg ds.toArray, .string s] W fun e w' => e = .returned (.bool true) ∧ Below W.heap.size W w' := back_has _ _ (toRec y) (toRec z) s W (rec_in h) (rec_in g) hs

end Go.Proofs.Ythfpliiknifgdaa.Note
