/- NoteExact: the law's walk. -/
import Derived.Test.YthfpliiknifgdaaNoteAwake
namespace Go.Proofs.Ythfpliiknifgdaa.Note
open Go.RowKit Go.Proofs.Ythfpliiknifgdaa.Mem Go.Proofs.Ythfpliiknifgdaa.Bytes
set_option linter.unusedSimpArgs false
set_option linter.unusedVariables false

theorem small_of {r : Rec} (h : r.great = false) : Small r := by
  simp only [Rec.great, Bool.or_eq_false_iff, decide_eq_false_iff_not] at h
  obtain ⟨⟨⟨⟨⟨h1, h2⟩, h3⟩, h4⟩, h5⟩, h6⟩ := h
  exact ⟨by omega, by omega, by omega, by omega, by omega⟩
/-- What Read reads, of a text that is not long, is of few parts. -/
theorem small_of_read {l : List UInt8} {r : Rec} {n : Nat} (h : nRead l = some (r, n)) : Small r := by
  obtain ⟨hg, _⟩ := (nRead_iff _ _ _).1 h
  obtain ⟨_, _, _, _, _, _, ks, vs, c1, c2, c3, _⟩ := good_nums hg
  exact ⟨by omega, by omega, by omega, by omega, by omega⟩
theorem noRec_small : Small noRec := ⟨by decide, by decide, by decide, by decide, by decide⟩
theorem out_small (l : List UInt8) : Small (nOut l).1 := by
  cases h : nRead l with
  | none => rw [nOut_none h]; exact noRec_small
  | some p => obtain ⟨r, n⟩ := p; rw [nOut_some h]; exact small_of_read h
theorem same_self (r : Rec) : r.same r = true := Rec.same_iff.2 rfl

set_option maxHeartbeats 8000000 in
set_option maxRecDepth 8000 in
theorem exact_has (v : Value) (r : Rec) (s : ByteArray) (W : World) (h : HasRec W v r) (hs : s.size ≤ 140737488351232) :
    Calls Try.prog 6 #[v, .string s] W fun e w' => e = .returned (.bool true) ∧ Below W.heap.size W w' := by
  have h0 := h
  obtain ⟨a0, n0, c0, a1, n1, c1, a2, n2, c2, rfl, p0, p1, p2, z0, z1, z2⟩ := h
  have hX : Row (W.alloc (.cells (r.cells (.slice a0 n0 c0) (.slice a1 n1 c1) (.slice a2 n2 c2)).toArray 57)) W.heap.size 57 (r.cells (.slice a0 n0 c0) (.slice a1 n1 c1) (.slice a2 n2 c2)) := new_at rfl
  have hb : Below W.heap.size W (W.alloc (.cells (r.cells (.slice a0 n0 c0) (.slice a1 n1 c1) (.slice a2 n2 c2)).toArray 57)) := (Below.refl _ _).alloc (Nat.le_refl _) _
  have HK : ∀ {w : World}, Below W.heap.size W w → HasRec w (.agg (r.cells (.slice a0 n0 c0) (.slice a1 n1 c1) (.slice a2 n2 c2)).toArray) r := fun hb => h0.keep hb
  clear p0 p1 p2 h0
  go_enter Try.func6, Try.ntmps6
  go_wp2_with fail
  refine (awake_calls _).mono ?_
  rintro e w1 ⟨rfl, hb1⟩
  replace hX := hX.below hb1 hX.lt
  replace hb := hb.trans (hb1.mono hb.size)
  clear hb1
  have X1 := Lib.hid hX
  have B1 := Lib.hid hb
  clear hX hb
  go_wp2_with (refine load_row X1.out 57 Try.underlying57 rfl (by kernel_rfl) rfl rfl rfl ?_)
  refine (great_calls _ r _ (HK B1.out)).mono ?_
  rintro e w2 ⟨rfl, hb2⟩
  have X2 := Lib.hid (X1.out.below hb2 X1.out.lt)
  have B2 := Lib.hid (B1.out.trans (hb2.mono B1.out.size))
  clear hb2 X1 B1
  cases hgr : r.great
  · by_cases hlong : 4096 < s.size
    · have hl1 : (4096 : Int) < (s.size : Int) := by omega
      clear hgr
      go_wp2_with fail
      go_ret
      exact ⟨rfl, B2.out⟩
    · have hl1 : ¬ (4096 : Int) < (s.size : Int) := by omega
      have hl2 : decide ((4096 : Int) < (s.size : Int)) = false := by simp; omega
      have hsm := Lib.hid (small_of hgr)
      clear hgr
      have hG := refgood_calls (.agg (r.cells (.slice a0 n0 c0) (.slice a1 n1 c1) (.slice a2 n2 c2)).toArray) r
      have hY := nbytes_calls (.agg (r.cells (.slice a0 n0 c0) (.slice a1 n1 c1) (.slice a2 n2 c2)).toArray) r
      have hN := ngood_calls (.agg (r.cells (.slice a0 n0 c0) (.slice a1 n1 c1) (.slice a2 n2 c2)).toArray) r
      have hS := nsize_calls (.agg (r.cells (.slice a0 n0 c0) (.slice a1 n1 c1) (.slice a2 n2 c2)).toArray) r
      cases hgd : r.good
      · have hbo : bytesOut r = ([], 1) := by simp [bytesOut, hgd]
        have hz : r.size = 0 := by simp [Rec.size, hgd]
        rw [hgd] at hG hN
        rw [hbo] at hY
        rw [hz] at hS
        have hne : (bs []).toList = [] := bs_toList []
        have G := Lib.hid hG
        have Y := Lib.hid hY
        have N := Lib.hid hN
        have S := Lib.hid hS
        clear hG hY hN hS hgd hbo hz
        go_wp2_with (refine load_row X2.out 57 Try.underlying57 rfl (by kernel_rfl) rfl rfl rfl ?_)
        refine (G.out _ (HK B2.out) hsm.out).mono ?_
        rintro e w3 ⟨rfl, hb3⟩
        have X3 := Lib.hid (X2.out.below hb3 X2.out.lt)
        have B3 := Lib.hid (B2.out.trans (hb3.mono B2.out.size))
        clear hb3
        go_wp2_with (refine load_row X3.out 57 Try.underlying57 rfl (by kernel_rfl) rfl rfl rfl ?_)
        refine (Y.out _ (HK B3.out)).mono ?_
        rintro e w4 ⟨rfl, hb4⟩
        have X4 := Lib.hid (X3.out.below hb4 X3.out.lt)
        have B4 := Lib.hid (B3.out.trans (hb4.mono B3.out.size))
        clear hb4
        go_wp2_with (refine load_row X4.out 57 Try.underlying57 rfl (by kernel_rfl) rfl rfl rfl ?_)
        refine (N.out _ (HK B4.out)).mono ?_
        rintro e w5 ⟨rfl, hb5⟩
        have X5 := Lib.hid (X4.out.below hb5 X4.out.lt)
        have B5 := Lib.hid (B4.out.trans (hb5.mono B4.out.size))
        clear hb5
        go_wp2_with (refine load_row_g X5.out 57 Try.underlying57 rfl (by kernel_rfl) (by rfl) rfl rfl ?_)
        refine (S.out _ (HK B5.out) hsm.out).mono ?_
        rintro e w6 ⟨rfl, hb6⟩
        have B6 := Lib.hid (B5.out.trans (hb6.mono B5.out.size))
        clear hb6 X5 X4 X3 X2 B5 B4 B3 B2 G Y N S
        go_wp2_with fail
        refine (read_calls s _ (by omega)).mono ?_
        rintro e w7 ⟨hro, hb7⟩
        have B7 := Lib.hid (B6.out.trans (hb7.mono B6.out.size))
        clear hb7 B6
        have hz7 : Row (w7.alloc (.cells noCells.toArray 57)) w7.heap.size 57 noCells := new_at rfl
        have hbz7 : Below w7.heap.size w7 (w7.alloc (.cells noCells.toArray 57)) := (Below.refl _ _).alloc (Nat.le_refl _) _
        cases hR : nRead s.data.toList with
        | none =>
          have hsr := Lib.hid noRec_small
          have hR2 : refRead s.data.toList = none := (refRead_eq _).trans hR
          have hro2 := refOut_none hR2
          rw [nOut_none hR] at hro
          have RO2 := Lib.hid hro2
          clear hR hR2 hro2
          obtain ⟨v, rfl, hv⟩ := hro
          have HV := Lib.hid hv
          obtain ⟨b0, m0, d0, b1, m1, d1, b2, m2, d2, rfl, _⟩ := hv
          go_wp2_with (refine store_row hz7 (noRec.cells (.slice b0 m0 d0) (.slice b1 m1 d1) (.slice b2 m2 d2)) 57 (by kernel_rfl) rfl (cells_one _ _ _ _ _ _ _ _ _ _) rfl rfl rfl rfl ?_; intro w8 hR8 hc8 hs8)
          have hbw8 := below_one' hbz7 hc8 hbz7.size (Nat.le_refl _)
          have X8 := Lib.hid hR8
          clear hz7 hbz7 hR8 hc8 hs8
          refine (refread_calls s _ (by omega)).mono ?_
          rintro e w9 ⟨hro, hb9⟩
          rw [RO2.out] at hro
          obtain ⟨v, rfl, hv⟩ := hro
          have HV9 := Lib.hid hv
          obtain ⟨i0, j0, k0, i1, j1, k1, i2, j2, k2, rfl, _⟩ := hv
          have hbw9 := hbw8.trans (hb9.mono hbw8.size)
          have X9 := Lib.hid (X8.out.below hb9 X8.out.lt)
          have hz9 : Row (w9.alloc (.cells noCells.toArray 57)) w9.heap.size 57 noCells := new_at rfl
          have hbz9 : Below w9.heap.size w9 (w9.alloc (.cells noCells.toArray 57)) := (Below.refl _ _).alloc (Nat.le_refl _) _
          clear hb9 X8 hbw8
          have fin : ∀ w10, Row w10 w9.heap.size 57 (noRec.cells (.slice i0 j0 k0) (.slice i1 j1 k1) (.slice i2 j2 k2)) → Chg (One w9.heap.size) (w9.alloc (.cells noCells.toArray 57)) w10 → Row w10 w7.heap.size 57 (noRec.cells (.slice b0 m0 d0) (.slice b1 m1 d1) (.slice b2 m2 d2)) ∧ Below w9.heap.size w9 w10 ∧ Below w7.heap.size w7 w10 ∧ Below W.heap.size W w10 := fun w10 hr hc => by
            have h1 := below_one' hbz9 hc hbz9.size (Nat.le_refl _)
            have h2 := hbw9.trans (h1.mono hbw9.size)
            exact ⟨X9.out.below h1 X9.out.lt, h1, h2, B7.out.trans (h2.mono B7.out.size)⟩
          have FIN := Lib.hid fin
          clear fin hbz9 hbw9 B7
          go_wp2_with (first
            | (refine store_row hz9 (noRec.cells (.slice i0 j0 k0) (.slice i1 j1 k1) (.slice i2 j2 k2)) 57 (by kernel_rfl) rfl (cells_one _ _ _ _ _ _ _ _ _ _) rfl rfl rfl rfl ?_
               intro w10 hR10 hc10 hs10
               obtain ⟨hX10, f1, f2, f3⟩ := FIN.out w10 hR10 hc10
               have F2 := Lib.hid f2
               have F3 := Lib.hid f3
               clear f1 f2 f3 hz9 hc10 hs10)
            | (refine load_row_g hX10 57 Try.underlying57 rfl (by kernel_rfl) (by rfl) rfl rfl ?_))
          refine (same_calls _ _ noRec noRec _ (HV.out.keep F2.out) (noRec_has _) noRec_small).mono ?_
          rintro e w11 ⟨rfl, hb11⟩
          have hfin := F3.out.trans (hb11.mono F3.out.size)
          rw [same_self]
          go_wp2_with fail
          go_ret
          exact ⟨rfl, hfin⟩
        | some p =>
          obtain ⟨ro, no⟩ := p
          have hsr := Lib.hid (small_of_read hR)
          have hR2 : refRead s.data.toList = some (ro, no) := (refRead_eq _).trans hR
          have hro2 := refOut_some hR2
          rw [nOut_some hR] at hro
          have RO2 := Lib.hid hro2
          clear hR hR2 hro2
          obtain ⟨v, rfl, hv⟩ := hro
          have HV := Lib.hid hv
          obtain ⟨b0, m0, d0, b1, m1, d1, b2, m2, d2, rfl, _⟩ := hv
          go_wp2_with (refine store_row hz7 (ro.cells (.slice b0 m0 d0) (.slice b1 m1 d1) (.slice b2 m2 d2)) 57 (by kernel_rfl) rfl (cells_one _ _ _ _ _ _ _ _ _ _) rfl rfl rfl rfl ?_; intro w8 hR8 hc8 hs8)
          have hbw8 := below_one' hbz7 hc8 hbz7.size (Nat.le_refl _)
          have X8 := Lib.hid hR8
          clear hz7 hbz7 hR8 hc8 hs8
          refine (refread_calls s _ (by omega)).mono ?_
          rintro e w9 ⟨hro, hb9⟩
          rw [RO2.out] at hro
          obtain ⟨v, rfl, hv⟩ := hro
          have HV9 := Lib.hid hv
          obtain ⟨i0, j0, k0, i1, j1, k1, i2, j2, k2, rfl, _⟩ := hv
          have hbw9 := hbw8.trans (hb9.mono hbw8.size)
          have X9 := Lib.hid (X8.out.below hb9 X8.out.lt)
          have hz9 : Row (w9.alloc (.cells noCells.toArray 57)) w9.heap.size 57 noCells := new_at rfl
          have hbz9 : Below w9.heap.size w9 (w9.alloc (.cells noCells.toArray 57)) := (Below.refl _ _).alloc (Nat.le_refl _) _
          clear hb9 X8 hbw8
          have fin : ∀ w10, Row w10 w9.heap.size 57 (ro.cells (.slice i0 j0 k0) (.slice i1 j1 k1) (.slice i2 j2 k2)) → Chg (One w9.heap.size) (w9.alloc (.cells noCells.toArray 57)) w10 → Row w10 w7.heap.size 57 (ro.cells (.slice b0 m0 d0) (.slice b1 m1 d1) (.slice b2 m2 d2)) ∧ Below w9.heap.size w9 w10 ∧ Below w7.heap.size w7 w10 ∧ Below W.heap.size W w10 := fun w10 hr hc => by
            have h1 := below_one' hbz9 hc hbz9.size (Nat.le_refl _)
            have h2 := hbw9.trans (h1.mono hbw9.size)
            exact ⟨X9.out.below h1 X9.out.lt, h1, h2, B7.out.trans (h2.mono B7.out.size)⟩
          have FIN := Lib.hid fin
          clear fin hbz9 hbw9 B7
          go_wp2_with (first
            | (refine store_row hz9 (ro.cells (.slice i0 j0 k0) (.slice i1 j1 k1) (.slice i2 j2 k2)) 57 (by kernel_rfl) rfl (cells_one _ _ _ _ _ _ _ _ _ _) rfl rfl rfl rfl ?_
               intro w10 hR10 hc10 hs10
               obtain ⟨hX10, f1, f2, f3⟩ := FIN.out w10 hR10 hc10
               have F1 := Lib.hid f1
               have F2 := Lib.hid f2
               have F3 := Lib.hid f3
               clear f1 f2 f3 hz9 hc10 hs10)
            | (refine load_row_g hX10 57 Try.underlying57 rfl (by kernel_rfl) (by rfl) rfl rfl ?_)
            | (refine load_row_g hR10 57 Try.underlying57 rfl (by kernel_rfl) (by rfl) rfl rfl ?_))
          refine (same_calls _ _ ro ro _ (HV.out.keep F2.out) (HV9.out.keep F1.out) hsr.out).mono ?_
          rintro e w11 ⟨rfl, hb11⟩
          have hfin := F3.out.trans (hb11.mono F3.out.size)
          rw [same_self]
          go_wp2_with fail
          go_ret
          exact ⟨rfl, hfin⟩
      · have hbo : bytesOut r = (r.bytes, 0) := by simp [bytesOut, hgd]
        have hz : (bs r.bytes).size = r.size := (good_bytes hgd).1
        have hB := fun v w h => refbytes_calls v r w h hgd
        rw [hgd] at hG hN
        rw [hbo] at hY
        have G := Lib.hid hG
        have Y := Lib.hid hY
        have N := Lib.hid hN
        have S := Lib.hid hS
        have RB := Lib.hid hB
        have HZ := Lib.hid hz
        clear hG hY hN hS hgd hbo hz hB
        go_wp2_with (refine load_row X2.out 57 Try.underlying57 rfl (by kernel_rfl) rfl rfl rfl ?_)
        refine (G.out _ (HK B2.out) hsm.out).mono ?_
        rintro e w3 ⟨rfl, hb3⟩
        have X3 := Lib.hid (X2.out.below hb3 X2.out.lt)
        have B3 := Lib.hid (B2.out.trans (hb3.mono B2.out.size))
        clear hb3
        go_wp2_with (refine load_row X3.out 57 Try.underlying57 rfl (by kernel_rfl) rfl rfl rfl ?_)
        refine (Y.out _ (HK B3.out)).mono ?_
        rintro e w4 ⟨rfl, hb4⟩
        have X4 := Lib.hid (X3.out.below hb4 X3.out.lt)
        have B4 := Lib.hid (B3.out.trans (hb4.mono B3.out.size))
        clear hb4
        go_wp2_with (refine load_row X4.out 57 Try.underlying57 rfl (by kernel_rfl) rfl rfl rfl ?_)
        refine (N.out _ (HK B4.out)).mono ?_
        rintro e w5 ⟨rfl, hb5⟩
        have X5 := Lib.hid (X4.out.below hb5 X4.out.lt)
        have B5 := Lib.hid (B4.out.trans (hb5.mono B4.out.size))
        clear hb5
        go_wp2_with (refine load_row X5.out 57 Try.underlying57 rfl (by kernel_rfl) rfl rfl rfl ?_)
        refine (RB.out _ _ (HK B5.out)).mono ?_
        rintro e w5b ⟨rfl, hb5b⟩
        have X5b := Lib.hid (X5.out.below hb5b X5.out.lt)
        have B5b := Lib.hid (B5.out.trans (hb5b.mono B5.out.size))
        clear hb5b
        go_wp2_with (refine load_row_g X5b.out 57 Try.underlying57 rfl (by kernel_rfl) (by rfl) rfl rfl ?_)
        refine (S.out _ (HK B5b.out) hsm.out).mono ?_
        rintro e w6 ⟨rfl, hb6⟩
        have B6 := Lib.hid (B5b.out.trans (hb6.mono B5b.out.size))
        have hz := HZ.out
        clear hb6 X5b X5 X4 X3 X2 B5b B5 B4 B3 B2 G Y N S RB
        go_wp2_with fail
        refine (read_calls s _ (by omega)).mono ?_
        rintro e w7 ⟨hro, hb7⟩
        have B7 := Lib.hid (B6.out.trans (hb7.mono B6.out.size))
        clear hb7 B6
        have hz7 : Row (w7.alloc (.cells noCells.toArray 57)) w7.heap.size 57 noCells := new_at rfl
        have hbz7 : Below w7.heap.size w7 (w7.alloc (.cells noCells.toArray 57)) := (Below.refl _ _).alloc (Nat.le_refl _) _
        cases hR : nRead s.data.toList with
        | none =>
          have hsr := Lib.hid noRec_small
          have hR2 : refRead s.data.toList = none := (refRead_eq _).trans hR
          have hro2 := refOut_none hR2
          rw [nOut_none hR] at hro
          have RO2 := Lib.hid hro2
          clear hR hR2 hro2
          obtain ⟨v, rfl, hv⟩ := hro
          have HV := Lib.hid hv
          obtain ⟨b0, m0, d0, b1, m1, d1, b2, m2, d2, rfl, _⟩ := hv
          go_wp2_with (refine store_row hz7 (noRec.cells (.slice b0 m0 d0) (.slice b1 m1 d1) (.slice b2 m2 d2)) 57 (by kernel_rfl) rfl (cells_one _ _ _ _ _ _ _ _ _ _) rfl rfl rfl rfl ?_; intro w8 hR8 hc8 hs8)
          have hbw8 := below_one' hbz7 hc8 hbz7.size (Nat.le_refl _)
          have X8 := Lib.hid hR8
          clear hz7 hbz7 hR8 hc8 hs8
          refine (refread_calls s _ (by omega)).mono ?_
          rintro e w9 ⟨hro, hb9⟩
          rw [RO2.out] at hro
          obtain ⟨v, rfl, hv⟩ := hro
          have HV9 := Lib.hid hv
          obtain ⟨i0, j0, k0, i1, j1, k1, i2, j2, k2, rfl, _⟩ := hv
          have hbw9 := hbw8.trans (hb9.mono hbw8.size)
          have X9 := Lib.hid (X8.out.below hb9 X8.out.lt)
          have hz9 : Row (w9.alloc (.cells noCells.toArray 57)) w9.heap.size 57 noCells := new_at rfl
          have hbz9 : Below w9.heap.size w9 (w9.alloc (.cells noCells.toArray 57)) := (Below.refl _ _).alloc (Nat.le_refl _) _
          clear hb9 X8 hbw8
          have fin : ∀ w10, Row w10 w9.heap.size 57 (noRec.cells (.slice i0 j0 k0) (.slice i1 j1 k1) (.slice i2 j2 k2)) → Chg (One w9.heap.size) (w9.alloc (.cells noCells.toArray 57)) w10 → Row w10 w7.heap.size 57 (noRec.cells (.slice b0 m0 d0) (.slice b1 m1 d1) (.slice b2 m2 d2)) ∧ Below w9.heap.size w9 w10 ∧ Below w7.heap.size w7 w10 ∧ Below W.heap.size W w10 := fun w10 hr hc => by
            have h1 := below_one' hbz9 hc hbz9.size (Nat.le_refl _)
            have h2 := hbw9.trans (h1.mono hbw9.size)
            exact ⟨X9.out.below h1 X9.out.lt, h1, h2, B7.out.trans (h2.mono B7.out.size)⟩
          have FIN := Lib.hid fin
          clear fin hbz9 hbw9 B7
          go_wp2_with (first
            | (refine store_row hz9 (noRec.cells (.slice i0 j0 k0) (.slice i1 j1 k1) (.slice i2 j2 k2)) 57 (by kernel_rfl) rfl (cells_one _ _ _ _ _ _ _ _ _ _) rfl rfl rfl rfl ?_
               intro w10 hR10 hc10 hs10
               obtain ⟨hX10, f1, f2, f3⟩ := FIN.out w10 hR10 hc10
               have F2 := Lib.hid f2
               have F3 := Lib.hid f3
               clear f1 f2 f3 hz9 hc10 hs10)
            | (refine load_row_g hX10 57 Try.underlying57 rfl (by kernel_rfl) (by rfl) rfl rfl ?_))
          refine (same_calls _ _ noRec noRec _ (HV.out.keep F2.out) (noRec_has _) noRec_small).mono ?_
          rintro e w11 ⟨rfl, hb11⟩
          have hfin := F3.out.trans (hb11.mono F3.out.size)
          rw [same_self]
          go_wp2_with fail
          go_ret
          exact ⟨rfl, hfin⟩
        | some p =>
          obtain ⟨ro, no⟩ := p
          have hsr := Lib.hid (small_of_read hR)
          have hR2 : refRead s.data.toList = some (ro, no) := (refRead_eq _).trans hR
          have hro2 := refOut_some hR2
          rw [nOut_some hR] at hro
          have RO2 := Lib.hid hro2
          clear hR hR2 hro2
          obtain ⟨v, rfl, hv⟩ := hro
          have HV := Lib.hid hv
          obtain ⟨b0, m0, d0, b1, m1, d1, b2, m2, d2, rfl, _⟩ := hv
          go_wp2_with (refine store_row hz7 (ro.cells (.slice b0 m0 d0) (.slice b1 m1 d1) (.slice b2 m2 d2)) 57 (by kernel_rfl) rfl (cells_one _ _ _ _ _ _ _ _ _ _) rfl rfl rfl rfl ?_; intro w8 hR8 hc8 hs8)
          have hbw8 := below_one' hbz7 hc8 hbz7.size (Nat.le_refl _)
          have X8 := Lib.hid hR8
          clear hz7 hbz7 hR8 hc8 hs8
          refine (refread_calls s _ (by omega)).mono ?_
          rintro e w9 ⟨hro, hb9⟩
          rw [RO2.out] at hro
          obtain ⟨v, rfl, hv⟩ := hro
          have HV9 := Lib.hid hv
          obtain ⟨i0, j0, k0, i1, j1, k1, i2, j2, k2, rfl, _⟩ := hv
          have hbw9 := hbw8.trans (hb9.mono hbw8.size)
          have X9 := Lib.hid (X8.out.below hb9 X8.out.lt)
          have hz9 : Row (w9.alloc (.cells noCells.toArray 57)) w9.heap.size 57 noCells := new_at rfl
          have hbz9 : Below w9.heap.size w9 (w9.alloc (.cells noCells.toArray 57)) := (Below.refl _ _).alloc (Nat.le_refl _) _
          clear hb9 X8 hbw8
          have fin : ∀ w10, Row w10 w9.heap.size 57 (ro.cells (.slice i0 j0 k0) (.slice i1 j1 k1) (.slice i2 j2 k2)) → Chg (One w9.heap.size) (w9.alloc (.cells noCells.toArray 57)) w10 → Row w10 w7.heap.size 57 (ro.cells (.slice b0 m0 d0) (.slice b1 m1 d1) (.slice b2 m2 d2)) ∧ Below w9.heap.size w9 w10 ∧ Below w7.heap.size w7 w10 ∧ Below W.heap.size W w10 := fun w10 hr hc => by
            have h1 := below_one' hbz9 hc hbz9.size (Nat.le_refl _)
            have h2 := hbw9.trans (h1.mono hbw9.size)
            exact ⟨X9.out.below h1 X9.out.lt, h1, h2, B7.out.trans (h2.mono B7.out.size)⟩
          have FIN := Lib.hid fin
          clear fin hbz9 hbw9 B7
          go_wp2_with (first
            | (refine store_row hz9 (ro.cells (.slice i0 j0 k0) (.slice i1 j1 k1) (.slice i2 j2 k2)) 57 (by kernel_rfl) rfl (cells_one _ _ _ _ _ _ _ _ _ _) rfl rfl rfl rfl ?_
               intro w10 hR10 hc10 hs10
               obtain ⟨hX10, f1, f2, f3⟩ := FIN.out w10 hR10 hc10
               have F1 := Lib.hid f1
               have F2 := Lib.hid f2
               have F3 := Lib.hid f3
               clear f1 f2 f3 hz9 hc10 hs10)
            | (refine load_row_g hX10 57 Try.underlying57 rfl (by kernel_rfl) (by rfl) rfl rfl ?_)
            | (refine load_row_g hR10 57 Try.underlying57 rfl (by kernel_rfl) (by rfl) rfl rfl ?_))
          refine (same_calls _ _ ro ro _ (HV.out.keep F2.out) (HV9.out.keep F1.out) hsr.out).mono ?_
          rintro e w11 ⟨rfl, hb11⟩
          have hfin := F3.out.trans (hb11.mono F3.out.size)
          rw [same_self]
          go_wp2_with fail
          go_ret
          exact ⟨rfl, hfin⟩
  · go_wp2_with fail
    go_ret
    exact ⟨rfl, B2.out⟩

theorem exact_row (cs : List Value) (y : YRec) (s : ByteArray) (W : World) (h : cRec.R W cs y) (hs : s.size ≤ 140737488351232) :
    Calls Try.prog 6 #[.agg cs.toArray, .string s] W fun e w' => e = .returned (.bool true) ∧ Below W.heap.size W w' := exact_has _ (toRec y) s W (rec_in h) hs
end Go.Proofs.Ythfpliiknifgdaa.Note
