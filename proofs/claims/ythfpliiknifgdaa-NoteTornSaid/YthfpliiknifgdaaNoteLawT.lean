/- NoteTorn: the law's walk. -/
import Derived.Test.YthfpliiknifgdaaNoteLaw
import Derived.Test.YthfpliiknifgdaaFlip
import Derived.RegionTactic
namespace Go.Proofs.Ythfpliiknifgdaa.Note
open Go.RowKit Go.Proofs.Ythfpliiknifgdaa.Mem Go.Proofs.Ythfpliiknifgdaa.Bytes
set_option linter.unusedSimpArgs false
set_option linter.unusedVariables false

theorem xor_u8 (a b : UInt8) : Go.bits .xor .u8 (a.toNat : Int) (b.toNat : Int) = ((a ^^^ b).toNat : Int) := by
  show IntKind.u8.wrap ((BitVec.ofInt 8 (a.toNat : Int) ^^^ BitVec.ofInt 8 (b.toNat : Int)).toNat : Int) = _
  have e : ∀ x : UInt8, BitVec.ofInt 8 (x.toNat : Int) = x.toBitVec := fun x => by
    rw [BitVec.ofInt_natCast]
    apply BitVec.eq_of_toNat_eq
    rw [BitVec.toNat_ofNat]
    exact Nat.mod_eq_of_lt x.toBitVec.isLt
  rw [e, e, IntKind.wrap_u8]
  show (((a ^^^ b).toBitVec.toNat : Nat) : Int) % 256 = ((a ^^^ b).toBitVec.toNat : Int)
  have := (a ^^^ b).toBitVec.isLt
  omega
theorem wf_u32 {n : Int} (h : (Lit.int .u32 n).wf = true) : 0 ≤ n ∧ n < 4294967296 := by
  simp [Lit.wf, IntKind.min, IntKind.max, IntKind.bits, IntKind.signed] at h
  omega

/-- What is cut off is none. -/
theorem nRead_cut {r : Rec} (hg : r.good = true) {c : Nat} (hc : c < r.bytes.length) : nRead (r.bytes.take c) = none := by
  cases h : nRead (r.bytes.take c) with
  | none => rfl
  | some p =>
    exfalso
    obtain ⟨q, n⟩ := p
    obtain ⟨hq, hn, t, ht⟩ := (nRead_iff _ _ _).1 h
    have e : r.bytes = q.bytes ++ (t ++ r.bytes.drop c) := by rw [← List.append_assoc, ← ht, List.take_append_drop]
    have h1 := nOut_app q hq (t ++ r.bytes.drop c)
    have h2 := nOut_app r hg []
    rw [List.append_nil] at h2
    rw [← e, h2] at h1
    have e2 := (Prod.mk.inj h1).1
    have hl := congrArg List.length ht
    rw [List.length_take, List.length_append, ← e2] at hl
    omega
/-- What was turned behind the first four is none. -/
theorem nRead_flip {r : Rec} (hg : r.good = true) {k : Nat} (h4 : 4 ≤ k) (hk : k + 4 ≤ r.bytes.length) (m : BitVec 32) (hm : m ≠ 0) : nRead (Crc.flip r.bytes k 4 m) = none := by
  cases h : nRead (Crc.flip r.bytes k 4 m) with
  | none => rfl
  | some p =>
    exfalso
    obtain ⟨q, n⟩ := p
    obtain ⟨hq, hn, t, ht⟩ := (nRead_iff _ _ _).1 h
    have hop : (Crc.opened r.bytes).isSome := by unfold Rec.bytes; rw [opened_sealed]; rfl
    have hcl := Crc.flip_closed r.bytes k m hk hop hm
    have hlen := Crc.flip_length r.bytes k 4 m
    have head : ∀ (x : Rec) (u : List UInt8), (x.bytes ++ u).take 4 = le x.body.length 4 := fun x u => by
      unfold Rec.bytes Crc.sealed
      rw [List.append_assoc, List.append_assoc, List.take_append_of_le_length (by rw [le_length]; omega), List.take_of_length_le (by rw [le_length]; omega)]
    have hhead : (Crc.flip r.bytes k 4 m).take 4 = r.bytes.take 4 := by
      apply List.ext_getElem?
      intro i
      rw [List.getElem?_take, List.getElem?_take]
      split
      · simp only [Crc.flip, List.getElem?_mapIdx]
        cases r.bytes[i]? with
        | none => rfl
        | some x => simp only [Option.map_some]; rw [if_neg (by omega)]
      · rfl
    have h1 := head r []
    have h2 := head q t
    rw [List.append_nil] at h1
    rw [← ht, hhead, h1] at h2
    have b1 := (good_bytes hg).2
    have b2 := (good_bytes hq).2
    have l1 := bytes_length r
    have l2 := bytes_length q
    have e := congrArg lev h2
    rw [lev_le, lev_le, Nat.mod_eq_of_lt (by omega), Nat.mod_eq_of_lt (by omega)] at e
    have hl := congrArg List.length ht
    rw [hlen, List.length_append] at hl
    have t0 : t = [] := List.eq_nil_of_length_eq_zero (by omega)
    rw [t0, List.append_nil] at ht
    rw [ht] at hcl
    unfold Rec.bytes at hcl
    rw [opened_sealed] at hcl
    cases hcl

set_option maxHeartbeats 1000000 in
set_option maxRecDepth 8000 in
theorem torn_has (v : Value) (r : Rec) (ct at_ : Int) (m : BitVec 32) (W : World) (h : HasRec W v r) :
    Calls Try.prog 8 #[v, .int .i64 ct, .int .i64 at_, .int .u32 (Crc.num m)] W fun e w' => e = .returned (.bool true) ∧ Below W.heap.size W w' := by
  have h0 := h
  obtain ⟨a0, n0, c0, a1, n1, c1, a2, n2, c2, rfl, _⟩ := h
  have xa : Row (W.alloc (.cells (r.cells (.slice a0 n0 c0) (.slice a1 n1 c1) (.slice a2 n2 c2)).toArray 57)) W.heap.size 57 (r.cells (.slice a0 n0 c0) (.slice a1 n1 c1) (.slice a2 n2 c2)) := new_at rfl
  have h1 : Below W.heap.size W (W.alloc (.cells (r.cells (.slice a0 n0 c0) (.slice a1 n1 c1) (.slice a2 n2 c2)).toArray 57)) := (Below.refl _ _).alloc (Nat.le_refl _) _
  have HA : ∀ {w : World}, Below W.heap.size W w → HasRec w (.agg (r.cells (.slice a0 n0 c0) (.slice a1 n1 c1) (.slice a2 n2 c2)).toArray) r := fun h => h0.keep h
  have XA0 := Lib.hid xa
  have B0 := Lib.hid h1
  clear xa h1 h0
  go_enter Try.func8, Try.ntmps8
  go_wp2_with fail
  refine (awake_calls _).mono ?_
  rintro e w1 ⟨rfl, hb1⟩
  have XA1 := Lib.hid (XA0.out.below hb1 XA0.out.lt)
  have B1 := Lib.hid (B0.out.trans (hb1.mono B0.out.size))
  clear hb1 XA0 B0
  go_wp2_with (refine load_row XA1.out 57 Try.underlying57 rfl (by kernel_rfl) rfl rfl rfl ?_)
  refine (great_calls _ r _ (HA B1.out)).mono ?_
  rintro e w2 ⟨rfl, hb2⟩
  have XA2 := Lib.hid (XA1.out.below hb2 XA1.out.lt)
  have B2 := Lib.hid (B1.out.trans (hb2.mono B1.out.size))
  clear hb2 XA1 B1
  cases hgr : r.great
  rotate_left
  · go_wp2_with fail
    go_ret
    exact ⟨rfl, B2.out⟩
  have SA := Lib.hid (small_of hgr)
  clear hgr
  go_wp2_with (refine load_row_g XA2.out 57 Try.underlying57 rfl (by kernel_rfl) (by rfl) rfl rfl ?_)
  refine (ngood_calls _ r _ (HA B2.out)).mono ?_
  rintro e w3 ⟨rfl, hb3⟩
  have XA3 := Lib.hid (XA2.out.below hb3 XA2.out.lt)
  have B3 := Lib.hid (B2.out.trans (hb3.mono B2.out.size))
  clear hb3 XA2 B2
  cases hgd : r.good
  · go_wp2_with fail
    go_ret
    exact ⟨rfl, B3.out⟩
  have GA := Lib.hid hgd
  clear hgd
  have hya := fun v w h => nbytes_calls v r w h
  rw [show bytesOut r = (r.bytes, 0) by simp [bytesOut, GA.out]] at hya
  have la := (good_bytes GA.out).2
  have lb : 29 ≤ r.bytes.length := by
    rw [(good_bytes GA.out).1]
    simp only [Rec.size, GA.out, if_true]
    omega
  have hcut := fun (c : Nat) (h : c < r.bytes.length) => nOut_none (nRead_cut GA.out h)
  have hflip := fun (k : Nat) (h4 : 4 ≤ k) (hk : k + 4 ≤ r.bytes.length) (hm : m ≠ 0) => nOut_none (nRead_flip GA.out h4 hk m hm)
  have hwhole : nOut r.bytes = (r, r.bytes.length, 0) := by
    have := nOut_app r GA.out []
    rwa [List.append_nil] at this
  generalize r.bytes = L at hya la lb hcut hflip hwhole
  have YA := Lib.hid hya
  have CUT := Lib.hid hcut
  have FLIP := Lib.hid hflip
  have WHOLE := Lib.hid hwhole
  clear hya hcut hflip hwhole
  go_wp2_with (refine load_row XA3.out 57 Try.underlying57 rfl (by kernel_rfl) rfl rfl rfl ?_)
  refine (YA.out _ _ (HA B3.out)).mono ?_
  rintro e w4 ⟨rfl, hb4⟩
  have XA4 := Lib.hid (XA3.out.below hb4 XA3.out.lt)
  have B4 := Lib.hid (B3.out.trans (hb4.mono B3.out.size))
  clear hb4 XA3 B3
  have za : (bs L).size = L.length := rfl
  obtain ⟨c, hc, hcl⟩ := idx_mod ct (L.length : Int) (by omega) (by omega)
  obtain ⟨j, hj, hjl⟩ := idx_mod at_ ((L.length : Int) - 7) (by omega) (by omega)
  have hex : (bs L).extract 0 c = bs (L.take c) := extract_take _ _
  have hn1 : nOut (bs (L.take c)).data.toList = (noRec, 0, 3) := CUT.out c (by omega)
  have hcs : c ≤ L.length := by omega
  have hsz1 : (bs (L.take c)).size ≤ 100000 := by rw [bs_size, List.length_take]; omega
  have HEX := Lib.hid hex
  have N1 := Lib.hid hn1
  have h12 : ¬ (L.length : Int) < 12 := by omega
  have d12 : decide ((L.length : Int) < 12) = false := by simp; omega
  clear hex hn1
  go_wp2_with fail
  rw [HEX.out]
  refine (read_calls _ _ hsz1).mono ?_
  rintro e w5 ⟨hro, hb5⟩
  have XA5 := Lib.hid (XA4.out.below hb5 XA4.out.lt)
  have B5 := Lib.hid (B4.out.trans (hb5.mono B4.out.size))
  clear hb5 XA4 B4
  rw [N1.out] at hro
  obtain ⟨v, rfl, hv⟩ := hro
  obtain ⟨i0, j0, k0, i1, j1, k1, i2, j2, k2, rfl, _⟩ := hv
  have hz5 : Row (w5.alloc (.cells noCells.toArray 57)) w5.heap.size 57 noCells := new_at rfl
  have hbz5 : Below w5.heap.size w5 (w5.alloc (.cells noCells.toArray 57)) := (Below.refl _ _).alloc (Nat.le_refl _) _
  go_wp2_with (refine store_row hz5 (noRec.cells (.slice i0 j0 k0) (.slice i1 j1 k1) (.slice i2 j2 k2)) 57 (by kernel_rfl) rfl (cells_one _ _ _ _ _ _ _ _ _ _) rfl rfl rfl rfl ?_
               intro w6 hR6 hc6 hs6
               have hw6 := below_one' hbz5 hc6 hbz5.size (Nat.le_refl _)
               have XA6 := Lib.hid (XA5.out.below hw6 XA5.out.lt)
               have B6 := Lib.hid (B5.out.trans (hw6.mono B5.out.size))
               obtain ⟨cc, w7, hrun, hcc, hrow, hbw, hsz⟩ := run_bytes (P := Try.prog) w6 9 70 5 (bs L) Try.underlying9 Try.underlying70 Try.underlying5
               rw [za] at hrun hcc hrow
               have XA7 := Lib.hid (XA6.out.below hbw XA6.out.lt)
               have B7 := Lib.hid (B6.out.trans (hbw.mono B6.out.size))
               have HROW := Lib.hid hrow
               have hXl := Lib.hid XA6.out.lt
               clear hc6 hs6 hw6 hR6 hbw hsz hrow XA6 hcc)
  have hBsz := B6.out.size
  have hrow' : Row w7 w6.heap.size 5 ((Crc.flip L (4 + j) 0 m).map bv ++ List.replicate (cc - L.length) (.int .u8 0)) := by
    rw [Crc.flip_zero]
    exact HROW.out
  have HBW := B7.out
  have hxa : Row w7 W.heap.size 57 (r.cells (.slice a0 n0 c0) (.slice a1 n1 c1) (.slice a2 n2 c2)) := XA7.out
  have hWl : W.heap.size < w6.heap.size := hXl.out
  have hj4 : 4 + j + 4 ≤ L.length := by omega
  generalize List.replicate (cc - L.length) (Value.int .u8 0) = rr at *
  generalize w6.heap.size = B at *
  clear HROW B7 XA7 B6 hrun hc hj XA5 B5 hz5 hbz5
  go_loopw [16] (fun i wr => ∃ q : Nat, q ≤ 4 ∧ i = .int .i64 q ∧ Row wr B 5 ((Crc.flip L (4 + j) q m).map bv ++ rr) ∧ Row wr W.heap.size 57 (r.cells (.slice a0 n0 c0) (.slice a1 n1 c1) (.slice a2 n2 c2)) ∧ Below W.heap.size W wr) (fun i _ => 4 - (intOf i).toNat)
  case atStart => exact ⟨0, by omega, rfl, hrow', hxa, HBW⟩
  case round =>
    clear hrow' HBW hxa
    obtain ⟨q, hq, rfl, hrow, hxa, hbw⟩ := hrel
    by_cases hlt : q < 4
    · have hkj : 4 + j + q < L.length := by omega
      have hx : L[4 + j + q]? = some L[4 + j + q] := List.getElem?_eq_getElem hkj
      have hcell : wr.cell? ⟨B, 4 + j + q, none⟩ = some (.int .u8 (L[4 + j + q].toNat : Int)) := by
        refine hrow.cell ?_
        rw [List.getElem?_append_left (by rw [List.length_map, Crc.flip_length]; exact hkj), List.getElem?_map, Crc.flip_at, hx]
        rfl
      have hfz : wr.frozen? ⟨B, 4 + j + q, none⟩ = false := hrow.frozen _ (by rw [List.length_append, List.length_map, Crc.flip_length]; omega)
      have hi1 : (0 : Int) ≤ 4 + (j : Int) + (q : Int) := by omega
      have hi2 : 4 + (j : Int) + (q : Int) < (L.length : Int) := by omega
      have hwr : IntKind.i64.wrap (4 + (j : Int) + (q : Int)) = 4 + (j : Int) + (q : Int) := by rw [IntKind.wrap_i64]; omega
      have htn : (4 + (j : Int) + (q : Int)).toNat = 4 + j + q := by omega
      go_wp2
      go_region
      all_goals
        go_wp2
        go_roundw
        case rel =>
          refine ⟨q + 1, by omega, by go_num, ?_, ((hxa.set_ne _ _ (by show B ≠ W.heap.size; omega)) : Row _ _ _ _), (hbw.setCell hBsz _).drew⟩
          refine Row.drew ((hrow.set (4 + j + q) _).cast ?_)
          rw [Crc.flip_succ _ _ _ _ _ hx, ← Crc.byteOf_num, xor_u8, List.set_append_left _ _ (by rw [List.length_map, Crc.flip_length]; exact hkj), List.map_set]
          rfl
        case measure => simp [intOf]; omega
    · obtain rfl : q = 4 := by omega
      have hcv : (convert 70 9 (.slice (some ⟨B, 0, none⟩) L.length cc)).run Try.prog wr = .ok (.string (bs (Crc.flip L (4 + j) 4 m))) wr := by
        have h := run_string_row (P := Try.prog) (l := Crc.flip L (4 + j) 4 m) hrow Try.underlying70 Try.underlying5 Try.underlying9 cc
        rwa [Crc.flip_length] at h
      have hsz2 : (bs (Crc.flip L (4 + j) 4 m)).size ≤ 100000 := by rw [bs_size, Crc.flip_length]; omega
      clear hrow
      go_wp2_with fail
      refine (read_calls _ _ hsz2).mono ?_
      rintro e w8 ⟨hro, hb8⟩
      rw [bs_data] at hro
      have XA8 := Lib.hid (hxa.below hb8 hxa.lt)
      have B8 := Lib.hid (hbw.trans (hb8.mono hbw.size))
      clear hb8 hxa hbw hcv
      have hz8 : Row (w8.alloc (.cells noCells.toArray 57)) w8.heap.size 57 noCells := new_at rfl
      have hbz8 : Below w8.heap.size w8 (w8.alloc (.cells noCells.toArray 57)) := (Below.refl _ _).alloc (Nat.le_refl _) _
      by_cases hm : m = 0
      · have hm1 : (Crc.num m == 0) = true := by rw [hm]; rfl
        rw [hm, Crc.flip_nothing, WHOLE.out] at hro
        clear hm
        obtain ⟨v, rfl, hv⟩ := hro
        have HV := Lib.hid hv
        obtain ⟨p0, q0, r0, p1, q1, r1, p2, q2, r2, rfl, _⟩ := hv
        go_wp2_with (first
          | (refine store_row hz8 (r.cells (.slice p0 q0 r0) (.slice p1 q1 r1) (.slice p2 q2 r2)) 57 (by kernel_rfl) rfl (cells_one _ _ _ _ _ _ _ _ _ _) rfl rfl rfl rfl ?_
             intro w9 hR9 hc9 hs9
             have hw9 := below_one' hbz8 hc9 hbz8.size (Nat.le_refl _)
             have XA9 := Lib.hid (XA8.out.below hw9 XA8.out.lt)
             have B9 := Lib.hid (B8.out.trans (hw9.mono B8.out.size))
             have HV9 := Lib.hid (HV.out.keep hw9)
             clear hc9 hs9 hw9)
          | (refine load_row_g hR9 57 Try.underlying57 rfl (by kernel_rfl) (by rfl) rfl rfl ?_)
          | (refine load_row_g XA9.out 57 Try.underlying57 rfl (by kernel_rfl) (by rfl) rfl rfl ?_))
        refine (same_calls _ _ r r _ HV9.out (HA B9.out) SA.out).mono ?_
        rintro e w10 ⟨rfl, hb10⟩
        have hfin := B9.out.trans (hb10.mono B9.out.size)
        rw [same_self]
        go_wp2_with fail
        go_ret
        exact ⟨by simp, hfin⟩
      · have hm1 : (Crc.num m == 0) = false := by
          rw [beq_eq_false_iff_ne]
          intro h
          exact hm (Crc.num_inj (b := 0#32) h)
        rw [FLIP.out (4 + j) (by omega) hj4 hm] at hro
        clear hm
        obtain ⟨v, rfl, hv⟩ := hro
        obtain ⟨p0, q0, r0, p1, q1, r1, p2, q2, r2, rfl, _⟩ := hv
        go_wp2_with (refine store_row hz8 (noRec.cells (.slice p0 q0 r0) (.slice p1 q1 r1) (.slice p2 q2 r2)) 57 (by kernel_rfl) rfl (cells_one _ _ _ _ _ _ _ _ _ _) rfl rfl rfl rfl ?_
                     intro w9 hR9 hc9 hs9
                     have hw9 := below_one' hbz8 hc9 hbz8.size (Nat.le_refl _)
                     have B9 := Lib.hid (B8.out.trans (hw9.mono B8.out.size))
                     clear hc9 hs9 hw9)
        go_ret
        exact ⟨by simp, B9.out⟩

theorem torn_row (cs : List Value) (y : YRec) (ct at_ n : Int) (W : World) (h : cRec.R W cs y) (hc : (Lit.int .i64 ct).wf = true) (ha : (Lit.int .i64 at_).wf = true) (hn : (Lit.int .u32 n).wf = true) :
    Calls Try.prog 8 #[.agg cs.toArray, .int .i64 ct, .int .i64 at_, .int .u32 n] W fun e w' => e = .returned (.bool true) ∧ Below W.heap.size W w' := by
  have h := torn_has _ (toRec y) ct at_ (BitVec.ofInt 32 n) W (rec_in h)
  rwa [Crc.num_of (wf_u32 hn).1 (wf_u32 hn).2] at h

end Go.Proofs.Ythfpliiknifgdaa.Note
