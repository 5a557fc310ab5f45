/- gaugerref16.Add; gaugerref15.Code. -/
import Derived.Test.YtcfjooeagfollaaBitW
import Derived.Test.YtcfjooeagfollaaRegApp

namespace Go.Proofs.Ytcfjooeagfollaa.Wide
open Go.RowKit Go.Proofs.Ytcfjooeagfollaa.Mem Go.Proofs.Ytcfjooeagfollaa.Bytes Go.Proofs.Ytcfjooeagfollaa.Num
set_option linter.unusedSimpArgs false
set_option linter.unusedVariables false
set_option maxRecDepth 20000

set_option maxHeartbeats 2000000 in
theorem radd_calls (a b : Wd) (ha : a.fits) (hb : b.fits) (w : World) : Calls Try.prog 76 #[a.val, b.val] w fun e w' => e = .returned (a.add b).val ∧ Below w.heap.size w w' := by
  have hadd := add_bits ha hb
  have C1 := Lib.hid (fun w => bits_calls a ha w)
  have C2 := Lib.hid (fun w => bits_calls b hb w)
  have C3 := Lib.hid (fun w => addB_calls a.bits b.bits false a.bits_length b.bits_length w)
  have C4 := Lib.hid (fun w => of_calls (addC a.bits b.bits false) (by rw [addC_length _ _ _ (by rw [a.bits_length, b.bits_length]), a.bits_length]) w)
  rw [hadd] at C4
  clear hadd ha hb
  generalize a.add b = D at *
  obtain ⟨dh, dl⟩ := D
  generalize (a.bits.map bl).toArray = p1 at *
  generalize (b.bits.map bl).toArray = p2 at *
  generalize ((addC a.bits b.bits false).map bl).toArray = p3 at *
  obtain ⟨h1, l1⟩ := a
  obtain ⟨h2, l2⟩ := b
  replace C1 : RowKit.Hid (∀ w, Calls Try.prog 130 #[.agg #[.int .i64 h1, .int .u64 l1]] w fun e w' => e = .returned (.agg p1) ∧ Below w.heap.size w w') := C1
  replace C2 : RowKit.Hid (∀ w, Calls Try.prog 130 #[.agg #[.int .i64 h2, .int .u64 l2]] w fun e w' => e = .returned (.agg p2) ∧ Below w.heap.size w w') := C2
  replace C4 : RowKit.Hid (∀ w, Calls Try.prog 128 #[.agg p3] w fun e w' => e = .returned (.agg #[.int .i64 dh, .int .u64 dl]) ∧ Below w.heap.size w w') := C4
  show Calls Try.prog 76 #[.agg #[.int .i64 h1, .int .u64 l1], .agg #[.int .i64 h2, .int .u64 l2]] w fun e w' => e = .returned (.agg #[.int .i64 dh, .int .u64 dl]) ∧ Below w.heap.size w w'
  have hX : Row (w.alloc (.cells #[.int .i64 h1, .int .u64 l1] 24)) w.heap.size 24 [.int .i64 h1, .int .u64 l1] := new_at rfl
  have X1 := hX.alloc (.cells #[.int .i64 h2, .int .u64 l2] 24)
  have Y1 : Row ((w.alloc (.cells #[.int .i64 h1, .int .u64 l1] 24)).alloc (.cells #[.int .i64 h2, .int .u64 l2] 24)) (w.heap.size + 1) 24 [.int .i64 h2, .int .u64 l2] := new_at (by simp)
  have b1 : Below w.heap.size w ((w.alloc (.cells #[.int .i64 h1, .int .u64 l1] 24)).alloc (.cells #[.int .i64 h2, .int .u64 l2] 24)) := ((Below.refl _ _).alloc (Nat.le_refl _) _).alloc (by simp) _
  have X2 := X1.alloc (.cells #[.int .i64 0, .int .u64 0] 24)
  have Y2 := Y1.alloc (.cells #[.int .i64 0, .int .u64 0] 24)
  have Z2 : Row (((w.alloc (.cells #[.int .i64 h1, .int .u64 l1] 24)).alloc (.cells #[.int .i64 h2, .int .u64 l2] 24)).alloc (.cells #[.int .i64 0, .int .u64 0] 24)) (w.heap.size + 1 + 1) 24 [.int .i64 0, .int .u64 0] := new_at (by simp)
  have b2 := b1.alloc (by simp; omega) (.cells #[.int .i64 0, .int .u64 0] 24)
  have XA := Lib.hid X2.drew
  have XB := Lib.hid Y2.drew
  have XZ := Lib.hid Z2.drew
  have HB := Lib.hid b2.drew
  clear hX X1 Y1 b1 X2 Y2 Z2 b2
  go_enter Try.func76, Try.ntmps76
  go_wp2_with fail
  refine Reg.start (fun w' => w'.cell? ⟨w.heap.size, 0, none⟩ = some (.int .i64 h1) ∧ w'.cell? ⟨w.heap.size, 1, none⟩ = some (.int .u64 l1) ∧ w'.cell? ⟨w.heap.size + 1, 0, none⟩ = some (.int .i64 h2) ∧ w'.cell? ⟨w.heap.size + 1, 1, none⟩ = some (.int .u64 l2)) (fun i => i == 6) (by kernel_rfl) ⟨XA.out.cell rfl, XA.out.cell rfl, XB.out.cell rfl, XB.out.cell rfl⟩ (fun hHeld => ?_)
  generalize (((w.alloc (.cells #[.int .i64 h1, .int .u64 l1] 24)).alloc (.cells #[.int .i64 h2, .int .u64 l2] 24)).alloc (.cells #[.int .i64 0, .int .u64 0] 24)).drew = wd at *
  refine Reg.takeI 0 (v := ?_) rfl (by kernel_rfl) (by kernel_rfl) (by kernel_rfl) (by kernel_rfl) (fun _ _ _ h => h) (by rfl) ?_ hHeld ?_
  rotate_left 1
  · (intro w hSw; (try dsimp only at hSw); go_simp; try with_reducible rfl)
  try simp only [Act.put, List.setIfInBounds_toArray, List.set_cons_zero, List.set_cons_succ]
  refine Reg.takeI 2 (v := ?_) rfl (by kernel_rfl) (by kernel_rfl) (by kernel_rfl) (by kernel_rfl) (fun _ _ _ h => h) (by rfl) ?_ hHeld ?_
  rotate_left 1
  · (intro w hSw; (try dsimp only at hSw); go_simp; try with_reducible rfl)
  try simp only [Act.put, List.setIfInBounds_toArray, List.set_cons_zero, List.set_cons_succ]
  refine Reg.oneI 1 rfl (by kernel_rfl) (by rfl) (fun K hK => ?_)
  go_simp
  go_at_call 130
  refine (C1.out _).mono ?_
  rintro e w4 ⟨rfl, k⟩
  replace XA := Lib.hid (XA.out.below k XA.out.lt)
  replace XB := Lib.hid (XB.out.below k XB.out.lt)
  replace XZ := Lib.hid (XZ.out.below k XZ.out.lt)
  replace HB := Lib.hid (HB.out.trans (k.mono HB.out.size))
  clear k
  go_wp2_with fail
  refine hK.out _ _ (fun _ => ⟨XA.out.cell rfl, XA.out.cell rfl, XB.out.cell rfl, XB.out.cell rfl⟩) (fun hHeld => ?_)
  replace hHeld := hHeld (by first | rfl | trivial)
  clear hK K
  try simp only [Act.put, List.setIfInBounds_toArray, List.set_cons_zero, List.set_cons_succ]
  refine Reg.oneI 3 rfl (by kernel_rfl) (by rfl) (fun K hK => ?_)
  go_simp
  go_at_call 130
  refine (C2.out _).mono ?_
  rintro e w5 ⟨rfl, k⟩
  replace XA := Lib.hid (XA.out.below k XA.out.lt)
  replace XB := Lib.hid (XB.out.below k XB.out.lt)
  replace XZ := Lib.hid (XZ.out.below k XZ.out.lt)
  replace HB := Lib.hid (HB.out.trans (k.mono HB.out.size))
  clear k
  go_wp2_with fail
  refine hK.out _ _ (fun _ => ⟨XA.out.cell rfl, XA.out.cell rfl, XB.out.cell rfl, XB.out.cell rfl⟩) (fun hHeld => ?_)
  replace hHeld := hHeld (by first | rfl | trivial)
  clear hK K
  try simp only [Act.put, List.setIfInBounds_toArray, List.set_cons_zero, List.set_cons_succ]
  refine Reg.oneI 4 rfl (by kernel_rfl) (by rfl) (fun K hK => ?_)
  go_simp
  go_at_call 129
  refine (C3.out _).mono ?_
  rintro e w6 ⟨rfl, k⟩
  replace XA := Lib.hid (XA.out.below k XA.out.lt)
  replace XB := Lib.hid (XB.out.below k XB.out.lt)
  replace XZ := Lib.hid (XZ.out.below k XZ.out.lt)
  replace HB := Lib.hid (HB.out.trans (k.mono HB.out.size))
  clear k
  go_wp2_with fail
  refine hK.out _ _ (fun _ => ⟨XA.out.cell rfl, XA.out.cell rfl, XB.out.cell rfl, XB.out.cell rfl⟩) (fun hHeld => ?_)
  replace hHeld := hHeld (by first | rfl | trivial)
  clear hK K
  try simp only [Act.put, List.setIfInBounds_toArray, List.set_cons_zero, List.set_cons_succ]
  refine Reg.oneI 5 rfl (by kernel_rfl) (by rfl) (fun K hK => ?_)
  go_simp
  go_at_call 128
  refine (C4.out _).mono ?_
  rintro e w7 ⟨rfl, k⟩
  replace XA := Lib.hid (XA.out.below k XA.out.lt)
  replace XB := Lib.hid (XB.out.below k XB.out.lt)
  replace XZ := Lib.hid (XZ.out.below k XZ.out.lt)
  replace HB := Lib.hid (HB.out.trans (k.mono HB.out.size))
  clear k
  have z0 := XZ.out.cell (i := 0) rfl
  have z1 := XZ.out.cell (i := 1) rfl
  have f0 := XZ.out.frozen 0 (by simp)
  have f1 := XZ.out.frozen 1 (by simp)
  go_wp2_with fail
  refine hK.out _ _ (fun _ => ⟨XA.out.cell rfl, XA.out.cell rfl, XB.out.cell rfl, XB.out.cell rfl⟩) (fun hHeld => ?_)
  replace hHeld := hHeld (by first | rfl | trivial)
  clear hK K
  try simp only [Act.put, List.setIfInBounds_toArray, List.set_cons_zero, List.set_cons_succ]
  refine Reg.oneI 6 rfl (by kernel_rfl) (by rfl) (fun K hK => ?_)
  go_simp
  refine hK.out _ _ (fun h => by cases h) (fun _ => ?_)
  clear hK K
  try simp only [Act.put, List.setIfInBounds_toArray, List.set_cons_zero, List.set_cons_succ]
  refine Reg.doneI (by kernel_rfl) ?_
  have ZF := Lib.hid (((XZ.out.set 0 (.int .i64 dh)).set 1 (.int .u64 dl)).cast (cs' := [.int .i64 dh, .int .u64 dl]) rfl)
  have BF := Lib.hid ((HB.out.setCell (p := ⟨w.heap.size + 1 + 1, 0, none⟩) (by show w.heap.size ≤ w.heap.size + 1 + 1; omega) (.int .i64 dh)).setCell (p := ⟨w.heap.size + 1 + 1, 1, none⟩) (by show w.heap.size ≤ w.heap.size + 1 + 1; omega) (.int .u64 dl))
  go_wp2_with fail
  exact ret_row ZF.out Try.results76 Try.underlying24 rfl (by kernel_rfl) rfl rfl ⟨rfl, BF.out⟩
theorem be_get (u k : Nat) (h : k < 8) : (be u 8)[k]? = some (UInt8.ofNat (u / 256 ^ (7 - k))) := by
  rcases (by omega : k = 0 ∨ k = 1 ∨ k = 2 ∨ k = 3 ∨ k = 4 ∨ k = 5 ∨ k = 6 ∨ k = 7) with rfl | rfl | rfl | rfl | rfl | rfl | rfl | rfl <;> simp [be, le]
theorem be_take (u k : Nat) (h : k < 8) : (be u 8).take (k + 1) = (be u 8).take k ++ [UInt8.ofNat (u / 256 ^ (7 - k))] := by
  rw [List.take_add_one, be_get u k h]
  rfl
theorem byte_nat (T k : Nat) (h : k < 8) : (T : Int) / 2 ^ (56 - 8 * k) % 256 = ((UInt8.ofNat (T / 256 ^ (7 - k))).toNat : Int) := by
  rcases (by omega : k = 0 ∨ k = 1 ∨ k = 2 ∨ k = 3 ∨ k = 4 ∨ k = 5 ∨ k = 6 ∨ k = 7) with rfl | rfl | rfl | rfl | rfl | rfl | rfl | rfl <;> simp <;> omega
theorem info_u8 : (Try.prog.info? 5).map (fun i => (i.zero, i.size, i.bytes)) = some (some (.int .u8 0), 1, 1) := by kernel_rfl
theorem cast_own {w : World} {base : Nat} {e : TypeId} {size : Nat} {v : Value} {n : Nat} {xs ys : List Value} (h : w.ownsRow base e size v n xs) (he : xs = ys) : w.ownsRow base e size v n ys := he ▸ h
set_option maxHeartbeats 2000000 in
theorem rcode_calls (a : Wd) (hf : a.fits) (w : World) : Calls Try.prog 74 #[a.val] w fun e w' => e = .returned (.string (bs a.code)) ∧ Below w.heap.size w w' := by
  have ht := a.top_lt
  have hcv := conv_top a
  have hcat : a.code = be a.top 8 ++ be a.lo.toNat 8 := rfl
  rw [hcat]
  clear hcat
  obtain ⟨hi, lo⟩ := a
  obtain ⟨f1, f2, f3, f4⟩ := hf
  simp only at f1 f2 f3 f4 hcv
  obtain ⟨m, rfl⟩ := Int.eq_ofNat_of_zero_le f3
  show Calls Try.prog 74 #[.agg #[.int .i64 hi, .int .u64 m]] w fun e w' => e = .returned (.string (bs (be (Wd.top ⟨hi, (m : Int)⟩) 8 ++ be m 8))) ∧ Below w.heap.size w w'
  generalize Wd.top ⟨hi, (m : Int)⟩ = T at *
  have hX : Row (w.alloc (.cells #[.int .i64 hi, .int .u64 m] 24)) w.heap.size 24 [.int .i64 hi, .int .u64 m] := new_at rfl
  have hb : Below w.heap.size w (w.alloc (.cells #[.int .i64 hi, .int .u64 m] 24)) := (Below.refl _ _).alloc (Nat.le_refl _) _
  have hY := hX.alloc (.cells #[] 5)
  have hb2 := hb.alloc hb.size (.cells #[] 5)
  have hl := World.ownsRow_lit (e := 5) (size := 1) (base := w.heap.size + 1) (w.alloc (.cells #[.int .i64 hi, .int .u64 m] 24)) #[] 0 (by simp) (by unfold maxLen; omega) rfl
  rw [show (w.alloc (.cells #[.int .i64 hi, .int .u64 m] 24)).heap.size = w.heap.size + 1 by simp] at hl
  have HL := Lib.hid hl
  have HX := Lib.hid hY
  have HB := Lib.hid hb2
  have HCV := Lib.hid hcv
  clear hX hY hl hb hb2
  go_enter Try.func74, Try.ntmps74
  go_wp2_with fail
  go_loopw [3, 4] (fun v i wr => ∃ k : Nat, k ≤ 8 ∧ i = .int .i64 k ∧ wr.ownsRow (w.heap.size + 1) 5 1 v k (((be T 8).take k).map bv) ∧ Row wr w.heap.size 24 [.int .i64 hi, .int .u64 m] ∧ Below w.heap.size w wr ∧ w.heap.size + 1 ≤ wr.heap.size) (fun _ i _ => 8 - (intOf i).toNat)
  case atStart => exact ⟨0, by omega, rfl, HL.out, HX.out, HB.out, by simp⟩
  case round =>
    clear HL HX HB
    obtain ⟨k, hk, rfl, ho, hX, hbw, hsz⟩ := hrel
    have OO := Lib.hid ho
    have BB := Lib.hid hbw
    have XX := Lib.hid hX
    clear ho hbw hX
    by_cases hlt : k < 8
    · have hlt' : (k : Int) < 8 := by omega
      have hB := Lib.hid (byte_nat T k hlt)
      have TT := Lib.hid (be_take T k hlt)
      have e1 : (56 - 8 * (k : Int)).toNat = 56 - 8 * k := by omega
      have x0 := XX.out.cell (i := 0) rfl
      go_wp2_with (refine app1 (w0 := wr) (news := [_]) OO.out (Below.refl _ _) hsz 112 Try.underlying112 info_u8 rfl (by decide) (by decide) (by omega) rfl (by simp [Value.oneCell']) rfl rfl rfl rfl ?_; intro v' w3 ho3 hb3 _)
      exact ⟨⟨k + 1, by omega, by go_num, cast_own ho3 (by rw [TT.out, List.map_append]; simp only [List.map_cons, List.map_nil, bv]; rw [← hB.out]), XX.out.below hb3 (by omega), BB.out.trans (hb3.mono (by omega)), by have := hb3.size; omega⟩, by simp [intOf]; omega⟩
    · obtain rfl : k = 8 := by omega
      rw [List.take_of_length_le (Nat.le_of_eq (be_length _ _))] at OO
      rw [show ((8 : Nat) : Int) = 8 from rfl]
      clear HCV hcv ht
      go_wp2_with fail
      go_loopw [3, 5] (fun v i wr => ∃ k : Nat, k ≤ 8 ∧ i = .int .i64 k ∧ wr.ownsRow (w.heap.size + 1) 5 1 v (8 + k) ((be T 8 ++ (be m 8).take k).map bv) ∧ Row wr w.heap.size 24 [.int .i64 hi, .int .u64 m] ∧ Below w.heap.size w wr ∧ w.heap.size + 1 ≤ wr.heap.size) (fun _ i _ => 8 - (intOf i).toNat)
      case atStart => exact ⟨0, by omega, rfl, by rw [List.take_zero, List.append_nil]; exact OO.out, XX.out, BB.out, hsz⟩
      case round =>
        clear OO XX BB hsz
        obtain ⟨k, hk, rfl, ho, hX, hbw, hsz⟩ := hrel
        have OO := Lib.hid ho
        have BB := Lib.hid hbw
        have XX := Lib.hid hX
        clear ho hbw hX
        by_cases hlt : k < 8
        · have hlt' : (k : Int) < 8 := by omega
          have hB := Lib.hid (byte_nat m k hlt)
          have TT := Lib.hid (be_take m k hlt)
          have e1 : (56 - 8 * (k : Int)).toNat = 56 - 8 * k := by omega
          have x1 := XX.out.cell (i := 1) rfl
          go_wp2_with (refine app1 (w0 := wr) (news := [_]) OO.out (Below.refl _ _) hsz 112 Try.underlying112 info_u8 rfl (by decide) (by decide) (by omega) rfl (by simp [Value.oneCell']) rfl rfl rfl rfl ?_; intro v' w3 ho3 hb3 _)
          exact ⟨⟨k + 1, by omega, by go_num, cast_own ho3 (by rw [TT.out, ← List.append_assoc, List.map_append (l₁ := be T 8 ++ _)]; simp only [List.map_cons, List.map_nil, bv]; rw [← hB.out]), XX.out.below hb3 (by omega), BB.out.trans (hb3.mono (by omega)), by have := hb3.size; omega⟩, by simp [intOf]; omega⟩
        · obtain rfl : k = 8 := by omega
          rw [List.take_of_length_le (Nat.le_of_eq (be_length _ _))] at OO
          have hcv2 := run_string_own OO.out Try.underlying112 Try.underlying5 Try.underlying9
          go_wp2_with fail
          go_ret
          exact ⟨rfl, BB.out⟩
end Go.Proofs.Ytcfjooeagfollaa.Wide
