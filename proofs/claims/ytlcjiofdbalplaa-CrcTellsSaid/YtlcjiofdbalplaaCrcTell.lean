/- The law of what was turned: the walk. -/
import Derived.Test.YtlcjiofdbalplaaCrcLin
import Derived.Test.YtlcjiofdbalplaaFlip
import Derived.RegionTactic
namespace Go.Proofs.Ytlcjiofdbalplaa.Crc
open Go.RowKit Go.Proofs.Ytlcjiofdbalplaa.Bytes Go.Proofs.Ytlcjiofdbalplaa.Mem
set_option linter.unusedSimpArgs false
set_option linter.unusedVariables false

theorem openedV_sealed (l : List UInt8) : openedV (sealed l) = .tuple #[.string (bs l), .bool true] := by
  unfold openedV
  rw [opened_sealed]

set_option maxHeartbeats 1600000 in
theorem tells_calls (s : ByteArray) (at_ : Int) (m : BitVec 32) (w : World) (hs : s.size ≤ 140737488351232) :
    Calls Try.prog 4 #[.string s, .int .i64 at_, .int .u32 (num m)] w fun e w' => e = .returned (.bool true) ∧ Below w.heap.size w w' := by
  have HB := Lib.hid (Below.refl w.heap.size w)
  by_cases hg : s.size ≤ 512
  · have hO := Lib.hid (openedV_sealed s.data.toList)
    have hsz : (bs (sealed s.data.toList)).size = s.size + 4 := by rw [bs_size, sealed_length]; rfl
    have HSZ := Lib.hid hsz
    have hle : (bs (sealed s.data.toList)).size ≤ 9223372036854775000 := by omega
    have hle2 : (bs (sealed s.data.toList)).size ≤ 516 := by omega
    have hge : 4 ≤ (bs (sealed s.data.toList)).size := by omega
    have hneq : (((bs (sealed s.data.toList)).size : Int) != (s.size : Int) + 4) = false := by rw [bne_eq_false_iff_eq]; omega
    clear hsz
    go_enter Try.func4, Try.ntmps4
    go_wp2_with (first
      | (go_at_call 12; refine (awake_calls _).mono ?_; rintro e w' ⟨rfl, hb⟩; replace HB := Lib.hid (below_next HB.out hb (Nat.le_refl _)); clear hb)
      | (go_at_call 19; refine (seal_calls _ _ (by omega)).mono ?_; rintro e w' ⟨rfl, hb⟩; replace HB := Lib.hid (below_next HB.out hb (Nat.le_refl _)); clear hb)
      | (go_at_call 13; refine (open_calls _ _ hle).mono ?_; rintro e w' ⟨rfl, hb⟩; rw [bs_data, hO.out]; replace HB := Lib.hid (below_next HB.out hb (Nat.le_refl _)); clear hb))
    obtain ⟨k, hk, hkl⟩ := idx_mod at_ (((bs (sealed s.data.toList)).size : Int) - 3) (by omega) (by omega)
    rw [hk]
    obtain ⟨c, w1, hrun, hc, hrow, hbw, hsz1⟩ := run_bytes (P := Try.prog) w' 9 31 5 (bs (sealed s.data.toList)) Try.underlying9 Try.underlying31 Try.underlying5
    rw [hrun]
    have hl4 : k + 4 ≤ (sealed s.data.toList).length := by rw [← bs_size]; omega
    have hrow' : Row w1 w'.heap.size 5 ((flip (sealed s.data.toList) k 0 m).map bv ++ List.replicate (c - (bs (sealed s.data.toList)).size) (.int .u8 0)) := by
      rw [flip_zero]
      exact hrow
    have HBW := below_next HB.out hbw (Nat.le_refl _)
    have hBsz := HB.out.size
    generalize w'.heap.size = B at *
    generalize hr : List.replicate (c - (bs (sealed s.data.toList)).size) (Value.int .u8 0) = r at *
    clear hr hrow hbw hsz1 HB
    go_wp2
    go_loopw [12] (fun i wr => ∃ j : Nat, j ≤ 4 ∧ i = .int .i64 j ∧ Row wr B 5 ((flip (sealed s.data.toList) k j m).map bv ++ r) ∧ Below w.heap.size w wr) (fun i _ => 4 - (intOf i).toNat)
    case atStart => exact ⟨0, by omega, rfl, hrow', HBW⟩
    case round =>
      clear hrow' HBW
      obtain ⟨j, hj, rfl, hrow, hbw⟩ := hrel
      by_cases hlt : j < 4
      · have hkj : k + j < (sealed s.data.toList).length := by omega
        have hx : (sealed s.data.toList)[k + j]? = some (sealed s.data.toList)[k + j] := List.getElem?_eq_getElem hkj
        have hcell : wr.cell? ⟨B, k + j, none⟩ = some (.int .u8 ((sealed s.data.toList)[k + j].toNat : Int)) := by
          refine hrow.cell ?_
          rw [List.getElem?_append_left (by rw [List.length_map, flip_length]; exact hkj), List.getElem?_map, flip_at, hx]
          rfl
        have hfz : wr.frozen? ⟨B, k + j, none⟩ = false := hrow.frozen _ (by rw [List.length_append, List.length_map, flip_length]; omega)
        have hi1 : (0 : Int) ≤ (k : Int) + (j : Int) := by omega
        have hi2 : (k : Int) + (j : Int) < ((bs (sealed s.data.toList)).size : Int) := by rw [bs_size]; omega
        have hwr : IntKind.i64.wrap ((k : Int) + (j : Int)) = (k : Int) + (j : Int) := by rw [IntKind.wrap_i64]; omega
        have htn : ((k : Int) + (j : Int)).toNat = k + j := by omega
        go_wp2
        go_region
        all_goals
          go_wp2
          go_roundw
          case rel =>
            refine ⟨j + 1, by omega, by go_num, ?_, (hbw.setCell hBsz _).drew⟩
            refine Row.drew ((hrow.set (k + j) _).cast ?_)
            rw [flip_succ _ _ _ _ _ hx, ← byteOf_num, xor_u8, List.set_append_left _ _ (by rw [List.length_map, flip_length]; exact hkj), List.map_set]
            rfl
          case measure => simp [intOf]; omega
      · obtain rfl : j = 4 := by omega
        have hcv : (convert 31 9 (.slice (some ⟨B, 0, none⟩) (bs (sealed s.data.toList)).size c)).run Try.prog wr = .ok (.string (bs (flip (sealed s.data.toList) k 4 m))) wr := by
          have h := run_string_row (P := Try.prog) (l := flip (sealed s.data.toList) k 4 m) hrow Try.underlying31 Try.underlying5 Try.underlying9 c
          rwa [flip_length, ← bs_size] at h
        have hle3 : (bs (flip (sealed s.data.toList) k 4 m)).size ≤ 9223372036854775000 := by rw [bs_size, flip_length, ← bs_size]; omega
        have hos : (opened (sealed s.data.toList)).isSome := by rw [opened_sealed]; rfl
        by_cases hm : m = 0
        · have hm1 : (num m == 0) = true := by rw [hm]; rfl
          have hP : Hid (openedV (flip (sealed s.data.toList) k 4 m) = .tuple #[.string (bs s.data.toList), .bool true]) := by rw [hm, flip_nothing, openedV_sealed]; rfl
          have hq : ((bs s.data.toList).toList == s.toList) = true := by rw [beq_iff_eq, toList_inj]; rfl
          clear hm
          go_wp2_with (go_at_call 13; refine (open_calls _ _ hle3).mono ?_; rintro e w' ⟨rfl, hb⟩; rw [bs_data, hP.out]; have hbw3 := Lib.hid (below_next hbw hb (Nat.le_refl _)); clear hb)
          go_ret
          exact ⟨rfl, hbw3.out⟩
        · have hm1 : (num m == 0) = false := by
            rw [beq_eq_false_iff_ne]
            intro h
            exact hm (num_inj (b := 0#32) h)
          have hP : Hid (openedV (flip (sealed s.data.toList) k 4 m) = .tuple #[.string (bs []), .bool false]) := by
            have := flip_closed _ k m hl4 hos hm
            unfold openedV
            rw [this]
            rfl
          have he : (bs []).toList.isEmpty = true := by rw [bs_toList]; rfl
          clear hm
          go_wp2_with (go_at_call 13; refine (open_calls _ _ hle3).mono ?_; rintro e w' ⟨rfl, hb⟩; rw [bs_data, hP.out]; have hbw3 := Lib.hid (below_next hbw hb (Nat.le_refl _)); clear hb)
          go_ret
          exact ⟨rfl, hbw3.out⟩
  · go_enter Try.func4, Try.ntmps4
    go_wp2_with (first
      | (go_at_call 12; refine (awake_calls _).mono ?_; rintro e w' ⟨rfl, hb⟩; replace HB := Lib.hid (below_next HB.out hb (Nat.le_refl _)); clear hb))
    go_ret
    exact ⟨rfl, HB.out⟩

theorem tells_row (s : ByteArray) (at_ n : Int) (w : World) (hs : s.size ≤ 140737488351232) (ha : (Lit.int .i64 at_).wf = true) (hn : (Lit.int .u32 n).wf = true) :
    Calls Try.prog 4 #[.string s, .int .i64 at_, .int .u32 n] w fun e w' => e = .returned (.bool true) ∧ Below w.heap.size w w' := by
  have h := tells_calls s at_ (BitVec.ofInt 32 n) w hs
  rwa [num_of (wf_u32 hn).1 (wf_u32 hn).2] at h
end Go.Proofs.Ytlcjiofdbalplaa.Crc
