/- Contracts of the document's functions of sums. -/
import Derived.Test.YtcfjooeagfollaaCrc
import Derived.LoopTactic
import Derived.RegionTactic
import Derived.Deep.RegionWith
import Derived.Deep.QuietTactic
import Derived.BigQuiet
namespace Go.Proofs.Ytcfjooeagfollaa.Crc
open Go.RowKit Go.Proofs.Ytcfjooeagfollaa.Bytes Go.Proofs.Ytcfjooeagfollaa.Mem
set_option linter.unusedSimpArgs false
set_option linter.unusedVariables false
set_option maxRecDepth 20000

theorem T_cases (x : BitVec 32) : ((Go.bits .and .u32 (num x) 1 == 1) = true ∧ num (T x) = Go.bits .xor .u32 (num x / 2) 3988292384) ∨ ((Go.bits .and .u32 (num x) 1 == 1) = false ∧ num (T x) = num x / 2) := by
  rw [low_num, half_num, poly_num]
  unfold T
  cases h : x.getLsbD 0 with
  | true => exact .inl ⟨rfl, by rw [xor_num]; rfl⟩
  | false => exact .inr ⟨rfl, by simp⟩

set_option maxHeartbeats 400000 in
theorem refsum_calls (s : ByteArray) (w : World) (hs : s.size ≤ 9223372036854775000) :
    Calls Try.prog 89 #[.string s] w fun e w' => e = .returned (.int .u32 (num (sum s.data.toList))) ∧ w' = w := by
  go_enter Try.func89, Try.ntmps89
  go_wp2
  go_loop [3, 4] (fun x i => ∃ k : Nat, k ≤ s.size ∧ i = .int .i64 k ∧ x = .int .u32 (num (reg ones (s.data.toList.take k)))) (fun _ i => s.size - (intOf i).toNat)
  case atStart => exact ⟨0, by omega, rfl, rfl⟩
  case round =>
    obtain ⟨k, hk, rfl, rfl⟩ := hrel
    by_cases hlt : k < s.size
    · have hi : k < s.data.toList.length := hlt
      have hb : (s[k].toNat : Int) % 4294967296 = num (s.data.toList[k].toBitVec.setWidth 32) := byte_num _
      have hstep : TN 8 (reg ones (s.data.toList.take k) ^^^ s.data.toList[k].toBitVec.setWidth 32) = reg ones (s.data.toList.take (k + 1)) := by
        rw [List.take_succ_eq_append_getElem hi, reg_append]; rfl
      have HB := Lib.hid hb
      have HS := Lib.hid hstep
      clear hb hstep
      go_wp2
      go_loop [3, 5] (fun x i => ∃ j : Nat, j ≤ 8 ∧ i = .int .i64 j ∧ x = .int .u32 (num (TN j (reg ones (s.data.toList.take k) ^^^ s.data.toList[k].toBitVec.setWidth 32)))) (fun _ i => 8 - (intOf i).toNat)
      case atStart => exact ⟨0, by omega, rfl, by rw [HB.out, xor_num]; rfl⟩
      case round =>
        obtain ⟨j, hj, rfl, rfl⟩ := hrel
        generalize hc : reg ones (s.data.toList.take k) ^^^ s.data.toList[k].toBitVec.setWidth 32 = c at *
        clear hc
        by_cases hlj : j < 8
        · have hst : num (TN (j + 1) c) = num (T (TN j c)) := by rw [TN_snoc]
          have HT := Lib.hid hst
          clear hst
          have hcase := T_cases (TN j c)
          generalize TN j c = x at *
          rcases hcase with ⟨h1, h2⟩ | ⟨h1, h2⟩
          · have H2 := Lib.hid h2
            clear h2
            go_wp2
            go_round
            case rel => exact ⟨j + 1, by omega, by go_num, by rw [HT.out, H2.out]⟩
            case measure => simp [intOf]; omega
          · have H2 := Lib.hid h2
            clear h2
            go_wp2
            go_round
            case rel => exact ⟨j + 1, by omega, by go_num, by rw [HT.out, H2.out]⟩
            case measure => simp [intOf]; omega
        · obtain rfl : j = 8 := by omega
          go_wp2
          go_round
          case rel => exact ⟨k + 1, by omega, by go_num, by rw [HS.out]⟩
          case measure => simp [intOf]; omega
    · obtain rfl : k = s.size := by omega
      go_wp2
      go_ret
      exact ⟨ret_int (by rw [List.take_of_length_le (by rw [size_list]; exact Nat.le_refl _), ones_num, xor_num]; rfl), rfl⟩

theorem tail_bytes (n : BitVec 32) : (tail n).map bv = [.int .u8 (num n % 256), .int .u8 (num n / 256 % 256), .int .u8 (num n / 65536 % 256), .int .u8 (num n / 16777216)] := by
  have h0 := byteOf_num n 0
  have h1 := byteOf_num n 1
  have h2 := byteOf_num n 2
  have h3 := byteOf_num n 3
  have h4 := (num_range n).2
  have h5 := (num_range n).1
  have e0 : (2 : Int) ^ (8 * 0) = 1 := rfl
  have e1 : (2 : Int) ^ (8 * 1) = 256 := rfl
  have e2 : (2 : Int) ^ (8 * 2) = 65536 := rfl
  have e3 : (2 : Int) ^ (8 * 3) = 16777216 := rfl
  rw [e0] at h0
  rw [e1] at h1
  rw [e2] at h2
  rw [e3] at h3
  have h6 : num n / 16777216 % 256 = num n / 16777216 := by omega
  rw [h6] at h3
  rw [Int.ediv_one] at h0
  simp only [tail, List.map, bv, h0, h1, h2, h3]

set_option maxHeartbeats 400000 in
theorem reftail_calls (n : BitVec 32) (w : World) :
    Calls Try.prog 88 #[.int .u32 (num n)] w fun e w' => e = .returned (.string (bs (tail n))) ∧ Below w.heap.size w w' := by
  have hr := num_range n
  have h0 := hr.1
  have h1 := hr.2
  clear hr
  have hcv : ∀ w' : World, Row w' w.heap.size 5 ((tail n).map bv ++ []) → (convert 112 9 (.slice (some ⟨w.heap.size, 0, none⟩) 4 4)).run Try.prog w' = .ok (.string (bs (tail n))) w' := fun w' h => run_string_row (l := tail n) (r := []) h Try.underlying112 Try.underlying5 Try.underlying9 4
  have hcv2 := hcv (w.alloc (.cells #[.int .u8 (num n % 256), .int .u8 (num n / 256 % 256), .int .u8 (num n / 65536 % 256), .int .u8 (num n / 16777216)] 5)) (by rw [tail_bytes]; exact Row.new' _ _ _)
  clear hcv
  go_enter Try.func88, Try.ntmps88
  go_wp2
  go_ret
  exact ⟨rfl, (Below.refl _ _).alloc (Nat.le_refl _) _⟩

theorem openedV_lt (s : ByteArray) (h4 : s.size < 4) : openedV s.data.toList = .tuple #[.string (bs []), .bool false] := by
  unfold openedV opened
  rw [if_pos (by rw [← size_list]; exact h4)]
theorem openedV_yes (s : ByteArray) (h4 : ¬ s.size < 4) (hq : bs (sealed (s.data.toList.take (s.size - 4))) = s) : openedV s.data.toList = .tuple #[.string (s.extract 0 (s.size - 4)), .bool true] := by
  unfold openedV opened
  rw [if_neg (by rw [← size_list]; exact h4), ← size_list, if_pos (show sealed (s.data.toList.take (s.size - 4)) = s.data.toList from congrArg (fun s => s.data.toList) hq), extract_take]
theorem openedV_no (s : ByteArray) (h4 : ¬ s.size < 4) (hq : ¬ bs (sealed (s.data.toList.take (s.size - 4))) = s) : openedV s.data.toList = .tuple #[.string (bs []), .bool false] := by
  unfold openedV opened
  rw [if_neg (by rw [← size_list]; exact h4), ← size_list, if_neg (by intro h; apply hq; rw [h]; rfl)]
/-- As the document asks: the tail of the sum of the beginning is the end. -/
theorem sealed_end (s : ByteArray) (h4 : ¬ s.size < 4) : bs (sealed (s.data.toList.take (s.size - 4))) = s ↔ (bs (tail (sum (s.data.toList.take (s.size - 4))))).toList = (s.extract (s.size - 4) s.size).toList := by
  rw [toList_inj, extract_drop]
  have e : s.data.toList.take (s.size - 4) ++ s.data.toList.drop (s.size - 4) = s.data.toList := List.take_append_drop _ _
  constructor
  · intro h
    have h2 : sealed (s.data.toList.take (s.size - 4)) = s.data.toList := congrArg (fun s => s.data.toList) h
    unfold sealed at h2
    congr 1
    exact List.append_cancel_left (h2.trans e.symm)
  · intro h
    have h2 := bs_inj h
    unfold sealed
    rw [h2, e]
    rfl

end Go.Proofs.Ytcfjooeagfollaa.Crc
