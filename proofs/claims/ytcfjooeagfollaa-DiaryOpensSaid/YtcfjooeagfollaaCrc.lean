/- Contracts of the program's functions of sums. -/
import Derived.Test.YtcfjooeagfollaaProg
import Derived.Test.YtcfjooeagfollaaCrcMath
import Derived.Test.YtcfjooeagfollaaBytes
import Derived.Test.YtcfjooeagfollaaMem
import Derived.Below
import Derived.WalkKit
import Derived.KernelRfl
import Derived.RowKit3
import Derived.IntWalk
import Derived.Outline
import Derived.Lib.Hide
namespace Go.Proofs.Ytcfjooeagfollaa.Crc
open Go.RowKit Go.Proofs.Ytcfjooeagfollaa.Bytes Go.Proofs.Ytcfjooeagfollaa.Mem
set_option linter.unusedSimpArgs false
set_option linter.unusedVariables false
set_option maxRecDepth 20000

theorem ret_int {k : IntKind} {a b : Int} (h : a = b) : Ending.returned (.int k a) = .returned (.int k b) := by rw [h]

theorem poly_num : (3988292384 : Int) = num 0xEDB88320#32 := rfl
theorem ones_num : (4294967295 : Int) = num ones := rfl

theorem shifted_step (c : BitVec 32) : Go.bits .xor .u32 (num c / 2) (Go.bits .and .u32 3988292384 ((-(Go.bits .and .u32 (num c) 1)) % 4294967296)) = num (T c) := by
  rw [low_num, half_num, poly_num]
  unfold T
  cases h : c.getLsbD 0 with
  | true =>
    rw [if_pos rfl, if_pos rfl, show ((-1 : Int) % 4294967296) = num ones from rfl, and_num, xor_num]
    rfl
  | false =>
    rw [if_neg (by simp), if_neg (by simp), show ((-0 : Int) % 4294967296) = num 0#32 from rfl, and_num, xor_num]
    simp

theorem TN_snoc (k : Nat) (c : BitVec 32) : TN (k + 1) c = T (TN k c) := by rw [TN_add]; rfl

set_option maxHeartbeats 400000 in
theorem shifted_calls (c : BitVec 32) (w : World) :
    Calls Try.prog 188 #[.int .u32 (num c)] w fun e w' => e = .returned (.int .u32 (num (TN 8 c))) ∧ w' = w := by
  go_enter Try.func188, Try.ntmps188
  go_wp2
  go_loop [0, 4] (fun x i => ∃ k : Nat, k ≤ 8 ∧ i = .int .i64 k ∧ x = .int .u32 (num (TN k c))) (fun _ i => 8 - (intOf i).toNat)
  case atStart => exact ⟨0, by omega, rfl, rfl⟩
  case round =>
    obtain ⟨k, hk, rfl, rfl⟩ := hrel
    by_cases hlt : k < 8
    · go_wp2
      go_round
      case rel => exact ⟨k + 1, by omega, by go_num, by rw [TN_snoc, ← shifted_step]⟩
      case measure => simp [intOf]; omega
    · obtain rfl : k = 8 := by omega
      go_wp2
      go_ret
      exact ⟨rfl, rfl⟩

set_option maxHeartbeats 400000 in
theorem sum_calls (s : ByteArray) (w : World) (hs : s.size ≤ 9223372036854775807) :
    Calls Try.prog 180 #[.string s] w fun e w' => e = .returned (.int .u32 (num (sum s.data.toList))) ∧ w' = w := by
  go_enter Try.func180, Try.ntmps180
  go_wp2
  go_loop [3, 7] (fun x i => ∃ k : Nat, k ≤ s.size ∧ i = .int .i64 k ∧ x = .int .u32 (num (reg ones (s.data.toList.take k)))) (fun _ i => s.size - (intOf i).toNat)
  case atStart => exact ⟨0, by omega, rfl, rfl⟩
  case round =>
    obtain ⟨k, hk, rfl, rfl⟩ := hrel
    by_cases hlt : k < s.size
    · have hi : k < s.data.toList.length := hlt
      have hb : (s[k].toNat : Int) % 4294967296 = num (s.data.toList[k].toBitVec.setWidth 32) := byte_num _
      have hstep : TN 8 (reg ones (s.data.toList.take k) ^^^ s.data.toList[k].toBitVec.setWidth 32) = reg ones (s.data.toList.take (k + 1)) := by
        rw [List.take_succ_eq_append_getElem hi, reg_append]; rfl
      have HB := Lib.hid hb
      have HS := Lib.hid hstep
      clear hb hstep
      go_wp2_with (go_at_call 188; rw [HB.out, xor_num]; refine (shifted_calls _ _).mono ?_; rintro e w' ⟨rfl, rfl⟩; rw [HS.out])
      go_round
      case rel => exact ⟨k + 1, by omega, by go_num, rfl⟩
      case measure => simp [intOf]; omega
    · obtain rfl : k = s.size := by omega
      go_wp2
      go_ret
      exact ⟨ret_int (by rw [List.take_of_length_le (by rw [size_list]; exact Nat.le_refl _), ones_num, xor_num]; rfl), rfl⟩

theorem byteOf_num (n : BitVec 32) (i : Nat) : ((byteOf n i).toNat : Int) = (num n / (2 : Int) ^ (8 * i)) % 256 := by
  unfold byteOf num
  show ((((n >>> (8 * i)).setWidth 8).toNat : Nat) : Int) = _
  rw [BitVec.toNat_setWidth, BitVec.toNat_ushiftRight, Nat.shiftRight_eq_div_pow, Int.natCast_emod, Int.natCast_ediv, Int.natCast_pow]
  rfl

set_option maxHeartbeats 400000 in
theorem tail_calls (n : BitVec 32) (w : World) :
    Calls Try.prog 179 #[.int .u32 (num n)] w fun e w' => e = .returned (.string (bs (tail n))) ∧ Below w.heap.size w w' := by
  have hmk : ∀ w, (Instr.makeSlice 112 (.int .i64 4) (.int .i64 4)).run Try.prog w = .ok (.slice (some ⟨w.heap.size, 0, none⟩) 4 4) (w.alloc (.cells #[.int .u8 0, .int .u8 0, .int .u8 0, .int .u8 0] 5)) := fun _ => by kernel_rfl
  go_enter Try.func179, Try.ntmps179
  go_wp2
  go_loopw [8] (fun i wr => ∃ k : Nat, k ≤ 4 ∧ i = .int .i64 k ∧ Row wr w.heap.size 5 (((tail n).take k).map bv ++ List.replicate (4 - k) (.int .u8 0)) ∧ Below w.heap.size w wr) (fun i _ => 4 - (intOf i).toNat)
  case atStart => exact ⟨0, by omega, rfl, Row.new' _ _ _, (Below.refl _ _).alloc (Nat.le_refl _) _⟩
  case round =>
    obtain ⟨k, hk, rfl, hr, hb⟩ := hrel
    by_cases hlt : k < 4
    · have hc : wr.cell? ⟨w.heap.size, k, none⟩ = some (.int .u8 0) := by
        refine hr.cell ?_
        rcases (by omega : k = 0 ∨ k = 1 ∨ k = 2 ∨ k = 3) with rfl | rfl | rfl | rfl <;> rfl
      have hf := hr.frozen k (by rcases (by omega : k = 0 ∨ k = 1 ∨ k = 2 ∨ k = 3) with rfl | rfl | rfl | rfl <;> (simp [tail]))
      go_wp2
      go_roundw
      case rel =>
        refine ⟨k + 1, by omega, by go_num, ?_, hb.setCell (Nat.le_refl _) _⟩
        have h := hr.set k (.int .u8 (num n / 2 ^ (8 * k) % 256))
        rw [← byteOf_num] at h ⊢
        rcases (by omega : k = 0 ∨ k = 1 ∨ k = 2 ∨ k = 3) with rfl | rfl | rfl | rfl <;> exact h
      case measure => simp [intOf]; omega
    · obtain rfl : k = 4 := by omega
      have hcv := run_string_row (P := Try.prog) (l := tail n) (r := []) hr Try.underlying112 Try.underlying5 Try.underlying9 4
      rw [tail_length] at hcv
      go_wp2
      go_ret
      exact ⟨rfl, hb⟩

set_option maxHeartbeats 400000 in
theorem seal_calls (s : ByteArray) (w : World) (hs : s.size ≤ 9223372036854775000) :
    Calls Try.prog 162 #[.string s] w fun e w' => e = .returned (.string (bs (sealed s.data.toList))) ∧ Below w.heap.size w w' := by
  have hsz : s.size + (bs (tail (sum s.data.toList))).size ≤ 9223372036854775807 := by rw [bs_size, tail_length]; omega
  have hcat : s ++ bs (tail (sum s.data.toList)) = bs (sealed s.data.toList) := by rw [← bs_of s, bs_append]; rfl
  have HC := Lib.hid hcat
  clear hcat
  go_enter Try.func162, Try.ntmps162
  go_wp2_with (first | (go_at_call 180; refine (sum_calls _ _ (by omega)).mono ?_; rintro e w' ⟨rfl, rfl⟩) | (go_at_call 179; refine (tail_calls _ _).mono ?_; rintro e w' ⟨rfl, hb⟩))
  go_ret
  exact ⟨rfl, by assumption⟩

/-- What Open answers. -/
def openedV (l : List UInt8) : Value := match opened l with
  | some m => .tuple #[.string (bs m), .bool true]
  | none => .tuple #[.string (bs []), .bool false]

set_option maxHeartbeats 400000 in
theorem open_calls (s : ByteArray) (w : World) (hs : s.size ≤ 9223372036854775000) :
    Calls Try.prog 167 #[.string s] w fun e w' => e = .returned (openedV s.data.toList) ∧ Below w.heap.size w w' := by
  by_cases h4 : s.size < 4
  · have hv : openedV s.data.toList = .tuple #[.string (bs []), .bool false] := by unfold openedV opened; rw [if_pos (by rw [← size_list]; exact h4)]
    rw [hv]
    clear hv
    go_enter Try.func167, Try.ntmps167
    go_wp2
    go_ret2
    exact ⟨rfl, Below.refl _ _⟩
  · have hw : IntKind.i64.wrap ((s.size : Int) - 4) = ((s.size - 4 : Nat) : Int) := by rw [IntKind.wrap_i64]; omega
    have h4' : 4 ≤ s.size := by omega
    have ht : (s.extract 0 (s.size - 4)).data.toList = s.data.toList.take (s.size - 4) := by rw [extract_take]; rfl
    have hse : (s.extract 0 (s.size - 4)).size ≤ 9223372036854775000 := by rw [extract_take, bs_size, List.length_take]; omega
    have hx : s.extract 0 (s.size - 4) = bs (s.data.toList.take (s.size - 4)) := extract_take _ _
    by_cases hq : bs (sealed (s.data.toList.take (s.size - 4))) = s
    · have hv : openedV s.data.toList = .tuple #[.string (s.extract 0 (s.size - 4)), .bool true] := by
        unfold openedV opened
        rw [if_neg (by rw [← size_list]; exact h4), ← size_list, if_pos (show sealed (s.data.toList.take (s.size - 4)) = s.data.toList from congrArg (fun s => s.data.toList) hq), hx]
      have hq1 : ((bs (sealed (s.data.toList.take (s.size - 4)))).toList == s.toList) = true := by rw [beq_iff_eq, toList_inj]; exact hq
      rw [hv]
      clear hv ht hx hq
      go_enter Try.func167, Try.ntmps167
      go_wp2_with (go_at_call 162; refine (seal_calls _ _ hse).mono ?_; rintro e w' ⟨rfl, hb⟩)
      go_ret2
      exact ⟨rfl, by assumption⟩
    · have hv : openedV s.data.toList = .tuple #[.string (bs []), .bool false] := by
        unfold openedV opened
        rw [if_neg (by rw [← size_list]; exact h4), ← size_list, if_neg (by intro h; apply hq; rw [h]; rfl)]
      have hq1 : ((bs (sealed (s.data.toList.take (s.size - 4)))).toList == s.toList) = false := by rw [beq_eq_false_iff_ne]; intro h; exact hq (toList_inj.1 h)
      rw [hv]
      clear hv ht hx hq
      go_enter Try.func167, Try.ntmps167
      go_wp2_with (go_at_call 162; refine (seal_calls _ _ hse).mono ?_; rintro e w' ⟨rfl, hb⟩)
      go_ret2
      exact ⟨rfl, by assumption⟩
end Go.Proofs.Ytcfjooeagfollaa.Crc
