/- The laws of sums: the walks. -/
import Derived.Test.YtlcjiofdbalplaaCrcRef
namespace Go.Proofs.Ytlcjiofdbalplaa.Crc
open Go.RowKit Go.Proofs.Ytlcjiofdbalplaa.Bytes Go.Proofs.Ytlcjiofdbalplaa.Mem
set_option linter.unusedSimpArgs false
set_option linter.unusedVariables false

theorem sum_check : num (sum [49, 50, 51, 52, 53, 54, 55, 56, 57]) = 3421780262 := by decide +kernel
theorem sum_none : num (sum []) = 0 := by decide +kernel
theorem tail_check : bs (tail (BitVec.ofInt 32 67305985)) = ⟨#[1, 2, 3, 4]⟩ := by decide +kernel
theorem tail_arg : (67305985 : Int) = num (BitVec.ofInt 32 67305985) := by decide +kernel
theorem opened_none : openedV [] = .tuple #[.string (bs []), .bool false] := rfl

set_option maxHeartbeats 800000 in
theorem awake_calls (w : World) : Calls Try.prog 12 #[] w fun e w' => e = .returned (.bool true) ∧ Below w.heap.size w w' := by
  have H1 := Lib.hid sum_check
  have H2 := Lib.hid sum_none
  have H3 := Lib.hid tail_check
  have H4 := Lib.hid opened_none
  have H5 := Lib.hid tail_arg
  go_enter Try.func12, Try.ntmps12
  go_wp2_with fail
  refine (open_calls _ _ (by decide)).mono ?_
  rintro e w1 ⟨rfl, hb1⟩
  have hb1' := Lib.hid hb1
  clear hb1
  rw [show openedV ((⟨#[]⟩ : ByteArray)).data.toList = .tuple #[.string (bs []), .bool false] from rfl]
  go_wp2_with fail
  refine (sum_calls _ _ (by decide)).mono ?_
  rintro e w2 ⟨rfl, rfl⟩
  rw [show num (sum ((⟨#[49, 50, 51, 52, 53, 54, 55, 56, 57]⟩ : ByteArray)).data.toList) = 3421780262 from H1.out]
  go_wp2_with fail
  refine (sum_calls _ _ (by decide)).mono ?_
  rintro e w2 ⟨rfl, rfl⟩
  rw [show num (sum ((⟨#[]⟩ : ByteArray)).data.toList) = 0 from H2.out]
  go_wp2_with fail
  rw [H5.out]
  refine (tail_calls _ _).mono ?_
  rintro e w2 ⟨rfl, hb2⟩
  rw [H3.out]
  have hb2' := Lib.hid hb2
  clear hb2
  go_wp2
  go_ret
  exact ⟨rfl, hb1'.out.trans (hb2'.out.mono hb1'.out.size)⟩

set_option maxHeartbeats 800000 in
theorem exact_calls (s : ByteArray) (n : BitVec 32) (w : World) (hs : s.size ≤ 140737488351232) :
    Calls Try.prog 3 #[.string s, .int .u32 (num n)] w fun e w' => e = .returned (.bool true) ∧ Below w.heap.size w w' := by
  have HB := Lib.hid (Below.refl w.heap.size w)
  have hsz : s.size + (bs (tail (sum s.data.toList))).size ≤ 9223372036854775807 := by rw [bs_size, tail_length]; omega
  have hcat : s ++ bs (tail (sum s.data.toList)) = bs (sealed s.data.toList) := by rw [← bs_of s, bs_append]; rfl
  have HC := Lib.hid hcat
  clear hcat
  by_cases hg : s.size ≤ 1024
  · have ho : ∃ r b, openedV s.data.toList = .tuple #[.string r, .bool b] := by unfold openedV; split <;> exact ⟨_, _, rfl⟩
    obtain ⟨r, b, ho⟩ := ho
    have HO := Lib.hid ho
    clear ho
    go_enter Try.func3, Try.ntmps3
    go_wp2_with (first
      | (go_at_call 12; refine (awake_calls _).mono ?_; rintro e w' ⟨rfl, hb⟩; replace HB := Lib.hid (below_next HB.out hb (Nat.le_refl _)); clear hb)
      | (go_at_call 13; refine (open_calls _ _ (by omega)).mono ?_; rintro e w' ⟨rfl, hb⟩; rw [HO.out]; replace HB := Lib.hid (below_next HB.out hb (Nat.le_refl _)); clear hb)
      | (go_at_call 14; refine (refopen_calls _ _ (by omega)).mono ?_; rintro e w' ⟨rfl, hb⟩; rw [HO.out]; replace HB := Lib.hid (below_next HB.out hb (Nat.le_refl _)); clear hb)
      | (go_at_call 15; refine (sum_calls _ _ (by omega)).mono ?_; rintro e w' ⟨rfl, rfl⟩)
      | (go_at_call 16; refine (refsum_calls _ _ (by omega)).mono ?_; rintro e w' ⟨rfl, rfl⟩)
      | (go_at_call 17; refine (tail_calls _ _).mono ?_; rintro e w' ⟨rfl, hb⟩; replace HB := Lib.hid (below_next HB.out hb (Nat.le_refl _)); clear hb)
      | (go_at_call 18; refine (reftail_calls _ _).mono ?_; rintro e w' ⟨rfl, hb⟩; (try rw [HC.out]); replace HB := Lib.hid (below_next HB.out hb (Nat.le_refl _)); clear hb)
      | (go_at_call 19; refine (seal_calls _ _ (by omega)).mono ?_; rintro e w' ⟨rfl, hb⟩; rw [← HC.out]; replace HB := Lib.hid (below_next HB.out hb (Nat.le_refl _)); clear hb))

    go_ret
    exact ⟨rfl, HB.out⟩
  · go_enter Try.func3, Try.ntmps3
    go_wp2_with (first
      | (go_at_call 12; refine (awake_calls _).mono ?_; rintro e w' ⟨rfl, hb⟩; replace HB := Lib.hid (below_next HB.out hb (Nat.le_refl _)); clear hb))
    go_ret
    exact ⟨rfl, HB.out⟩

theorem wf_u32 {n : Int} (h : (Lit.int .u32 n).wf = true) : 0 ≤ n ∧ n < 4294967296 := by
  simp [Lit.wf, IntKind.min, IntKind.max, IntKind.bits, IntKind.signed] at h
  omega
theorem exact_row (s : ByteArray) (n : Int) (w : World) (hs : s.size ≤ 140737488351232) (hn : (Lit.int .u32 n).wf = true) :
    Calls Try.prog 3 #[.string s, .int .u32 n] w fun e w' => e = .returned (.bool true) ∧ Below w.heap.size w w' := by
  have h := exact_calls s (BitVec.ofInt 32 n) w hs
  rwa [num_of (wf_u32 hn).1 (wf_u32 hn).2] at h
end Go.Proofs.Ytlcjiofdbalplaa.Crc
