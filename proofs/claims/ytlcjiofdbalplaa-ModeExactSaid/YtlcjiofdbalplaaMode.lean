/- Contracts of mode. -/
import Derived.Test.YtlcjiofdbalplaaProg
import Derived.Test.YtlcjiofdbalplaaModeMath
import Derived.Test.YtlcjiofdbalplaaMem
import Derived.WalkKit
import Derived.KernelRfl
import Derived.RowKit3
import Derived.IntWalk
import Derived.Outline
import Derived.Lib.Hide
namespace Go.Proofs.Ytlcjiofdbalplaa.Mode
open Go.RowKit
set_option linter.unusedSimpArgs false
set_option linter.unusedVariables false

theorem ret_int {k : IntKind} {a b : Int} (h : a = b) : Ending.returned (.int k a) = .returned (.int k b) := by rw [h]
theorem ret_bool {a b : Bool} (h : a = b) : Ending.returned (.bool a) = .returned (.bool b) := by rw [h]
theorem case_eq {a b : Int} (h : a = b) : (a == b) = true := by rw [beq_iff_eq]; exact h
theorem case_ne {a b : Int} (h : ¬ a = b) : (a == b) = false := by rw [beq_eq_false_iff_ne]; exact h

set_option maxHeartbeats 400000 in
theorem good_calls (a : Int) (w : World) : Calls Try.prog 30 #[.int .i64 a] w fun e w' => e = .returned (.bool (good a)) ∧ w' = w := by
  by_cases h : 1 ≤ a
  · go_enter Try.func30, Try.ntmps30
    go_wp2
    go_ret
    exact ⟨ret_bool (by simp [good, h]), rfl⟩
  · have h' : a < 1 := by omega
    have hg : good a = false := by simp [good, h]
    rw [hg]
    clear hg
    go_enter Try.func30, Try.ntmps30
    go_wp2
    go_ret
    exact ⟨rfl, rfl⟩

set_option maxHeartbeats 400000 in
theorem bit_calls (a : Int) (w : World) (h : a ∈ nine) : Calls Try.prog 40 #[.int .i64 a] w fun e w' => e = .returned (.int .i64 (2 ^ a.toNat)) ∧ w' = w := by
  simp only [nine, List.mem_cons, List.not_mem_nil, or_false] at h
  rcases h with rfl | rfl | rfl | rfl | rfl | rfl | rfl | rfl | rfl
  all_goals
    go_enter Try.func40, Try.ntmps40
    go_wp2
    go_ret
    exact ⟨ret_int (by decide), rfl⟩

set_option maxHeartbeats 1600000 in
theorem friends_calls (a : Int) (w : World) (h : a ∈ nine) : Calls Try.prog 39 #[.int .i64 a] w fun e w' => e = .returned (.int .i64 (fr a)) ∧ w' = w := by
  simp only [nine, List.mem_cons, List.not_mem_nil, or_false] at h
  rcases h with rfl | rfl | rfl | rfl | rfl | rfl | rfl | rfl | rfl
  all_goals
    go_enter Try.func39, Try.ntmps39
    go_wp2_with (go_at_call 40; refine (bit_calls _ _ (by decide)).mono ?_; rintro e w' ⟨rfl, rfl⟩)
    go_ret
    exact ⟨ret_int (by decide), rfl⟩

set_option maxHeartbeats 1600000 in
theorem below_calls (a : Int) (w : World) (h : a ∈ nine) : Calls Try.prog 42 #[.int .i64 a] w fun e w' => e = .returned (.int .i64 (bl a)) ∧ w' = w := by
  simp only [nine, List.mem_cons, List.not_mem_nil, or_false] at h
  rcases h with rfl | rfl | rfl | rfl | rfl | rfl | rfl | rfl | rfl
  all_goals
    go_enter Try.func42, Try.ntmps42
    go_wp2_with (go_at_call 40; refine (bit_calls _ _ (by decide)).mono ?_; rintro e w' ⟨rfl, rfl⟩)
    go_ret
    exact ⟨ret_int (by decide), rfl⟩

set_option maxHeartbeats 800000 in
theorem goes_calls (a b : Int) (w : World) : Calls Try.prog 32 #[.int .i64 a, .int .i64 b] w fun e w' => e = .returned (.bool (goes a b)) ∧ w' = w := by
  cases ha : good a with
  | false =>
    rw [goes_bad (.inl ha)]
    have HA := Lib.hid ha
    clear ha
    go_enter Try.func32, Try.ntmps32
    go_wp2_with (go_at_call 30; refine (good_calls _ _).mono ?_; rintro e w' ⟨rfl, rfl⟩; rw [HA.out])
    go_ret
    exact ⟨rfl, rfl⟩
  | true =>
    cases hb : good b with
    | false =>
      rw [goes_bad (.inr hb)]
      have HA := Lib.hid ha
      have HB := Lib.hid hb
      clear ha hb
      go_enter Try.func32, Try.ntmps32
      go_wp2_with (go_at_call 30; refine (good_calls _ _).mono ?_; rintro e w' ⟨rfl, rfl⟩; (first | rw [HA.out] | rw [HB.out]))
      go_ret
      exact ⟨rfl, rfl⟩
    | true =>
      have HG := Lib.hid (goes_bits a (good_mem ha) b (good_mem hb))
      have ma := Lib.hid (good_mem ha)
      have mb := Lib.hid (good_mem hb)
      have HA := Lib.hid ha
      have HB := Lib.hid hb
      clear ha hb
      go_enter Try.func32, Try.ntmps32
      go_wp2_with (first | (go_at_call 30; refine (good_calls _ _).mono ?_; rintro e w' ⟨rfl, rfl⟩; (first | rw [HA.out] | rw [HB.out])) | (go_at_call 39; refine (friends_calls _ _ ma.out).mono ?_; rintro e w' ⟨rfl, rfl⟩) | (go_at_call 40; refine (bit_calls _ _ mb.out).mono ?_; rintro e w' ⟨rfl, rfl⟩))
      go_ret
      exact ⟨ret_bool HG.out, rfl⟩

set_option maxHeartbeats 800000 in
theorem covers_calls (a b : Int) (w : World) : Calls Try.prog 34 #[.int .i64 a, .int .i64 b] w fun e w' => e = .returned (.bool (covers a b)) ∧ w' = w := by
  cases ha : good a with
  | false =>
    rw [covers_bad (.inl ha)]
    have HA := Lib.hid ha
    clear ha
    go_enter Try.func34, Try.ntmps34
    go_wp2_with (go_at_call 30; refine (good_calls _ _).mono ?_; rintro e w' ⟨rfl, rfl⟩; rw [HA.out])
    go_ret
    exact ⟨rfl, rfl⟩
  | true =>
    cases hb : good b with
    | false =>
      rw [covers_bad (.inr hb)]
      have HA := Lib.hid ha
      have HB := Lib.hid hb
      clear ha hb
      go_enter Try.func34, Try.ntmps34
      go_wp2_with (go_at_call 30; refine (good_calls _ _).mono ?_; rintro e w' ⟨rfl, rfl⟩; (first | rw [HA.out] | rw [HB.out]))
      go_ret
      exact ⟨rfl, rfl⟩
    | true =>
      have HG := Lib.hid (covers_bits a (good_mem ha) b (good_mem hb))
      have ma := Lib.hid (good_mem ha)
      have mb := Lib.hid (good_mem hb)
      have HA := Lib.hid ha
      have HB := Lib.hid hb
      clear ha hb
      go_enter Try.func34, Try.ntmps34
      go_wp2_with (first | (go_at_call 30; refine (good_calls _ _).mono ?_; rintro e w' ⟨rfl, rfl⟩; (first | rw [HA.out] | rw [HB.out])) | (go_at_call 42; refine (below_calls _ _ ma.out).mono ?_; rintro e w' ⟨rfl, rfl⟩) | (go_at_call 40; refine (bit_calls _ _ mb.out).mono ?_; rintro e w' ⟨rfl, rfl⟩))
      go_ret
      exact ⟨ret_bool HG.out, rfl⟩

set_option maxHeartbeats 3200000 in
theorem join_calls (a b : Int) (w : World) : Calls Try.prog 36 #[.int .i64 a, .int .i64 b] w fun e w' => e = .returned (.int .i64 (join a b)) ∧ w' = w := by
  cases ha : good a with
  | false =>
    rw [join_bad (.inl ha)]
    go_enter Try.func36, Try.ntmps36
    go_wp2_with (first | (go_at_call 30; refine (good_calls _ _).mono ?_; rintro e w' ⟨rfl, rfl⟩) | (go_at_call 34; refine (covers_calls _ _ _).mono ?_; rintro e w' ⟨rfl, rfl⟩))
    go_ret
    exact ⟨rfl, rfl⟩
  | true =>
    cases hb : good b with
    | false =>
      rw [join_bad (.inr hb)]
      go_enter Try.func36, Try.ntmps36
      go_wp2_with (first | (go_at_call 30; refine (good_calls _ _).mono ?_; rintro e w' ⟨rfl, rfl⟩) | (go_at_call 34; refine (covers_calls _ _ _).mono ?_; rintro e w' ⟨rfl, rfl⟩))
      go_ret
      exact ⟨rfl, rfl⟩
    | true =>
      have HJ : joinBy a b = join a b := joinBy_eq a (good_mem ha) b (good_mem hb)
      rw [← HJ]
      clear HJ
      unfold joinBy
      cases h1 : covers a b with
      | true =>
        simp only [h1, Bool.false_and, Bool.and_false, Bool.and_self, Bool.true_and, Bool.false_eq_true, if_false, if_true]
        go_enter Try.func36, Try.ntmps36
        go_wp2_with (first | (go_at_call 30; refine (good_calls _ _).mono ?_; rintro e w' ⟨rfl, rfl⟩) | (go_at_call 34; refine (covers_calls _ _ _).mono ?_; rintro e w' ⟨rfl, rfl⟩))
        go_ret
        exact ⟨rfl, rfl⟩
      | false =>
        cases h2 : covers b a with
        | true =>
          simp only [h1, h2, Bool.false_and, Bool.and_false, Bool.and_self, Bool.true_and, Bool.false_eq_true, if_false, if_true]
          go_enter Try.func36, Try.ntmps36
          go_wp2_with (first | (go_at_call 30; refine (good_calls _ _).mono ?_; rintro e w' ⟨rfl, rfl⟩) | (go_at_call 34; refine (covers_calls _ _ _).mono ?_; rintro e w' ⟨rfl, rfl⟩))
          go_ret
          exact ⟨rfl, rfl⟩
        | false =>
          cases h5a : covers 5 a with
          | true =>
            cases h5b : covers 5 b with
            | true =>
              simp only [h1, h2, h5a, h5b, Bool.false_and, Bool.and_false, Bool.and_self, Bool.true_and, Bool.false_eq_true, if_false, if_true]
              go_enter Try.func36, Try.ntmps36
              go_wp2_with (first | (go_at_call 30; refine (good_calls _ _).mono ?_; rintro e w' ⟨rfl, rfl⟩) | (go_at_call 34; refine (covers_calls _ _ _).mono ?_; rintro e w' ⟨rfl, rfl⟩))
              go_ret
              exact ⟨rfl, rfl⟩
            | false =>
              cases h9a : covers 9 a with
              | true =>
                cases h9b : covers 9 b with
                | true =>
                  simp only [h1, h2, h5a, h5b, h9a, h9b, Bool.false_and, Bool.and_false, Bool.and_self, Bool.true_and, Bool.false_eq_true, if_false, if_true]
                  go_enter Try.func36, Try.ntmps36
                  go_wp2_with (first | (go_at_call 30; refine (good_calls _ _).mono ?_; rintro e w' ⟨rfl, rfl⟩) | (go_at_call 34; refine (covers_calls _ _ _).mono ?_; rintro e w' ⟨rfl, rfl⟩))
                  go_ret
                  exact ⟨rfl, rfl⟩
                | false =>
                  simp only [h1, h2, h5a, h5b, h9a, h9b, Bool.false_and, Bool.and_false, Bool.and_self, Bool.true_and, Bool.false_eq_true, if_false, if_true]
                  go_enter Try.func36, Try.ntmps36
                  go_wp2_with (first | (go_at_call 30; refine (good_calls _ _).mono ?_; rintro e w' ⟨rfl, rfl⟩) | (go_at_call 34; refine (covers_calls _ _ _).mono ?_; rintro e w' ⟨rfl, rfl⟩))
                  go_ret
                  exact ⟨rfl, rfl⟩
              | false =>
                simp only [h1, h2, h5a, h5b, h9a, Bool.false_and, Bool.and_false, Bool.and_self, Bool.true_and, Bool.false_eq_true, if_false, if_true]
                go_enter Try.func36, Try.ntmps36
                go_wp2_with (first | (go_at_call 30; refine (good_calls _ _).mono ?_; rintro e w' ⟨rfl, rfl⟩) | (go_at_call 34; refine (covers_calls _ _ _).mono ?_; rintro e w' ⟨rfl, rfl⟩))
                go_ret
                exact ⟨rfl, rfl⟩
          | false =>
            cases h9a : covers 9 a with
            | true =>
              cases h9b : covers 9 b with
              | true =>
                simp only [h1, h2, h5a, h9a, h9b, Bool.false_and, Bool.and_false, Bool.and_self, Bool.true_and, Bool.false_eq_true, if_false, if_true]
                go_enter Try.func36, Try.ntmps36
                go_wp2_with (first | (go_at_call 30; refine (good_calls _ _).mono ?_; rintro e w' ⟨rfl, rfl⟩) | (go_at_call 34; refine (covers_calls _ _ _).mono ?_; rintro e w' ⟨rfl, rfl⟩))
                go_ret
                exact ⟨rfl, rfl⟩
              | false =>
                simp only [h1, h2, h5a, h9a, h9b, Bool.false_and, Bool.and_false, Bool.and_self, Bool.true_and, Bool.false_eq_true, if_false, if_true]
                go_enter Try.func36, Try.ntmps36
                go_wp2_with (first | (go_at_call 30; refine (good_calls _ _).mono ?_; rintro e w' ⟨rfl, rfl⟩) | (go_at_call 34; refine (covers_calls _ _ _).mono ?_; rintro e w' ⟨rfl, rfl⟩))
                go_ret
                exact ⟨rfl, rfl⟩
            | false =>
              simp only [h1, h2, h5a, h9a, Bool.false_and, Bool.and_false, Bool.and_self, Bool.true_and, Bool.false_eq_true, if_false, if_true]
              go_enter Try.func36, Try.ntmps36
              go_wp2_with (first | (go_at_call 30; refine (good_calls _ _).mono ?_; rintro e w' ⟨rfl, rfl⟩) | (go_at_call 34; refine (covers_calls _ _ _).mono ?_; rintro e w' ⟨rfl, rfl⟩))
              go_ret
              exact ⟨rfl, rfl⟩
end Go.Proofs.Ytlcjiofdbalplaa.Mode
