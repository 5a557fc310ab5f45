/- The laws of modes: the walks of ModeJoins and ModeOrder. -/
import Derived.Test.YtlcjiofdbalplaaMode
import Derived.Below
namespace Go.Proofs.Ytlcjiofdbalplaa.Mode
open Go.RowKit
set_option linter.unusedSimpArgs false
set_option linter.unusedVariables false

set_option maxHeartbeats 800000 in
theorem awake_calls (w : World) : Calls Try.prog 29 #[] w fun e w' => e = .returned (.bool true) ∧ w' = w := by
  have a1 : good 9 = true := by decide
  have a2 : good 0 = false := by decide
  have a3 : goes 6 6 = true := by decide
  have a4 : goes 6 3 = false := by decide
  have a5 : join 3 2 = 5 := by decide
  have a6 : join 7 8 = 9 := by decide
  have a7 : join 3 7 = 0 := by decide
  have a8 : covers 4 3 = true := by decide
  go_enter Try.func29, Try.ntmps29
  go_wp2_with (first | (go_at_call 30; refine (good_calls _ _).mono ?_; rintro e w' ⟨rfl, rfl⟩) | (go_at_call 32; refine (goes_calls _ _ _).mono ?_; rintro e w' ⟨rfl, rfl⟩) | (go_at_call 34; refine (covers_calls _ _ _).mono ?_; rintro e w' ⟨rfl, rfl⟩) | (go_at_call 36; refine (join_calls _ _ _).mono ?_; rintro e w' ⟨rfl, rfl⟩))
  go_ret
  exact ⟨rfl, rfl⟩

theorem joins_facts (a b c : Int) : join b a = join a b ∧ (good a = true → join a a = a) ∧ (join a b ≠ 0 → good a = true ∧ good b = true ∧ covers (join a b) a = true ∧ covers (join a b) b = true ∧ (goes (join a b) c = true → goes a c = true ∧ goes b c = true) ∧ (join b c ≠ 0 → join (join a b) c = join a (join b c))) ∧ (covers c a = true → covers c b = true → covers c (join a b) = true) := by
  have h := joins_all a b c
  unfold joinsOk at h
  simp only at h
  split at h
  · cases h
  rename_i h1
  split at h
  · cases h
  rename_i h2
  split at h
  · cases h
  rename_i h3
  simp only [Bool.or_eq_true, not_or, Bool.and_eq_true, not_and, bne_iff_ne, ne_eq, Classical.not_not, beq_iff_eq, Bool.not_eq_true', Bool.not_eq_true] at h h1 h2 h3
  obtain ⟨⟨h1a, h1b⟩, h1c⟩ := h1
  refine ⟨h1a.symm, fun g => h1b g, fun hx => ?_, fun g1 g2 => ?_⟩
  · have k1 := h1c hx
    have k2 := h2 hx
    refine ⟨by simpa using k1.1, by simpa using k1.2, by simpa using k2.1.1, by simpa using k2.1.2, fun g => ?_, fun hy => ?_⟩
    · have := k2.2 g
      exact ⟨by simpa using this.1, by simpa using this.2⟩
    · rcases h with (h | h) | h
      · exact absurd h hx
      · exact absurd h hy
      · exact h
  · exact (Bool.not_eq_false _).mp (h3 ⟨g1, g2⟩)

set_option maxHeartbeats 8000000 in
theorem joinslaw_calls (a b c : Int) (w : World) : Calls Try.prog 10 #[.int .i64 a, .int .i64 b, .int .i64 c] w fun e w' => e = .returned (.bool true) ∧ w' = w := by
  obtain ⟨F1, F2, F3, F4⟩ := joins_facts a b c
  have H2 := Lib.hid F2
  have H3 := Lib.hid F3
  clear F2 F3
  by_cases hx : join a b = 0
  · rw [hx] at F4
    have H4 := Lib.hid F4
    clear F4 H3
    cases ga : good a with
    | true =>
      have jaa := H2.out ga
      cases ka : covers c a with
      | true =>
        cases kb : covers c b with
        | true =>
          have kx := H4.out ka kb
          go_enter Try.func10, Try.ntmps10
          go_wp2_with (first | (go_at_call 29; refine (awake_calls _).mono ?_; rintro e w' ⟨rfl, rfl⟩) | (go_at_call 30; refine (good_calls _ _).mono ?_; rintro e w' ⟨rfl, rfl⟩) | (go_at_call 32; refine (goes_calls _ _ _).mono ?_; rintro e w' ⟨rfl, rfl⟩) | (go_at_call 34; refine (covers_calls _ _ _).mono ?_; rintro e w' ⟨rfl, rfl⟩) | (go_at_call 36; refine (join_calls _ _ _).mono ?_; rintro e w' ⟨rfl, rfl⟩))
          go_ret
          exact ⟨rfl, rfl⟩
        | false =>
          go_enter Try.func10, Try.ntmps10
          go_wp2_with (first | (go_at_call 29; refine (awake_calls _).mono ?_; rintro e w' ⟨rfl, rfl⟩) | (go_at_call 30; refine (good_calls _ _).mono ?_; rintro e w' ⟨rfl, rfl⟩) | (go_at_call 32; refine (goes_calls _ _ _).mono ?_; rintro e w' ⟨rfl, rfl⟩) | (go_at_call 34; refine (covers_calls _ _ _).mono ?_; rintro e w' ⟨rfl, rfl⟩) | (go_at_call 36; refine (join_calls _ _ _).mono ?_; rintro e w' ⟨rfl, rfl⟩))
          go_ret
          exact ⟨rfl, rfl⟩
      | false =>
        go_enter Try.func10, Try.ntmps10
        go_wp2_with (first | (go_at_call 29; refine (awake_calls _).mono ?_; rintro e w' ⟨rfl, rfl⟩) | (go_at_call 30; refine (good_calls _ _).mono ?_; rintro e w' ⟨rfl, rfl⟩) | (go_at_call 32; refine (goes_calls _ _ _).mono ?_; rintro e w' ⟨rfl, rfl⟩) | (go_at_call 34; refine (covers_calls _ _ _).mono ?_; rintro e w' ⟨rfl, rfl⟩) | (go_at_call 36; refine (join_calls _ _ _).mono ?_; rintro e w' ⟨rfl, rfl⟩))
        go_ret
        exact ⟨rfl, rfl⟩
    | false =>
      cases ka : covers c a with
      | true =>
        cases kb : covers c b with
        | true =>
          have kx := H4.out ka kb
          go_enter Try.func10, Try.ntmps10
          go_wp2_with (first | (go_at_call 29; refine (awake_calls _).mono ?_; rintro e w' ⟨rfl, rfl⟩) | (go_at_call 30; refine (good_calls _ _).mono ?_; rintro e w' ⟨rfl, rfl⟩) | (go_at_call 32; refine (goes_calls _ _ _).mono ?_; rintro e w' ⟨rfl, rfl⟩) | (go_at_call 34; refine (covers_calls _ _ _).mono ?_; rintro e w' ⟨rfl, rfl⟩) | (go_at_call 36; refine (join_calls _ _ _).mono ?_; rintro e w' ⟨rfl, rfl⟩))
          go_ret
          exact ⟨rfl, rfl⟩
        | false =>
          go_enter Try.func10, Try.ntmps10
          go_wp2_with (first | (go_at_call 29; refine (awake_calls _).mono ?_; rintro e w' ⟨rfl, rfl⟩) | (go_at_call 30; refine (good_calls _ _).mono ?_; rintro e w' ⟨rfl, rfl⟩) | (go_at_call 32; refine (goes_calls _ _ _).mono ?_; rintro e w' ⟨rfl, rfl⟩) | (go_at_call 34; refine (covers_calls _ _ _).mono ?_; rintro e w' ⟨rfl, rfl⟩) | (go_at_call 36; refine (join_calls _ _ _).mono ?_; rintro e w' ⟨rfl, rfl⟩))
          go_ret
          exact ⟨rfl, rfl⟩
      | false =>
        go_enter Try.func10, Try.ntmps10
        go_wp2_with (first | (go_at_call 29; refine (awake_calls _).mono ?_; rintro e w' ⟨rfl, rfl⟩) | (go_at_call 30; refine (good_calls _ _).mono ?_; rintro e w' ⟨rfl, rfl⟩) | (go_at_call 32; refine (goes_calls _ _ _).mono ?_; rintro e w' ⟨rfl, rfl⟩) | (go_at_call 34; refine (covers_calls _ _ _).mono ?_; rintro e w' ⟨rfl, rfl⟩) | (go_at_call 36; refine (join_calls _ _ _).mono ?_; rintro e w' ⟨rfl, rfl⟩))
        go_ret
        exact ⟨rfl, rfl⟩
  · obtain ⟨ga, gb, ca, cb, G, J⟩ := H3.out hx
    have jaa := H2.out ga
    have HG := Lib.hid G
    have HJ := Lib.hid J
    have H4 := Lib.hid F4
    have hx1 : (join a b == 0) = false := by rw [beq_eq_false_iff_ne]; exact hx
    have hx2 : (join a b != 0) = true := by rw [bne_iff_ne]; exact hx
    clear G J F4 H3 H2 hx
    cases gx : goes (join a b) c with
    | true =>
      obtain ⟨g1, g2⟩ := HG.out gx
      cases ka : covers c a with
      | true =>
        cases kb : covers c b with
        | true =>
          have kx := H4.out ka kb
          by_cases hy : join b c = 0
          · skip
            go_enter Try.func10, Try.ntmps10
            go_wp2_with (first | (go_at_call 29; refine (awake_calls _).mono ?_; rintro e w' ⟨rfl, rfl⟩) | (go_at_call 30; refine (good_calls _ _).mono ?_; rintro e w' ⟨rfl, rfl⟩) | (go_at_call 32; refine (goes_calls _ _ _).mono ?_; rintro e w' ⟨rfl, rfl⟩) | (go_at_call 34; refine (covers_calls _ _ _).mono ?_; rintro e w' ⟨rfl, rfl⟩) | (go_at_call 36; refine (join_calls _ _ _).mono ?_; rintro e w' ⟨rfl, rfl⟩))
            go_ret
            exact ⟨rfl, rfl⟩
          · have hj := HJ.out hy
            have hy1 : (join b c == 0) = false := by rw [beq_eq_false_iff_ne]; exact hy
            clear hy
            go_enter Try.func10, Try.ntmps10
            go_wp2_with (first | (go_at_call 29; refine (awake_calls _).mono ?_; rintro e w' ⟨rfl, rfl⟩) | (go_at_call 30; refine (good_calls _ _).mono ?_; rintro e w' ⟨rfl, rfl⟩) | (go_at_call 32; refine (goes_calls _ _ _).mono ?_; rintro e w' ⟨rfl, rfl⟩) | (go_at_call 34; refine (covers_calls _ _ _).mono ?_; rintro e w' ⟨rfl, rfl⟩) | (go_at_call 36; refine (join_calls _ _ _).mono ?_; rintro e w' ⟨rfl, rfl⟩))
            go_ret
            exact ⟨rfl, rfl⟩
        | false =>
          by_cases hy : join b c = 0
          · skip
            go_enter Try.func10, Try.ntmps10
            go_wp2_with (first | (go_at_call 29; refine (awake_calls _).mono ?_; rintro e w' ⟨rfl, rfl⟩) | (go_at_call 30; refine (good_calls _ _).mono ?_; rintro e w' ⟨rfl, rfl⟩) | (go_at_call 32; refine (goes_calls _ _ _).mono ?_; rintro e w' ⟨rfl, rfl⟩) | (go_at_call 34; refine (covers_calls _ _ _).mono ?_; rintro e w' ⟨rfl, rfl⟩) | (go_at_call 36; refine (join_calls _ _ _).mono ?_; rintro e w' ⟨rfl, rfl⟩))
            go_ret
            exact ⟨rfl, rfl⟩
          · have hj := HJ.out hy
            have hy1 : (join b c == 0) = false := by rw [beq_eq_false_iff_ne]; exact hy
            clear hy
            go_enter Try.func10, Try.ntmps10
            go_wp2_with (first | (go_at_call 29; refine (awake_calls _).mono ?_; rintro e w' ⟨rfl, rfl⟩) | (go_at_call 30; refine (good_calls _ _).mono ?_; rintro e w' ⟨rfl, rfl⟩) | (go_at_call 32; refine (goes_calls _ _ _).mono ?_; rintro e w' ⟨rfl, rfl⟩) | (go_at_call 34; refine (covers_calls _ _ _).mono ?_; rintro e w' ⟨rfl, rfl⟩) | (go_at_call 36; refine (join_calls _ _ _).mono ?_; rintro e w' ⟨rfl, rfl⟩))
            go_ret
            exact ⟨rfl, rfl⟩
      | false =>
        by_cases hy : join b c = 0
        · skip
          go_enter Try.func10, Try.ntmps10
          go_wp2_with (first | (go_at_call 29; refine (awake_calls _).mono ?_; rintro e w' ⟨rfl, rfl⟩) | (go_at_call 30; refine (good_calls _ _).mono ?_; rintro e w' ⟨rfl, rfl⟩) | (go_at_call 32; refine (goes_calls _ _ _).mono ?_; rintro e w' ⟨rfl, rfl⟩) | (go_at_call 34; refine (covers_calls _ _ _).mono ?_; rintro e w' ⟨rfl, rfl⟩) | (go_at_call 36; refine (join_calls _ _ _).mono ?_; rintro e w' ⟨rfl, rfl⟩))
          go_ret
          exact ⟨rfl, rfl⟩
        · have hj := HJ.out hy
          have hy1 : (join b c == 0) = false := by rw [beq_eq_false_iff_ne]; exact hy
          clear hy
          go_enter Try.func10, Try.ntmps10
          go_wp2_with (first | (go_at_call 29; refine (awake_calls _).mono ?_; rintro e w' ⟨rfl, rfl⟩) | (go_at_call 30; refine (good_calls _ _).mono ?_; rintro e w' ⟨rfl, rfl⟩) | (go_at_call 32; refine (goes_calls _ _ _).mono ?_; rintro e w' ⟨rfl, rfl⟩) | (go_at_call 34; refine (covers_calls _ _ _).mono ?_; rintro e w' ⟨rfl, rfl⟩) | (go_at_call 36; refine (join_calls _ _ _).mono ?_; rintro e w' ⟨rfl, rfl⟩))
          go_ret
          exact ⟨rfl, rfl⟩
    | false =>
      cases ka : covers c a with
      | true =>
        cases kb : covers c b with
        | true =>
          have kx := H4.out ka kb
          by_cases hy : join b c = 0
          · skip
            go_enter Try.func10, Try.ntmps10
            go_wp2_with (first | (go_at_call 29; refine (awake_calls _).mono ?_; rintro e w' ⟨rfl, rfl⟩) | (go_at_call 30; refine (good_calls _ _).mono ?_; rintro e w' ⟨rfl, rfl⟩) | (go_at_call 32; refine (goes_calls _ _ _).mono ?_; rintro e w' ⟨rfl, rfl⟩) | (go_at_call 34; refine (covers_calls _ _ _).mono ?_; rintro e w' ⟨rfl, rfl⟩) | (go_at_call 36; refine (join_calls _ _ _).mono ?_; rintro e w' ⟨rfl, rfl⟩))
            go_ret
            exact ⟨rfl, rfl⟩
          · have hj := HJ.out hy
            have hy1 : (join b c == 0) = false := by rw [beq_eq_false_iff_ne]; exact hy
            clear hy
            go_enter Try.func10, Try.ntmps10
            go_wp2_with (first | (go_at_call 29; refine (awake_calls _).mono ?_; rintro e w' ⟨rfl, rfl⟩) | (go_at_call 30; refine (good_calls _ _).mono ?_; rintro e w' ⟨rfl, rfl⟩) | (go_at_call 32; refine (goes_calls _ _ _).mono ?_; rintro e w' ⟨rfl, rfl⟩) | (go_at_call 34; refine (covers_calls _ _ _).mono ?_; rintro e w' ⟨rfl, rfl⟩) | (go_at_call 36; refine (join_calls _ _ _).mono ?_; rintro e w' ⟨rfl, rfl⟩))
            go_ret
            exact ⟨rfl, rfl⟩
        | false =>
          by_cases hy : join b c = 0
          · skip
            go_enter Try.func10, Try.ntmps10
            go_wp2_with (first | (go_at_call 29; refine (awake_calls _).mono ?_; rintro e w' ⟨rfl, rfl⟩) | (go_at_call 30; refine (good_calls _ _).mono ?_; rintro e w' ⟨rfl, rfl⟩) | (go_at_call 32; refine (goes_calls _ _ _).mono ?_; rintro e w' ⟨rfl, rfl⟩) | (go_at_call 34; refine (covers_calls _ _ _).mono ?_; rintro e w' ⟨rfl, rfl⟩) | (go_at_call 36; refine (join_calls _ _ _).mono ?_; rintro e w' ⟨rfl, rfl⟩))
            go_ret
            exact ⟨rfl, rfl⟩
          · have hj := HJ.out hy
            have hy1 : (join b c == 0) = false := by rw [beq_eq_false_iff_ne]; exact hy
            clear hy
            go_enter Try.func10, Try.ntmps10
            go_wp2_with (first | (go_at_call 29; refine (awake_calls _).mono ?_; rintro e w' ⟨rfl, rfl⟩) | (go_at_call 30; refine (good_calls _ _).mono ?_; rintro e w' ⟨rfl, rfl⟩) | (go_at_call 32; refine (goes_calls _ _ _).mono ?_; rintro e w' ⟨rfl, rfl⟩) | (go_at_call 34; refine (covers_calls _ _ _).mono ?_; rintro e w' ⟨rfl, rfl⟩) | (go_at_call 36; refine (join_calls _ _ _).mono ?_; rintro e w' ⟨rfl, rfl⟩))
            go_ret
            exact ⟨rfl, rfl⟩
      | false =>
        by_cases hy : join b c = 0
        · skip
          go_enter Try.func10, Try.ntmps10
          go_wp2_with (first | (go_at_call 29; refine (awake_calls _).mono ?_; rintro e w' ⟨rfl, rfl⟩) | (go_at_call 30; refine (good_calls _ _).mono ?_; rintro e w' ⟨rfl, rfl⟩) | (go_at_call 32; refine (goes_calls _ _ _).mono ?_; rintro e w' ⟨rfl, rfl⟩) | (go_at_call 34; refine (covers_calls _ _ _).mono ?_; rintro e w' ⟨rfl, rfl⟩) | (go_at_call 36; refine (join_calls _ _ _).mono ?_; rintro e w' ⟨rfl, rfl⟩))
          go_ret
          exact ⟨rfl, rfl⟩
        · have hj := HJ.out hy
          have hy1 : (join b c == 0) = false := by rw [beq_eq_false_iff_ne]; exact hy
          clear hy
          go_enter Try.func10, Try.ntmps10
          go_wp2_with (first | (go_at_call 29; refine (awake_calls _).mono ?_; rintro e w' ⟨rfl, rfl⟩) | (go_at_call 30; refine (good_calls _ _).mono ?_; rintro e w' ⟨rfl, rfl⟩) | (go_at_call 32; refine (goes_calls _ _ _).mono ?_; rintro e w' ⟨rfl, rfl⟩) | (go_at_call 34; refine (covers_calls _ _ _).mono ?_; rintro e w' ⟨rfl, rfl⟩) | (go_at_call 36; refine (join_calls _ _ _).mono ?_; rintro e w' ⟨rfl, rfl⟩))
          go_ret
          exact ⟨rfl, rfl⟩

theorem order_facts (a b c : Int) : covers a a = good a ∧ goes b a = goes a b ∧ (covers a b = true → covers b a = true → a = b) ∧ (covers a b = true → covers b c = true → covers a c = true) ∧ (covers a b = true → goes a c = true → goes b c = true) := by
  have h := order_all a b c
  unfold orderOk at h
  split at h
  · cases h
  rename_i h1
  split at h
  · cases h
  rename_i h2
  simp only [Bool.or_eq_true, not_or, Bool.and_eq_true, not_and, bne_iff_ne, ne_eq, Classical.not_not, beq_iff_eq, Bool.not_eq_true', Bool.not_eq_true] at h h1 h2
  refine ⟨h1.1.symm, h1.2.symm, fun g1 g2 => h2.1 ⟨g1, g2⟩, fun g1 g2 => by simpa using h2.2 ⟨g1, g2⟩, fun g1 g2 => ?_⟩
  rcases h with (h | h) | h
  · rw [g1] at h; cases h
  · rw [g2] at h; cases h
  · exact h

set_option maxHeartbeats 8000000 in
theorem orderlaw_calls (a b c : Int) (w : World) : Calls Try.prog 11 #[.int .i64 a, .int .i64 b, .int .i64 c] w fun e w' => e = .returned (.bool true) ∧ w' = w := by
  obtain ⟨F1, F2, F3, F4, F5⟩ := order_facts a b c
  have H3 := Lib.hid F3
  have H4 := Lib.hid F4
  have H5 := Lib.hid F5
  clear F3 F4 F5
  cases kab : covers a b with
  | true =>
    cases kba : covers b a with
    | true =>
      have e := H3.out kab kba
      subst e
      have gg : good a = true := F1.symm.trans kab
      clear F1 F2 kba
      cases kbc : covers a c with
      | true =>
        cases gc : goes a c with
        | true =>
          go_enter Try.func11, Try.ntmps11
          go_wp2_with (first | (go_at_call 29; refine (awake_calls _).mono ?_; rintro e w' ⟨rfl, rfl⟩) | (go_at_call 30; refine (good_calls _ _).mono ?_; rintro e w' ⟨rfl, rfl⟩) | (go_at_call 32; refine (goes_calls _ _ _).mono ?_; rintro e w' ⟨rfl, rfl⟩) | (go_at_call 34; refine (covers_calls _ _ _).mono ?_; rintro e w' ⟨rfl, rfl⟩) | (go_at_call 36; refine (join_calls _ _ _).mono ?_; rintro e w' ⟨rfl, rfl⟩))
          go_ret
          exact ⟨rfl, rfl⟩
        | false =>
          go_enter Try.func11, Try.ntmps11
          go_wp2_with (first | (go_at_call 29; refine (awake_calls _).mono ?_; rintro e w' ⟨rfl, rfl⟩) | (go_at_call 30; refine (good_calls _ _).mono ?_; rintro e w' ⟨rfl, rfl⟩) | (go_at_call 32; refine (goes_calls _ _ _).mono ?_; rintro e w' ⟨rfl, rfl⟩) | (go_at_call 34; refine (covers_calls _ _ _).mono ?_; rintro e w' ⟨rfl, rfl⟩) | (go_at_call 36; refine (join_calls _ _ _).mono ?_; rintro e w' ⟨rfl, rfl⟩))
          go_ret
          exact ⟨rfl, rfl⟩
      | false =>
        cases gc : goes a c with
        | true =>
          go_enter Try.func11, Try.ntmps11
          go_wp2_with (first | (go_at_call 29; refine (awake_calls _).mono ?_; rintro e w' ⟨rfl, rfl⟩) | (go_at_call 30; refine (good_calls _ _).mono ?_; rintro e w' ⟨rfl, rfl⟩) | (go_at_call 32; refine (goes_calls _ _ _).mono ?_; rintro e w' ⟨rfl, rfl⟩) | (go_at_call 34; refine (covers_calls _ _ _).mono ?_; rintro e w' ⟨rfl, rfl⟩) | (go_at_call 36; refine (join_calls _ _ _).mono ?_; rintro e w' ⟨rfl, rfl⟩))
          go_ret
          exact ⟨rfl, rfl⟩
        | false =>
          go_enter Try.func11, Try.ntmps11
          go_wp2_with (first | (go_at_call 29; refine (awake_calls _).mono ?_; rintro e w' ⟨rfl, rfl⟩) | (go_at_call 30; refine (good_calls _ _).mono ?_; rintro e w' ⟨rfl, rfl⟩) | (go_at_call 32; refine (goes_calls _ _ _).mono ?_; rintro e w' ⟨rfl, rfl⟩) | (go_at_call 34; refine (covers_calls _ _ _).mono ?_; rintro e w' ⟨rfl, rfl⟩) | (go_at_call 36; refine (join_calls _ _ _).mono ?_; rintro e w' ⟨rfl, rfl⟩))
          go_ret
          exact ⟨rfl, rfl⟩
    | false =>
      cases kbc : covers b c with
      | true =>
        have kac := H4.out kab kbc
        cases gc : goes a c with
        | true =>
          have gb := H5.out kab gc
          go_enter Try.func11, Try.ntmps11
          go_wp2_with (first | (go_at_call 29; refine (awake_calls _).mono ?_; rintro e w' ⟨rfl, rfl⟩) | (go_at_call 30; refine (good_calls _ _).mono ?_; rintro e w' ⟨rfl, rfl⟩) | (go_at_call 32; refine (goes_calls _ _ _).mono ?_; rintro e w' ⟨rfl, rfl⟩) | (go_at_call 34; refine (covers_calls _ _ _).mono ?_; rintro e w' ⟨rfl, rfl⟩) | (go_at_call 36; refine (join_calls _ _ _).mono ?_; rintro e w' ⟨rfl, rfl⟩))
          go_ret
          exact ⟨rfl, rfl⟩
        | false =>
          go_enter Try.func11, Try.ntmps11
          go_wp2_with (first | (go_at_call 29; refine (awake_calls _).mono ?_; rintro e w' ⟨rfl, rfl⟩) | (go_at_call 30; refine (good_calls _ _).mono ?_; rintro e w' ⟨rfl, rfl⟩) | (go_at_call 32; refine (goes_calls _ _ _).mono ?_; rintro e w' ⟨rfl, rfl⟩) | (go_at_call 34; refine (covers_calls _ _ _).mono ?_; rintro e w' ⟨rfl, rfl⟩) | (go_at_call 36; refine (join_calls _ _ _).mono ?_; rintro e w' ⟨rfl, rfl⟩))
          go_ret
          exact ⟨rfl, rfl⟩
      | false =>
        cases gc : goes a c with
        | true =>
          have gb := H5.out kab gc
          go_enter Try.func11, Try.ntmps11
          go_wp2_with (first | (go_at_call 29; refine (awake_calls _).mono ?_; rintro e w' ⟨rfl, rfl⟩) | (go_at_call 30; refine (good_calls _ _).mono ?_; rintro e w' ⟨rfl, rfl⟩) | (go_at_call 32; refine (goes_calls _ _ _).mono ?_; rintro e w' ⟨rfl, rfl⟩) | (go_at_call 34; refine (covers_calls _ _ _).mono ?_; rintro e w' ⟨rfl, rfl⟩) | (go_at_call 36; refine (join_calls _ _ _).mono ?_; rintro e w' ⟨rfl, rfl⟩))
          go_ret
          exact ⟨rfl, rfl⟩
        | false =>
          go_enter Try.func11, Try.ntmps11
          go_wp2_with (first | (go_at_call 29; refine (awake_calls _).mono ?_; rintro e w' ⟨rfl, rfl⟩) | (go_at_call 30; refine (good_calls _ _).mono ?_; rintro e w' ⟨rfl, rfl⟩) | (go_at_call 32; refine (goes_calls _ _ _).mono ?_; rintro e w' ⟨rfl, rfl⟩) | (go_at_call 34; refine (covers_calls _ _ _).mono ?_; rintro e w' ⟨rfl, rfl⟩) | (go_at_call 36; refine (join_calls _ _ _).mono ?_; rintro e w' ⟨rfl, rfl⟩))
          go_ret
          exact ⟨rfl, rfl⟩
  | false =>
    go_enter Try.func11, Try.ntmps11
    go_wp2_with (first | (go_at_call 29; refine (awake_calls _).mono ?_; rintro e w' ⟨rfl, rfl⟩) | (go_at_call 30; refine (good_calls _ _).mono ?_; rintro e w' ⟨rfl, rfl⟩) | (go_at_call 32; refine (goes_calls _ _ _).mono ?_; rintro e w' ⟨rfl, rfl⟩) | (go_at_call 34; refine (covers_calls _ _ _).mono ?_; rintro e w' ⟨rfl, rfl⟩) | (go_at_call 36; refine (join_calls _ _ _).mono ?_; rintro e w' ⟨rfl, rfl⟩))
    go_ret
    exact ⟨rfl, rfl⟩

theorem joins_row (a b c : Int) (w : World) (_ : (Lit.int .i64 a).wf = true) (_ : (Lit.int .i64 b).wf = true) (_ : (Lit.int .i64 c).wf = true) :
    Calls Try.prog 10 #[.int .i64 a, .int .i64 b, .int .i64 c] w fun e w' => e = .returned (.bool true) ∧ Below w.heap.size w w' :=
  (joinslaw_calls a b c w).mono fun e w' ⟨h, h'⟩ => ⟨h, h' ▸ Below.refl _ _⟩
theorem order_row (a b c : Int) (w : World) (_ : (Lit.int .i64 a).wf = true) (_ : (Lit.int .i64 b).wf = true) (_ : (Lit.int .i64 c).wf = true) :
    Calls Try.prog 11 #[.int .i64 a, .int .i64 b, .int .i64 c] w fun e w' => e = .returned (.bool true) ∧ Below w.heap.size w w' :=
  (orderlaw_calls a b c w).mono fun e w' ⟨h, h'⟩ => ⟨h, h' ▸ Below.refl _ _⟩
end Go.Proofs.Ytlcjiofdbalplaa.Mode
