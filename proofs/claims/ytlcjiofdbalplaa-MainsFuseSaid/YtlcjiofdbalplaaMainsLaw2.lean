/- The laws of power: the walks of MainsFuse and MainsTwice. -/
import Derived.Test.YtlcjiofdbalplaaMainsLaw
import Derived.Test.YtlcjiofdbalplaaApp
namespace Go.Proofs.Ytlcjiofdbalplaa.Mains
open Go.RowKit Go.Proofs.Ytlcjiofdbalplaa.Mem
set_option linter.unusedSimpArgs false
set_option linter.unusedVariables false

set_option maxHeartbeats 1600000 in
theorem fuselaw_calls (n more : Int) (w : World) (hn : (Lit.int .i64 n).wf = true) (hmo : (Lit.int .i64 more).wf = true) :
    Calls Try.prog 7 #[.int .i64 n, .int .i64 more] w fun e w' => e = .returned (.bool true) ∧ Below w.heap.size w w' := by
  clear hn hmo
  obtain ⟨k, hk, hkl⟩ := idx_mod n 100 (by omega) (by omega)
  obtain ⟨l, hl, hll⟩ := idx_mod more 10 (by omega) (by omega)
  have HK := Lib.hid hk
  clear hk
  go_enter Try.func7, Try.ntmps7
  go_wp2_with fail
  refine (awake_calls _).mono ?_
  rintro e w1 ⟨rfl, hb⟩
  go_wp2_with fail
  refine (new_calls _).mono ?_
  rintro e w2 ⟨rfl, rfl⟩
  have hr : Row (w1.alloc (.cells M.fresh.cells.toArray 53)) w1.heap.size 53 (⟨true, -1, 1⟩ : M).cells := Row.new _ _ _
  have hB : w.heap.size ≤ w1.heap.size := hb.size
  replace hb : Below w.heap.size w (w1.alloc (.cells M.fresh.cells.toArray 53)) := hb.alloc hb.size _
  generalize w1.alloc (.cells M.fresh.cells.toArray 53) = w2 at hr hb ⊢
  generalize w1.heap.size = B at hr hB ⊢
  go_wp2_with fail
  rw [HK.out]
  refine (fuse_calls B ⟨true, -1, 1⟩ k _ hr).mono ?_
  rintro e w3 ⟨rfl, hr3, hc⟩
  have hfu : M.fused ⟨true, -1, 1⟩ (k : Int) = ⟨true, k, 1⟩ := by simp [M.fused]
  rw [hfu] at hr3
  replace hb := below_one hb hc (Nat.le_refl _) hB
  clear hc hr hfu
  go_wp2_with fail
  go_loopw [7] (fun i wr => ∃ j : Nat, j ≤ k ∧ i = .int .i64 j ∧ Row wr B 53 (⟨true, ((k - j : Nat) : Int), 1⟩ : M).cells ∧ Below w.heap.size w wr) (fun i _ => k - (intOf i).toNat)
  case atStart => exact ⟨0, by omega, rfl, hr3, hb⟩
  case round =>
    clear hr3 hb
    obtain ⟨j, hj, rfl, hr, hb⟩ := hrel
    by_cases hlt : j < k
    · have hfo : -1 ≤ (⟨true, ((k - j : Nat) : Int), 1⟩ : M).fuse ∧ (⟨true, ((k - j : Nat) : Int), 1⟩ : M).fuse ≤ 9223372036854775807 := by simp only; omega
      have hus : Hid ((⟨true, ((k - j : Nat) : Int), 1⟩ : M).used = ⟨true, ((k - (j + 1) : Nat) : Int), 1⟩) := by
        show _ = _
        simp only [M.used]
        rw [if_neg (by omega), if_pos ⟨trivial, by omega⟩]
        congr 1
        omega
      have her : Hid ((⟨true, ((k - j : Nat) : Int), 1⟩ : M).errUse = 0) := by
        show _ = _
        simp only [M.errUse]
        rw [if_neg (by omega)]
        rfl
      go_wp2_with fail
      refine (use_calls B ⟨true, ((k - j : Nat) : Int), 1⟩ _ hr hfo).mono ?_
      rintro e w5 ⟨rfl, hr5, hc⟩
      rw [hus.out] at hr5
      rw [her.out]
      replace hb := below_one hb hc (Nat.le_refl _) hB
      clear hc hr
      go_wp2_with fail
      refine (ison_calls B ⟨true, ((k - (j + 1) : Nat) : Int), 1⟩ _ hr5).mono ?_
      rintro e w6 ⟨rfl, rfl⟩
      go_wp2
      go_roundw
      case rel => exact ⟨j + 1, by omega, by go_num, hr5, hb⟩
      case measure => simp [intOf]; omega
    · obtain rfl : j = k := by omega
      rw [Nat.sub_self] at hr
      go_wp2
      go_loopw [8] (fun i wr => ∃ q : Nat, q ≤ 1 + l ∧ i = .int .i64 q ∧ (∃ on : Bool, (q = 0 ∨ on = false) ∧ Row wr B 53 (⟨on, 0, 1⟩ : M).cells) ∧ Below w.heap.size w wr) (fun i _ => 1 + l - (intOf i).toNat)
      case atStart => exact ⟨0, by omega, rfl, ⟨true, .inl rfl, hr⟩, hb⟩
      case round =>
        clear hr hb
        obtain ⟨q, hq, rfl, ⟨on, hon, hr⟩, hb⟩ := hrel
        by_cases hlt : q < 1 + l
        · go_wp2_with fail
          refine (use_calls B ⟨on, 0, 1⟩ _ hr ⟨(by decide : (-1 : Int) ≤ 0), (by decide : (0 : Int) ≤ 9223372036854775807)⟩).mono ?_
          rintro e w5 ⟨rfl, hr5, hc⟩
          replace hb := below_one hb hc (Nat.le_refl _) hB
          clear hc hr
          go_wp2_with fail
          refine (ison_calls B ⟨false, 0, 1⟩ _ hr5).mono ?_
          rintro e w6 ⟨rfl, rfl⟩
          go_wp2
          go_roundw
          case rel => exact ⟨q + 1, by omega, by go_num, ⟨false, .inr rfl, hr5⟩, hb⟩
          case measure => simp [intOf]; omega
        · obtain rfl : q = 1 + l := by omega
          have hof : on = false := by rcases hon with h | h; omega; exact h
          rw [hof] at hr
          clear hof hon
          go_wp2_with fail
          refine (on_calls B ⟨false, 0, 1⟩ _ hr (by decide)).mono ?_
          rintro e w5 ⟨rfl, hr5, hc⟩
          replace hb := below_one hb hc (Nat.le_refl _) hB
          clear hc hr
          go_wp2_with fail
          go_loopw [9] (fun i wr => ∃ p : Nat, p ≤ 2 * j + 2 ∧ i = .int .i64 p ∧ Row wr B 53 (⟨true, -1, 2⟩ : M).cells ∧ Below w.heap.size w wr) (fun i _ => 2 * j + 2 - (intOf i).toNat)
          case atStart => exact ⟨0, by omega, rfl, hr5, hb⟩
          case round =>
            clear hr5 hb
            obtain ⟨p, hp, rfl, hr, hb⟩ := hrel
            by_cases hlp : p < 2 * j + 2
            · go_wp2_with fail
              refine (use_calls B ⟨true, -1, 2⟩ _ hr (by decide)).mono ?_
              rintro e w5 ⟨rfl, hr5, hc⟩
              replace hb := below_one hb hc (Nat.le_refl _) hB
              clear hc hr
              go_wp2
              go_roundw
              case rel => exact ⟨p + 1, by omega, by go_num, hr5, hb⟩
              case measure => simp [intOf]; omega
            · obtain rfl : p = 2 * j + 2 := by omega
              go_wp2_with fail
              refine (fuse_nil _ _).mono ?_
              rintro e w6 ⟨rfl, rfl⟩
              go_wp2_with fail
              refine (on_nil _).mono ?_
              rintro e w6 ⟨rfl, rfl⟩
              go_wp2_with fail
              refine (off_nil _).mono ?_
              rintro e w6 ⟨rfl, rfl⟩
              go_wp2_with fail
              refine (boots_calls B ⟨true, -1, 2⟩ _ hr).mono ?_
              rintro e w6 ⟨rfl, rfl⟩
              go_wp2_with fail
              refine (use_nil _).mono ?_
              rintro e w6 ⟨rfl, rfl⟩
              go_wp2_with fail
              refine (ison_nil _).mono ?_
              rintro e w6 ⟨rfl, rfl⟩
              go_wp2_with fail
              refine (boots_nil _).mono ?_
              rintro e w6 ⟨rfl, rfl⟩
              go_wp2
              go_ret
              exact ⟨rfl, hb⟩

set_option maxHeartbeats 1600000 in
theorem twice_false (n : Int) (w : World) (hn : (Lit.int .i64 n).wf = true) :
    Calls Try.prog 8 #[.int .i64 n, .bool false] w fun e w' => e = .returned (.bool true) ∧ Below w.heap.size w w' := by
  clear hn
  obtain ⟨k, hk, hkl⟩ := idx_mod n 50 (by omega) (by omega)
  go_enter Try.func8, Try.ntmps8
  go_wp2_with fail
  refine (awake_calls _).mono ?_
  rintro e w1 ⟨rfl, hb⟩
  go_wp2_with fail
  refine (new_calls _).mono ?_
  rintro e w2 ⟨rfl, rfl⟩
  have hr : Row (w1.alloc (.cells M.fresh.cells.toArray 53)) w1.heap.size 53 (⟨true, -1, 1⟩ : M).cells := Row.new _ _ _
  have hB : w.heap.size ≤ w1.heap.size := hb.size
  replace hb : Below w.heap.size w (w1.alloc (.cells M.fresh.cells.toArray 53)) := hb.alloc hb.size _
  generalize w1.alloc (.cells M.fresh.cells.toArray 53) = w2 at hr hb ⊢
  generalize w1.heap.size = B at hr hB ⊢
  go_wp2_with fail
  rw [hk]
  go_loopw [7] (fun i wr => ∃ j : Nat, j ≤ k ∧ i = .int .i64 j ∧ Row wr B 53 (⟨true, -1, (j : Int) + 1⟩ : M).cells ∧ Below w.heap.size w wr) (fun i _ => k - (intOf i).toNat)
  case atStart => exact ⟨0, by omega, rfl, hr, hb⟩
  case round =>
    clear hr hb
    obtain ⟨j, hj, rfl, hr, hb⟩ := hrel
    by_cases hlt : j < k
    · have hon : Hid ((⟨false, -1, (j : Int) + 1⟩ : M).oned = ⟨true, -1, (j : Int) + 1 + 1⟩) := rfl
      have hon2 : Hid ((⟨true, -1, (j : Int) + 1 + 1⟩ : M).oned = ⟨true, -1, (j : Int) + 1 + 1⟩) := rfl
      have hne : ((j : Int) + 1 + 1 != (j : Int) + 2) = false := by rw [bne_eq_false_iff_eq]; omega
      have hfz : -1 ≤ (⟨false, -1, (j : Int) + 1⟩ : M).fuse ∧ (⟨false, -1, (j : Int) + 1⟩ : M).fuse ≤ 9223372036854775807 := ⟨Int.le_refl _, by show (-1 : Int) ≤ _; omega⟩
      go_wp2_with fail
      refine (off_calls B ⟨true, -1, (j : Int) + 1⟩ _ hr).mono ?_
      rintro e w5 ⟨rfl, hr5, hc⟩
      replace hb := below_one hb hc (Nat.le_refl _) hB
      clear hc hr
      go_wp2_with fail
      refine (ison_calls B ⟨false, -1, (j : Int) + 1⟩ _ hr5).mono ?_
      rintro e w6 ⟨rfl, rfl⟩
      go_wp2_with fail
      refine (use_calls B ⟨false, -1, (j : Int) + 1⟩ _ hr5 hfz).mono ?_
      rintro e w7 ⟨rfl, hr7, hc⟩
      replace hb := below_one hb hc (Nat.le_refl _) hB
      clear hc hr5
      go_wp2_with fail
      refine (on_calls B ⟨false, -1, (j : Int) + 1⟩ _ hr7 ⟨by simp only; omega, by simp only; omega⟩).mono ?_
      rintro e w8 ⟨rfl, hr8, hc⟩
      replace hb := below_one hb hc (Nat.le_refl _) hB
      rw [hon.out] at hr8
      clear hc hr7
      go_wp2_with fail
      refine (on_calls B ⟨true, -1, (j : Int) + 1 + 1⟩ _ hr8 ⟨by simp only; omega, by simp only; omega⟩).mono ?_
      rintro e w9 ⟨rfl, hr9, hc⟩
      replace hb := below_one hb hc (Nat.le_refl _) hB
      rw [hon2.out] at hr9
      clear hc hr8
      go_wp2_with fail
      refine (ison_calls B ⟨true, -1, (j : Int) + 1 + 1⟩ _ hr9).mono ?_
      rintro e w10 ⟨rfl, rfl⟩
      go_wp2_with fail
      refine (boots_calls B ⟨true, -1, (j : Int) + 1 + 1⟩ _ hr9).mono ?_
      rintro e w10 ⟨rfl, rfl⟩
      go_wp2
      go_roundw
      case rel => exact ⟨j + 1, by omega, by go_num, hr9, hb⟩
      case measure => simp [intOf]; omega
    · obtain rfl : j = k := by omega
      go_wp2_with fail
      refine (use_calls B ⟨true, -1, (j : Int) + 1⟩ _ hr ⟨Int.le_refl _, by show (-1 : Int) ≤ _; omega⟩).mono ?_
      rintro e w5 ⟨rfl, hr5, hc⟩
      replace hb := below_one hb hc (Nat.le_refl _) hB
      go_wp2
      go_ret
      exact ⟨rfl, hb⟩
set_option maxHeartbeats 1600000 in
theorem twice_true (n : Int) (w : World) (hn : (Lit.int .i64 n).wf = true) :
    Calls Try.prog 8 #[.int .i64 n, .bool true] w fun e w' => e = .returned (.bool true) ∧ Below w.heap.size w w' := by
  clear hn
  obtain ⟨k, hk, hkl⟩ := idx_mod n 50 (by omega) (by omega)
  go_enter Try.func8, Try.ntmps8
  go_wp2_with fail
  refine (awake_calls _).mono ?_
  rintro e w1 ⟨rfl, hb⟩
  go_wp2_with fail
  refine (new_calls _).mono ?_
  rintro e w2 ⟨rfl, rfl⟩
  have hr : Row (w1.alloc (.cells M.fresh.cells.toArray 53)) w1.heap.size 53 (⟨true, -1, 1⟩ : M).cells := Row.new _ _ _
  have hB : w.heap.size ≤ w1.heap.size := hb.size
  replace hb : Below w.heap.size w (w1.alloc (.cells M.fresh.cells.toArray 53)) := hb.alloc hb.size _
  generalize w1.alloc (.cells M.fresh.cells.toArray 53) = w2 at hr hb ⊢
  generalize w1.heap.size = B at hr hB ⊢
  go_wp2_with fail
  rw [hk]
  go_loopw [7] (fun i wr => ∃ j : Nat, j ≤ k ∧ i = .int .i64 j ∧ Row wr B 53 (⟨true, -1, (j : Int) + 1⟩ : M).cells ∧ Below w.heap.size w wr) (fun i _ => k - (intOf i).toNat)
  case atStart => exact ⟨0, by omega, rfl, hr, hb⟩
  case round =>
    clear hr hb
    obtain ⟨j, hj, rfl, hr, hb⟩ := hrel
    by_cases hlt : j < k
    · have hon : Hid ((⟨false, -1, (j : Int) + 1⟩ : M).oned = ⟨true, -1, (j : Int) + 1 + 1⟩) := rfl
      have hon2 : Hid ((⟨true, -1, (j : Int) + 1 + 1⟩ : M).oned = ⟨true, -1, (j : Int) + 1 + 1⟩) := rfl
      have hne : ((j : Int) + 1 + 1 != (j : Int) + 2) = false := by rw [bne_eq_false_iff_eq]; omega
      have hfz : -1 ≤ (⟨false, -1, (j : Int) + 1⟩ : M).fuse ∧ (⟨false, -1, (j : Int) + 1⟩ : M).fuse ≤ 9223372036854775807 := ⟨Int.le_refl _, by show (-1 : Int) ≤ _; omega⟩
      go_wp2_with fail
      refine (off_calls B ⟨true, -1, (j : Int) + 1⟩ _ hr).mono ?_
      rintro e w5 ⟨rfl, hr5, hc⟩
      replace hb := below_one hb hc (Nat.le_refl _) hB
      clear hc hr
      go_wp2_with fail
      refine (off_calls B ⟨false, -1, (j : Int) + 1⟩ _ hr5).mono ?_
      rintro e w5' ⟨rfl, hr5', hc⟩
      replace hb := below_one hb hc (Nat.le_refl _) hB
      clear hc hr5
      have hr5 := hr5'
      clear hr5'
      go_wp2_with fail
      refine (ison_calls B ⟨false, -1, (j : Int) + 1⟩ _ hr5).mono ?_
      rintro e w6 ⟨rfl, rfl⟩
      go_wp2_with fail
      refine (use_calls B ⟨false, -1, (j : Int) + 1⟩ _ hr5 hfz).mono ?_
      rintro e w7 ⟨rfl, hr7, hc⟩
      replace hb := below_one hb hc (Nat.le_refl _) hB
      clear hc hr5
      go_wp2_with fail
      refine (on_calls B ⟨false, -1, (j : Int) + 1⟩ _ hr7 ⟨by simp only; omega, by simp only; omega⟩).mono ?_
      rintro e w8 ⟨rfl, hr8, hc⟩
      replace hb := below_one hb hc (Nat.le_refl _) hB
      rw [hon.out] at hr8
      clear hc hr7
      go_wp2_with fail
      refine (on_calls B ⟨true, -1, (j : Int) + 1 + 1⟩ _ hr8 ⟨by simp only; omega, by simp only; omega⟩).mono ?_
      rintro e w9 ⟨rfl, hr9, hc⟩
      replace hb := below_one hb hc (Nat.le_refl _) hB
      rw [hon2.out] at hr9
      clear hc hr8
      go_wp2_with fail
      refine (ison_calls B ⟨true, -1, (j : Int) + 1 + 1⟩ _ hr9).mono ?_
      rintro e w10 ⟨rfl, rfl⟩
      go_wp2_with fail
      refine (boots_calls B ⟨true, -1, (j : Int) + 1 + 1⟩ _ hr9).mono ?_
      rintro e w10 ⟨rfl, rfl⟩
      go_wp2
      go_roundw
      case rel => exact ⟨j + 1, by omega, by go_num, hr9, hb⟩
      case measure => simp [intOf]; omega
    · obtain rfl : j = k := by omega
      go_wp2_with fail
      refine (use_calls B ⟨true, -1, (j : Int) + 1⟩ _ hr ⟨Int.le_refl _, by show (-1 : Int) ≤ _; omega⟩).mono ?_
      rintro e w5 ⟨rfl, hr5, hc⟩
      replace hb := below_one hb hc (Nat.le_refl _) hB
      go_wp2
      go_ret
      exact ⟨rfl, hb⟩
theorem twice_calls (n : Int) (off : Bool) (w : World) (hn : (Lit.int .i64 n).wf = true) :
    Calls Try.prog 8 #[.int .i64 n, .bool off] w fun e w' => e = .returned (.bool true) ∧ Below w.heap.size w w' := by
  cases off
  · exact twice_false n w hn
  · exact twice_true n w hn
end Go.Proofs.Ytlcjiofdbalplaa.Mains
