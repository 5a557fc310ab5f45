/- The laws of reel: the walks. -/
import Derived.Test.YthfpliiknifgdaaReel
import Derived.Test.YthfpliiknifgdaaCod
import Derived.LoopTactic
namespace Go.Proofs.Ythfpliiknifgdaa.Reel
open Go.RowKit Go.Proofs.Ythfpliiknifgdaa.Mem Go.Proofs.Ythfpliiknifgdaa.Bytes Go.Proofs.Ythfpliiknifgdaa.Mains
set_option linter.unusedSimpArgs false
set_option linter.unusedVariables false

set_option maxHeartbeats 400000 in
theorem append_nil (s : ByteArray) (w : World) : Calls Try.prog 12 #[.pointer none, .string s] w fun e w' => e = .returned (.int .i64 2) ∧ w' = w := by
  go_enter Try.func12, Try.ntmps12
  go_wp2
  go_ret
  exact ⟨rfl, rfl⟩
set_option maxHeartbeats 400000 in
theorem sync_nil (w : World) : Calls Try.prog 16 #[.pointer none] w fun e w' => e = .returned (.int .i64 2) ∧ w' = w := by
  go_enter Try.func16, Try.ntmps16
  go_wp2
  go_ret
  exact ⟨rfl, rfl⟩
set_option maxHeartbeats 400000 in
theorem trim_nil (n : Int) (w : World) : Calls Try.prog 18 #[.pointer none, .int .i64 n] w fun e w' => e = .returned (.int .i64 2) ∧ w' = w := by
  go_enter Try.func18, Try.ntmps18
  go_wp2
  go_ret
  exact ⟨rfl, rfl⟩
set_option maxHeartbeats 400000 in
theorem settle_nil (n : Int) (w : World) : Calls Try.prog 19 #[.pointer none, .int .i64 n] w fun e w' => e = .returned (.int .i64 2) ∧ w' = w := by
  go_enter Try.func19, Try.ntmps19
  go_wp2
  go_ret
  exact ⟨rfl, rfl⟩
set_option maxHeartbeats 400000 in
theorem read_nil (w : World) : Calls Try.prog 13 #[.pointer none] w fun e w' => e = .returned (.tuple #[.string ⟨#[]⟩, .int .i64 2]) ∧ w' = w := by
  go_enter Try.func13, Try.ntmps13
  go_wp2
  go_ret2
  exact ⟨rfl, rfl⟩
set_option maxHeartbeats 400000 in
theorem len_nil (w : World) : Calls Try.prog 21 #[.pointer none] w fun e w' => e = .returned (.int .i64 0) ∧ w' = w := by
  go_enter Try.func21, Try.ntmps21
  go_wp2
  go_ret
  exact ⟨rfl, rfl⟩
set_option maxHeartbeats 400000 in
theorem safe_nil (w : World) : Calls Try.prog 15 #[.pointer none] w fun e w' => e = .returned (.int .i64 0) ∧ w' = w := by
  go_enter Try.func15, Try.ntmps15
  go_wp2
  go_ret
  exact ⟨rfl, rfl⟩
set_option maxHeartbeats 400000 in
theorem left_nil (w : World) : Calls Try.prog 14 #[.pointer none] w fun e w' => e = .returned (.int .i64 0) ∧ w' = w := by
  go_enter Try.func14, Try.ntmps14
  go_wp2
  go_ret
  exact ⟨rfl, rfl⟩

/-- What a reel's deeds change lies above w, if its two blocks do. -/
theorem below_own {w w1 w2 : World} {F : Nat → Prop} {B b : Nat} (h : Below w.heap.size w w1) (k : Chg (Own F B b) w1 w2) (h1 : w.heap.size ≤ B) (h2 : w.heap.size ≤ b) (h3 : ∀ k, F k → w.heap.size ≤ k) : Below w.heap.size w w2 :=
  below_chg h k (Nat.le_refl _) (fun x hx => by rcases hx with rfl | rfl | hx <;> first | omega | exact h3 _ hx)
/-- The blocks from one on. -/
abbrev From (base : Nat) (k : Nat) : Prop := base ≤ k

set_option maxHeartbeats 1600000 in
theorem awake_calls (w : World) : Calls Try.prog 9 #[] w fun e w' => e = .returned (.bool true) ∧ Below w.heap.size w w' := by
  go_enter Try.func9, Try.ntmps9
  go_wp2_with fail
  refine (Mains.new_calls _).mono ?_
  rintro e w1 ⟨rfl, rfl⟩
  have hm : Row (w.alloc (.cells M.fresh.cells.toArray 75)) w.heap.size 75 M.fresh.cells := Row.new _ _ _
  have hb : Below w.heap.size w (w.alloc (.cells M.fresh.cells.toArray 75)) := (Below.refl _ _).alloc (Nat.le_refl _) _
  have hs : (w.alloc (.cells M.fresh.cells.toArray 75)).heap.size = w.heap.size + 1 := by simp
  generalize w.alloc (.cells M.fresh.cells.toArray 75) = w1 at hm hb hs ⊢
  go_wp2_with fail
  refine (Reel.new_calls w.heap.size 10 w1 (by omega)).mono ?_
  rintro e w2 ⟨rfl, hf, hb2, hs2⟩
  rw [hs] at hf hb2 hs2 ⊢
  have hr : Is w2 (From (w.heap.size + 2)) w.heap.size (w.heap.size + 1) ⟨[], 0, 10⟩ := hf.is (fun x => by have : w.heap.size + 2 ≤ w.heap.size := x; omega) (fun x => by have : w.heap.size + 2 ≤ w.heap.size + 1 := x; omega) (fun k hk => show w.heap.size + 2 ≤ k by omega)
  replace hm := hm.below hb2 (by omega)
  replace hb := hb.trans (hb2.mono (by omega))
  clear hf hb2 hs2 hs
  have hB : w.heap.size ≤ w.heap.size := Nat.le_refl _
  have hbb : w.heap.size ≤ w.heap.size + 1 := by omega
  have hBl : ∀ k, From (w.heap.size + 2) k → w.heap.size ≤ k := fun k hk => by have : w.heap.size + 2 ≤ k := hk; omega
  go_wp2_with fail
  refine (append_calls _ _ _ ⟨true, -1, 1⟩ ⟨[], 0, 10⟩ ⟨#[97, 98, 99]⟩ _ hr hm (by decide)).mono ?_
  rintro e w3 ⟨rfl, hr3, hm3, hc⟩
  rw [show appErr ⟨true, -1, 1⟩ ⟨[], 0, 10⟩ ⟨#[97, 98, 99]⟩ = 0 from rfl]
  replace hb := below_own hb hc hB hbb hBl
  replace hr : Is w3 (From (w.heap.size + 2)) w.heap.size (w.heap.size + 1) ⟨[97, 98, 99], 0, 10⟩ := hr3
  replace hm : Row w3 w.heap.size 75 (⟨true, -1, 1⟩ : M).cells := hm3
  clear hc hr3 hm3
  go_wp2_with fail
  refine (sync_calls _ _ _ ⟨true, -1, 1⟩ ⟨[97, 98, 99], 0, 10⟩ _ hr hm (by decide)).mono ?_
  rintro e w3 ⟨rfl, hr3, hm3, hc⟩
  rw [show M.errUse ⟨true, -1, 1⟩ = 0 from rfl]
  replace hb := below_own hb hc hB hbb hBl
  replace hr : Is w3 (From (w.heap.size + 2)) w.heap.size (w.heap.size + 1) ⟨[97, 98, 99], 3, 10⟩ := hr3
  replace hm : Row w3 w.heap.size 75 (⟨true, -1, 1⟩ : M).cells := hm3
  clear hc hr3 hm3
  go_wp2_with fail
  refine (append_calls _ _ _ ⟨true, -1, 1⟩ ⟨[97, 98, 99], 3, 10⟩ ⟨#[100, 101]⟩ _ hr hm (by decide)).mono ?_
  rintro e w3 ⟨rfl, hr3, hm3, hc⟩
  rw [show appErr ⟨true, -1, 1⟩ ⟨[97, 98, 99], 3, 10⟩ ⟨#[100, 101]⟩ = 0 from rfl]
  replace hb := below_own hb hc hB hbb hBl
  replace hr : Is w3 (From (w.heap.size + 2)) w.heap.size (w.heap.size + 1) ⟨[97, 98, 99, 100, 101], 3, 10⟩ := hr3
  replace hm : Row w3 w.heap.size 75 (⟨true, -1, 1⟩ : M).cells := hm3
  clear hc hr3 hm3
  go_wp2_with fail
  refine (off_calls _ ⟨true, -1, 1⟩ _ hm).mono ?_
  rintro e w3 ⟨rfl, hm3, hc⟩
  replace hb := below_one hb hc (Nat.le_refl _) hB
  replace hr := hr.mains hc
  replace hm : Row w3 w.heap.size 75 (⟨false, -1, 1⟩ : M).cells := hm3
  clear hc hm3
  go_wp2_with fail
  refine (settle_calls _ _ _ ⟨false, -1, 1⟩ ⟨[97, 98, 99, 100, 101], 3, 10⟩ 1 _ hr hm).mono ?_
  rintro e w3 ⟨rfl, hr3, hm3, hc⟩
  rw [show settleErr ⟨false, -1, 1⟩ = 0 from rfl]
  replace hb := below_own hb hc hB hbb hBl
  replace hr : Is w3 (From (w.heap.size + 2)) w.heap.size (w.heap.size + 1) ⟨[97, 98, 99, 100], 4, 10⟩ := hr3
  replace hm : Row w3 w.heap.size 75 (⟨false, -1, 1⟩ : M).cells := hm3
  clear hc hr3 hm3
  go_wp2_with fail
  refine (on_calls _ ⟨false, -1, 1⟩ _ hm (by decide)).mono ?_
  rintro e w3 ⟨rfl, hm3, hc⟩
  replace hb := below_one hb hc (Nat.le_refl _) hB
  replace hr := hr.mains hc
  replace hm : Row w3 w.heap.size 75 (⟨true, -1, 2⟩ : M).cells := hm3
  clear hc hm3
  go_wp2_with fail
  refine (read_calls _ _ _ ⟨true, -1, 2⟩ ⟨[97, 98, 99, 100], 4, 10⟩ _ hr hm).mono ?_
  rintro e w4 ⟨rfl, rfl⟩
  rw [show readS ⟨true, -1, 2⟩ ⟨[97, 98, 99, 100], 4, 10⟩ = ⟨#[97, 98, 99, 100]⟩ from rfl, show readE ⟨true, -1, 2⟩ = 0 from rfl]
  go_wp2_with fail
  refine (left_calls _ _ _ ⟨[97, 98, 99, 100], 4, 10⟩ _ hr).mono ?_
  rintro e w5 ⟨rfl, nd, rfl⟩
  replace hr := hr.drewN nd
  replace hb := below_drewN hb nd
  go_wp2_with fail
  refine (safe_calls _ _ _ ⟨[97, 98, 99, 100], 4, 10⟩ _ hr).mono ?_
  rintro e w6 ⟨rfl, rfl⟩
  go_wp2
  go_ret
  exact ⟨rfl, hb⟩

/-- Power that nobody fused. -/
theorem appErr_on (r : R) (s : ByteArray) : appErr M.fresh r s = if r.full s then 5 else 0 := by simp [appErr, M.errUse, M.fresh]
theorem appM_on (r : R) (s : ByteArray) : appM M.fresh r s = M.fresh := by simp [appM, M.used, M.fresh]
theorem appR_on (r : R) (s : ByteArray) : appR M.fresh r s = if r.full s then r else r.add s := by simp [appR, M.errUse, M.fresh]
theorem add_bs (r : R) (s : ByteArray) : bs (r.add s).data = bs r.data ++ s := by
  conv => rhs; rw [← bs_of s]
  rw [bs_append]
  rfl
theorem bs_len (l : List UInt8) : (bs l).size = l.length := by simp [bs, ByteArray.size]

set_option maxHeartbeats 1600000 in
set_option maxRecDepth 8000 in
theorem full_calls (n : Int) (a : Option Addr) (l c : Nat) (xs : List ByteArray) (w : World) (h : Strs w a l xs) :
    Calls Try.prog 3 #[.int .i64 n, .slice a l c] w fun e w' => e = .returned (.bool true) ∧ Below w.heap.size w w' := by
  have hl0 := h.2.1
  by_cases hl : 40 < l
  · go_enter Try.func3, Try.ntmps3
    go_wp2_with fail
    refine (awake_calls _).mono ?_
    rintro e w1 ⟨rfl, hb⟩
    go_wp2
    go_ret
    exact ⟨rfl, hb⟩
  have hl' : ¬ ((40 : Int) < (l : Int)) := by omega
  obtain ⟨k, hk, hk5⟩ := idx_mod n 500 (by decide) (by decide)
  have hk' : IntKind.i64.wrap ((IntKind.u64.wrap n).tmod 500) = (k : Int) := by rw [IntKind.wrap_i64, ← hk, wrap64]
  go_enter Try.func3, Try.ntmps3
  go_wp2_with fail
  refine (awake_calls _).mono ?_
  rintro e w1 ⟨rfl, hb⟩
  go_wp2_with fail
  refine (Mains.new_calls _).mono ?_
  rintro e w2 ⟨rfl, rfl⟩
  have hm : Row (w1.alloc (.cells M.fresh.cells.toArray 75)) w1.heap.size 75 M.fresh.cells := Row.new _ _ _
  have hB : w.heap.size ≤ w1.heap.size := hb.size
  have hB2 : w1.heap.size < (w1.alloc (.cells M.fresh.cells.toArray 75)).heap.size := by simp
  replace hb : Below w.heap.size w (w1.alloc (.cells M.fresh.cells.toArray 75)) := hb.alloc hb.size _
  generalize w1.alloc (.cells M.fresh.cells.toArray 75) = w2 at hm hb hB2 ⊢
  generalize w1.heap.size = B at hm hB hB2 ⊢
  go_wp2_with fail
  refine (Reel.new_calls B k w2 hB2).mono ?_
  rintro e w3 ⟨rfl, hf, hb2, hs2⟩
  replace hm := hm.below hb2 hB2
  have hbb : w.heap.size ≤ w2.heap.size := hb.size
  have hr := hf.is (F := From (w2.heap.size + 1)) (fun x => by have : w2.heap.size + 1 ≤ B := x; omega) (fun x => by have : w2.heap.size + 1 ≤ w2.heap.size := x; omega) (fun k hk => show w2.heap.size + 1 ≤ k by omega)
  have hkr : room (k : Int) = k := by have := room_id (n := k) (by omega) (by omega); omega
  rw [hkr] at hr
  replace hb := below_next hb hb2 (Nat.le_refl _)
  have hBl : ∀ k, From (w2.heap.size + 1) k → w.heap.size ≤ k := fun k hk => by have : w2.heap.size + 1 ≤ k := hk; omega
  clear hf hb2 hs2
  generalize From (w2.heap.size + 1) = F at hr hBl
  generalize w2.heap.size = b at *
  go_wp2_with fail
  go_loopw [7, 8] (fun s i wr => ∃ (j : Nat) (r : R), j ≤ l ∧ r.size = k ∧ r.safe = 0 ∧ s = .string (bs r.data) ∧ i = .int .i64 j ∧ Is wr F B b r ∧ Row wr B 75 M.fresh.cells ∧ Below w.heap.size w wr) (fun s i _ => l - (intOf i).toNat)
  case atStart => exact ⟨0, R.fresh k, by omega, rfl, rfl, rfl, rfl, hr, hm, hb⟩
  case round =>
    clear hr hm hb
    obtain ⟨j, r, hj, hsz, hsf, rfl, rfl, hr, hm, hb⟩ := hrel
    by_cases hlt : j < l
    · obtain ⟨ad, rfl, hx⟩ := h.at hlt hb
      have hxs : ∀ w', Below w.heap.size w w' → w'.cell? (ad.add j) = some (.string (xs.getD j ⟨#[]⟩)) := fun w' hb => h.cell hlt hb
      generalize xs.getD j ⟨#[]⟩ = x at hx hxs ⊢
      have HX := Lib.hid hxs
      clear hxs
      by_cases hbig : 100 < x.size
      · have hbig' : (100 : Int) < (x.size : Int) := by omega
        go_wp2
        go_ret
        exact ⟨rfl, hb⟩
      · have hbig' : ¬ ((100 : Int) < (x.size : Int)) := by omega
        obtain ⟨hk1, hk2, hk3⟩ := hr.2.2.2.2.1
        have hwl : IntKind.i64.wrap ((r.data.length : Int) + (x.size : Int)) = (r.data.length : Int) + (x.size : Int) := by rw [IntKind.wrap_i64]; omega
        have hbl := bs_len r.data
        by_cases hfull : r.full x = true
        · have hg : (k : Int) < (r.data.length : Int) + (x.size : Int) := by simp [R.full] at hfull; omega
          go_wp2_with fail
          refine (append_calls _ _ _ M.fresh r x _ hr hm (by decide)).mono ?_
          rintro e w5 ⟨rfl, hr5, hm5, hc⟩
          replace hb := below_own hb hc hB hbb hBl
          rw [appErr_on, if_pos hfull]
          rw [appR_on, if_pos hfull] at hr5
          rw [appM_on] at hm5
          clear hc hr hm hx
          go_wp2
          go_roundw
          case rel => exact ⟨j + 1, r, by omega, hsz, hsf, rfl, by go_num, hr5, hm5, hb⟩
          case measure => simp [intOf]; omega
        · have hg : ¬ ((k : Int) < (r.data.length : Int) + (x.size : Int)) := by simp [R.full] at hfull; omega
          go_wp2_with fail
          refine (append_calls _ _ _ M.fresh r x _ hr hm (by decide)).mono ?_
          rintro e w5 ⟨rfl, hr5, hm5, hc⟩
          replace hb := below_own hb hc hB hbb hBl
          rw [appErr_on, if_neg hfull]
          rw [appR_on, if_neg hfull] at hr5
          rw [appM_on] at hm5
          clear hc hr hm hx
          go_wp2
          go_roundw
          case rel => exact ⟨j + 1, r.add x, by omega, hsz, hsf, by rw [add_bs], by go_num, hr5, hm5, hb⟩
          case measure => simp [intOf]; omega
    · obtain rfl : j = l := by omega
      go_wp2_with fail
      refine (read_calls _ _ _ M.fresh r _ hr hm).mono ?_
      rintro e w4 ⟨rfl, rfl⟩
      rw [show readS M.fresh r = bs r.data from rfl, show readE M.fresh = 0 from rfl]
      go_wp2_with fail
      refine (left_calls _ _ _ r _ hr).mono ?_
      rintro e w5 ⟨rfl, nd, rfl⟩
      replace hr := hr.drewN nd
      replace hb := below_drewN hb nd
      obtain ⟨hk1, hk2, hk3⟩ := hr.2.2.2.2.1
      have hwl : wrap64 ((k : Int) - ((bs r.data).size : Int)) = ((r.size - r.data.length : Nat) : Int) := by rw [bs_len]; unfold wrap64; omega
      have hwl' : wrap64 ((k : Int) - ((bs r.data).size : Int)) = ((k - r.data.length : Nat) : Int) := by rw [bs_len]; unfold wrap64; omega
      go_wp2_with fail
      refine (safe_calls _ _ _ r _ hr).mono ?_
      rintro e w6 ⟨rfl, rfl⟩
      go_wp2
      go_ret
      exact ⟨rfl, hb⟩
theorem full_row (n : Int) (a : Option Addr) (l c : Nat) (xs : List ByteArray) (w : World) (hn : (Lit.int .i64 n).wf = true) (h : SlcIn Cod.str w a l c xs) :
    Calls Try.prog 3 #[.int .i64 n, .slice a l c] w fun e w' => e = .returned (.bool true) ∧ Below w.heap.size w w' :=
  full_calls n a l c xs w (strs_of h).1

set_option maxHeartbeats 1600000 in
set_option maxRecDepth 8000 in
theorem keeps_calls (a : Option Addr) (l c : Nat) (xs : List ByteArray) (n keep : Int) (w : World) (h : Strs w a l xs) :
    Calls Try.prog 4 #[.slice a l c, .int .i64 n, .int .i64 keep] w fun e w' => e = .returned (.bool true) ∧ Below w.heap.size w w' := by
  have hl0 := h.2.1
  by_cases hl : 20 < l
  · have hl' : ((20 : Int) < (l : Int)) := by omega
    go_enter Try.func4, Try.ntmps4
    go_wp2_with fail
    refine (awake_calls _).mono ?_
    rintro e w1 ⟨rfl, hb⟩
    go_wp2
    go_ret
    exact ⟨rfl, hb⟩
  have hl' : ¬ ((20 : Int) < (l : Int)) := by omega
  go_enter Try.func4, Try.ntmps4
  go_wp2_with fail
  refine (awake_calls _).mono ?_
  rintro e w1 ⟨rfl, hb⟩
  go_wp2_with fail
  refine (Mains.new_calls _).mono ?_
  rintro e w2 ⟨rfl, rfl⟩
  have hm : Row (w1.alloc (.cells M.fresh.cells.toArray 75)) w1.heap.size 75 M.fresh.cells := Row.new _ _ _
  have hB : w.heap.size ≤ w1.heap.size := hb.size
  have hB2 : w1.heap.size < (w1.alloc (.cells M.fresh.cells.toArray 75)).heap.size := by simp
  replace hb : Below w.heap.size w (w1.alloc (.cells M.fresh.cells.toArray 75)) := hb.alloc hb.size _
  generalize w1.alloc (.cells M.fresh.cells.toArray 75) = w2 at hm hb hB2 ⊢
  generalize w1.heap.size = B at hm hB hB2 ⊢
  go_wp2_with fail
  refine (Reel.new_calls B 4096 w2 hB2).mono ?_
  rintro e w3 ⟨rfl, hf, hb2, hs2⟩
  replace hm := hm.below hb2 hB2
  have hbb : w.heap.size ≤ w2.heap.size := hb.size
  have hr : Is w3 (From (w2.heap.size + 1)) B w2.heap.size (R.fresh 4096) := hf.is (fun x => by have : w2.heap.size + 1 ≤ B := x; omega) (fun x => by have : w2.heap.size + 1 ≤ w2.heap.size := x; omega) (fun k hk => show w2.heap.size + 1 ≤ k by omega)
  replace hb := below_next hb hb2 (Nat.le_refl _)
  have hBl : ∀ k, From (w2.heap.size + 1) k → w.heap.size ≤ k := fun k hk => by have : w2.heap.size + 1 ≤ k := hk; omega
  clear hf hb2 hs2
  generalize From (w2.heap.size + 1) = F at hr hBl
  generalize w2.heap.size = b at *
  go_wp2_with fail
  go_loopw [9, 10, 11] (fun s t i wr => ∃ (j : Nat) (r : R), j ≤ l ∧ r.size = 4096 ∧ r.data.length ≤ 50 * j ∧ s = .string (bs r.data) ∧ t = .string (bs (r.data.take r.safe)) ∧ i = .int .i64 j ∧ Is wr F B b r ∧ Row wr B 75 M.fresh.cells ∧ Below w.heap.size w wr) (fun s t i _ => l - (intOf i).toNat)
  case atStart => exact ⟨0, R.fresh 4096, by omega, rfl, by simp [R.fresh], rfl, rfl, rfl, hr, hm, hb⟩
  case round =>
    clear hr hm hb
    obtain ⟨j, r, hj, hsz, hdl, rfl, rfl, rfl, hr, hm, hb⟩ := hrel
    obtain ⟨hk1, hk2, hk3⟩ := hr.2.2.2.2.1
    by_cases hlt : j < l
    · obtain ⟨ad, rfl, hx⟩ := h.at hlt hb
      have hxs : ∀ w', Below w.heap.size w w' → w'.cell? (ad.add j) = some (.string (xs.getD j ⟨#[]⟩)) := fun w' hb => h.cell hlt hb
      generalize xs.getD j ⟨#[]⟩ = x at hx hxs ⊢
      have HX := Lib.hid hxs
      clear hxs
      by_cases hbig : 50 < x.size
      · have hbig' : (50 : Int) < (x.size : Int) := by omega
        go_wp2
        go_ret
        exact ⟨rfl, hb⟩
      · have hbig' : ¬ ((50 : Int) < (x.size : Int)) := by omega
        have hnf : ¬ (r.full x = true) := by simp [R.full]; omega
        go_wp2_with fail
        refine (append_calls _ _ _ M.fresh r x _ hr hm (by decide)).mono ?_
        rintro e w5 ⟨rfl, hr5, hm5, hc⟩
        replace hb := below_own hb hc hB hbb hBl
        rw [appErr_on, if_neg hnf]
        rw [appR_on, if_neg hnf] at hr5
        rw [appM_on] at hm5
        replace hx := HX.out _ hb
        have hal : (r.add x).data.length = r.data.length + x.size := by
          show (r.data ++ x.data.toList).length = _
          rw [List.length_append]
          rfl
        clear hc hr hm
        have hbl := bs_len r.data
        have hsy : bs ((r.add x).synced.data.take (r.add x).synced.safe) = bs (r.add x).data := by simp [R.synced]
        go_wp2_with fail
        · refine (sync_calls _ _ _ M.fresh (r.add x) _ hr5 hm5 (by decide)).mono ?_
          rintro e w6 ⟨rfl, hr6, hm6, hc⟩
          replace hb := below_own hb hc hB hbb hBl
          rw [show M.errUse M.fresh = 0 from rfl]
          replace hr6 : Is w6 F B b (r.add x).synced := hr6
          replace hm6 : Row w6 B 75 M.fresh.cells := hm6
          clear hc hr5 hm5
          go_wp2
          go_roundw
          case rel => exact ⟨j + 1, (r.add x).synced, by omega, hsz, by show (r.add x).data.length ≤ _; omega, by rw [show (r.add x).synced.data = (r.add x).data from rfl, add_bs], by rw [hsy, add_bs], by go_num, hr6, hm6, hb⟩
          case measure => simp [intOf]; omega
        · go_roundw
          case rel => exact ⟨j + 1, r.add x, by omega, hsz, by omega, by rw [add_bs], by show _ = Value.string (bs ((r.data ++ x.data.toList).take r.safe)); rw [List.take_append_of_le_length hk1], by go_num, hr5, hm5, hb⟩
          case measure => simp [intOf]; omega
    · obtain rfl : j = l := by omega
      have hnf : ¬ (r.full ⟨#[120]⟩ = true) := by simp [R.full]; have : (⟨#[120]⟩ : ByteArray).size = 1 := rfl; omega
      go_wp2_with fail
      refine (off_calls _ M.fresh _ hm).mono ?_
      rintro e w4 ⟨rfl, hm4, hc⟩
      replace hb := below_one hb hc (Nat.le_refl _) hB
      replace hr := hr.mains hc
      replace hm4 : Row w4 B 75 (⟨false, -1, 1⟩ : M).cells := hm4
      clear hc hm
      go_wp2_with fail
      refine (append_calls _ _ _ ⟨false, -1, 1⟩ r ⟨#[120]⟩ _ hr hm4 (by decide)).mono ?_
      rintro e w5 ⟨rfl, hr5, hm5, hc⟩
      replace hb := below_own hb hc hB hbb hBl
      rw [show appErr ⟨false, -1, 1⟩ r ⟨#[120]⟩ = 4 by simp only [appErr, if_neg hnf]; rfl]
      rw [show appR ⟨false, -1, 1⟩ r ⟨#[120]⟩ = r by simp only [appR, if_neg hnf]; rfl] at hr5
      rw [show appM ⟨false, -1, 1⟩ r ⟨#[120]⟩ = ⟨false, -1, 1⟩ by simp only [appM, if_neg hnf]; rfl] at hm5
      clear hc hr hm4
      go_wp2_with fail
      refine (sync_calls _ _ _ ⟨false, -1, 1⟩ r _ hr5 hm5 (by decide)).mono ?_
      rintro e w6 ⟨rfl, hr6, hm6, hc⟩
      replace hb := below_own hb hc hB hbb hBl
      rw [show M.errUse ⟨false, -1, 1⟩ = 4 from rfl]
      replace hr6 : Is w6 F B b r := hr6
      replace hm6 : Row w6 B 75 (⟨false, -1, 1⟩ : M).cells := hm6
      clear hc hr5 hm5
      go_wp2_with fail
      have hh : r.has 0 = true := by simp [R.has]
      refine (trim_calls _ _ _ ⟨false, -1, 1⟩ r 0 _ hr6 hm6 (by decide)).mono ?_
      rintro e w7 ⟨rfl, hr7, hm7, hc⟩
      replace hb := below_own hb hc hB hbb hBl
      rw [show trimErr ⟨false, -1, 1⟩ r 0 = 4 by simp only [trimErr, if_pos hh]; rfl]
      rw [show trimR ⟨false, -1, 1⟩ r 0 = r by simp only [trimR, if_pos hh]; rfl] at hr7
      rw [show trimM ⟨false, -1, 1⟩ r 0 = ⟨false, -1, 1⟩ by simp only [trimM, if_pos hh]; rfl] at hm7
      clear hc hr6 hm6
      go_wp2_with fail
      refine (settle_calls _ _ _ ⟨false, -1, 1⟩ r keep _ hr7 hm7).mono ?_
      rintro e w8 ⟨rfl, hr8, hm8, hc⟩
      replace hb := below_own hb hc hB hbb hBl
      rw [show settleErr ⟨false, -1, 1⟩ = 0 from rfl]
      replace hr8 : Is w8 F B b (r.cut (kept r keep)) := hr8
      clear hc hr7 hm7
      have hK := kept_le (r := r) keep hk1
      have hK2 : r.safe ≤ kept r keep := by unfold kept; omega
      generalize kept r keep = K at hr8 hK hK2
      go_wp2_with fail
      refine (on_calls _ ⟨false, -1, 1⟩ _ hm8 (by decide)).mono ?_
      rintro e w9 ⟨rfl, hm9, hc⟩
      replace hb := below_one hb hc (Nat.le_refl _) hB
      replace hr8 := hr8.mains hc
      replace hm9 : Row w9 B 75 (⟨true, -1, 2⟩ : M).cells := hm9
      clear hc hm8
      go_wp2_with fail
      refine (read_calls _ _ _ ⟨true, -1, 2⟩ _ _ hr8 hm9).mono ?_
      rintro e w10 ⟨rfl, rfl⟩
      rw [show readS ⟨true, -1, 2⟩ (r.cut K) = bs (r.data.take K) from rfl, show readE ⟨true, -1, 2⟩ = 0 from rfl]
      have hb1 : (bs (r.data.take K)).size = K := by rw [bs_len]; simp; omega
      have hb2 : (bs (r.data.take r.safe)).size = r.safe := by rw [bs_len]; simp; omega
      have hb3 : (bs r.data).size = r.data.length := bs_len _
      have hex : (bs r.data).extract 0 K = bs (r.data.take K) := by rw [extract_take]; rfl
      go_wp2_with fail
      refine (safe_calls _ _ _ _ _ hr8).mono ?_
      rintro e w11 ⟨rfl, rfl⟩
      rw [show (r.cut K).safe = K from rfl]
      go_wp2_with (first
        | (go_at_call 13; refine (read_nil _).mono ?_; rintro e w' ⟨rfl, rfl⟩)
        | (go_at_call 12; refine (append_nil _ _).mono ?_; rintro e w' ⟨rfl, rfl⟩)
        | (go_at_call 16; refine (sync_nil _).mono ?_; rintro e w' ⟨rfl, rfl⟩)
        | (go_at_call 18; refine (trim_nil _ _).mono ?_; rintro e w' ⟨rfl, rfl⟩)
        | (go_at_call 19; refine (settle_nil _ _).mono ?_; rintro e w' ⟨rfl, rfl⟩)
        | (go_at_call 21; refine (len_nil _).mono ?_; rintro e w' ⟨rfl, rfl⟩)
        | (go_at_call 15; refine (safe_nil _).mono ?_; rintro e w' ⟨rfl, rfl⟩)
        | (go_at_call 14; refine (left_nil _).mono ?_; rintro e w' ⟨rfl, rfl⟩))
      go_ret
      exact ⟨rfl, hb⟩
theorem keeps_row (a : Option Addr) (l c : Nat) (xs : List ByteArray) (n keep : Int) (w : World) (h : SlcIn Cod.str w a l c xs) (hn : (Lit.int .i64 n).wf = true) (hk : (Lit.int .i64 keep).wf = true) :
    Calls Try.prog 4 #[.slice a l c, .int .i64 n, .int .i64 keep] w fun e w' => e = .returned (.bool true) ∧ Below w.heap.size w w' :=
  keeps_calls a l c xs n keep w (strs_of h).1
end Go.Proofs.Ythfpliiknifgdaa.Reel
