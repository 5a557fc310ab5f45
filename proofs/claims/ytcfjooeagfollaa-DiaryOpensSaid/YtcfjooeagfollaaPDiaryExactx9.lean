-- PRINTED BY print.sh 35421559b90ae4d0a3588c463048766b98c2df88dd9212a6774a882060cdf62d: not written by this session
import Derived.Test.YtcfjooeagfollaaPDiaryExactx0
namespace Go.Proofs.Ytcfjooeagfollaa.PDiaryExact
open Go.RowKit Go.Proofs.YtcfjooeagfollaaW.PrintWords Go.Proofs.YtcfjooeagfollaaW.PrintLast Go.Proofs.YtcfjooeagfollaaW.PrintMore
attribute [local go_sem] max2_int min2_int max_two min_two max_three min_three max_four min_four   -- for this text's walks alone
set_option linter.unusedVariables false
set_option linter.unusedSimpArgs false

/-! ### gaugerlaw07_great: function 51 -/
mutual
def gaugerlaw07_great.j0 : Nat → Bool → Int → Int → Int → Int → List (S161) → Int → Int → ByteArray → ByteArray → List (S163) → List (S165) → Option (Bool)
  | 0, _, _, _, _, _, _, _, _, _, _, _, _ => none
  | k + 1, x33, x172000, x172001, x172002, x172003, x172004, x172005, x172006, x172007, x172008, x172009, x172010 => if x33 = true then (some true) else (gaugerlaw07_great.l0 k 0 x172000 x172001 x172002 x172003 x172004 x172005 x172006 x172007 x172008 x172009 x172010)
def gaugerlaw07_great.l0 : Nat → Int → Int → Int → Int → Int → List (S161) → Int → Int → ByteArray → ByteArray → List (S163) → List (S165) → Option (Bool)
  | 0, _, _, _, _, _, _, _, _, _, _, _, _ => none
  | k + 1, x3, x172000, x172001, x172002, x172003, x172004, x172005, x172006, x172007, x172008, x172009, x172010 => if x3 < (x172004.length : Int) then (if 0 ≤ x3 then (if (((rd_T161 x172004 x3).f1).size : Int) > 300 then (some true) else (gaugerlaw07_great.l0 k (wrap64 (x3 + 1)) x172000 x172001 x172002 x172003 x172004 x172005 x172006 x172007 x172008 x172009 x172010)) else (none)) else (some false)
end
def gaugerlaw07_great.f (k : Nat) (a0_0 : Int) (a0_1 : Int) (a0_2 : Int) (a0_3 : Int) (l0_4 : List (S161)) (a0_5 : Int) (a0_6 : Int) (a0_7 : ByteArray) (a0_8 : ByteArray) (l0_9 : List (S163)) (l0_10 : List (S165)) : Option (Bool) := if (l0_4.length : Int) > 8 then (gaugerlaw07_great.j0 k true a0_0 a0_1 a0_2 a0_3 l0_4 a0_5 a0_6 a0_7 a0_8 l0_9 l0_10) else (if (l0_9.length : Int) > 20 then (gaugerlaw07_great.j0 k true a0_0 a0_1 a0_2 a0_3 l0_4 a0_5 a0_6 a0_7 a0_8 l0_9 l0_10) else (if (l0_10.length : Int) > 20 then (gaugerlaw07_great.j0 k true a0_0 a0_1 a0_2 a0_3 l0_4 a0_5 a0_6 a0_7 a0_8 l0_9 l0_10) else (if (a0_7.size : Int) > 300 then (gaugerlaw07_great.j0 k true a0_0 a0_1 a0_2 a0_3 l0_4 a0_5 a0_6 a0_7 a0_8 l0_9 l0_10) else (gaugerlaw07_great.j0 k (decide ((a0_8.size : Int) > 300)) a0_0 a0_1 a0_2 a0_3 l0_4 a0_5 a0_6 a0_7 a0_8 l0_9 l0_10))))
theorem gaugerlaw07_great.mono_l : ∀ k, (∀ y0 y1 y2 y3 y4 y5 y6 y7 y8 y9 y10 y11, LeO (gaugerlaw07_great.j0 k y0 y1 y2 y3 y4 y5 y6 y7 y8 y9 y10 y11) (gaugerlaw07_great.j0 (k + 1) y0 y1 y2 y3 y4 y5 y6 y7 y8 y9 y10 y11)) ∧ (∀ y0 y1 y2 y3 y4 y5 y6 y7 y8 y9 y10 y11, LeO (gaugerlaw07_great.l0 k y0 y1 y2 y3 y4 y5 y6 y7 y8 y9 y10 y11) (gaugerlaw07_great.l0 (k + 1) y0 y1 y2 y3 y4 y5 y6 y7 y8 y9 y10 y11))
  | 0 => ⟨fun _ _ _ _ _ _ _ _ _ _ _ _ r h => by simp [gaugerlaw07_great.j0] at h, fun _ _ _ _ _ _ _ _ _ _ _ _ r h => by simp [gaugerlaw07_great.l0] at h⟩
  | k + 1 => by
    obtain ⟨ih0, ih1⟩ := gaugerlaw07_great.mono_l k
    refine ⟨?_, ?_⟩
    · intro y0 y1 y2 y3 y4 y5 y6 y7 y8 y9 y10 y11
      unfold gaugerlaw07_great.j0
      repeat' first
      | (with_reducible exact ih0 _ _ _ _ _ _ _ _ _ _ _ _)
      | (with_reducible exact ih1 _ _ _ _ _ _ _ _ _ _ _ _)
      | (with_reducible exact LeO.refl _)
      | (with_reducible exact LeO.none _)
      | (with_reducible refine LeO.ite ?_ ?_)
      | (with_reducible refine LeO.bind ?_ (fun _ => ?_))
      | exact ih0 _ _ _ _ _ _ _ _ _ _ _ _
      | exact ih1 _ _ _ _ _ _ _ _ _ _ _ _
      | exact LeO.none _
      | refine LeO.ite ?_ ?_
      | refine LeO.bind ?_ (fun _ => ?_)
    · intro y0 y1 y2 y3 y4 y5 y6 y7 y8 y9 y10 y11
      unfold gaugerlaw07_great.l0
      repeat' first
      | (with_reducible exact ih0 _ _ _ _ _ _ _ _ _ _ _ _)
      | (with_reducible exact ih1 _ _ _ _ _ _ _ _ _ _ _ _)
      | (with_reducible exact LeO.refl _)
      | (with_reducible exact LeO.none _)
      | (with_reducible refine LeO.ite ?_ ?_)
      | (with_reducible refine LeO.bind ?_ (fun _ => ?_))
      | exact ih0 _ _ _ _ _ _ _ _ _ _ _ _
      | exact ih1 _ _ _ _ _ _ _ _ _ _ _ _
      | exact LeO.none _
      | refine LeO.ite ?_ ?_
      | refine LeO.bind ?_ (fun _ => ?_)
theorem gaugerlaw07_great.mono : ∀ a0 a1 a2 a3 a4 a5 a6 a7 a8 a9 a10 k, LeO (gaugerlaw07_great.f k a0 a1 a2 a3 a4 a5 a6 a7 a8 a9 a10) (gaugerlaw07_great.f (k + 1) a0 a1 a2 a3 a4 a5 a6 a7 a8 a9 a10) := by
  intro a0 a1 a2 a3 a4 a5 a6 a7 a8 a9 a10 k
  obtain ⟨ih0, ih1⟩ := gaugerlaw07_great.mono_l k
  unfold gaugerlaw07_great.f
  repeat' first
      | (with_reducible exact ih0 _ _ _ _ _ _ _ _ _ _ _ _)
      | (with_reducible exact ih1 _ _ _ _ _ _ _ _ _ _ _ _)
      | (with_reducible exact LeO.refl _)
      | (with_reducible exact LeO.none _)
      | (with_reducible refine LeO.ite ?_ ?_)
      | (with_reducible refine LeO.bind ?_ (fun _ => ?_))
      | exact ih0 _ _ _ _ _ _ _ _ _ _ _ _
      | exact ih1 _ _ _ _ _ _ _ _ _ _ _ _
      | exact LeO.none _
      | refine LeO.ite ?_ ?_
      | refine LeO.bind ?_ (fun _ => ?_)
set_option maxHeartbeats 8000000 in
set_option maxRecDepth 100000 in
theorem gaugerlaw07_great.calls (k : Nat) (a0_0 : Int) (a0_1 : Int) (a0_2 : Int) (a0_3 : Int) (A0_4 : Option Addr) (c0_4 : Nat) (l0_4 : List (S161)) (a0_5 : Int) (a0_6 : Int) (a0_7 : ByteArray) (a0_8 : ByteArray) (A0_9 : Option Addr) (c0_9 : Nat) (l0_9 : List (S163)) (A0_10 : Option Addr) (c0_10 : Nat) (l0_10 : List (S165)) (r : Bool) (w : World) (hr0_4 : Kd.C k161 w A0_4 l0_4.length l0_4) (hc0_4 : l0_4.length ≤ c0_4) (hr0_9 : Kd.C k163 w A0_9 l0_9.length l0_9) (hc0_9 : l0_9.length ≤ c0_9) (hr0_10 : Kd.C k165 w A0_10 l0_10.length l0_10) (hc0_10 : l0_10.length ≤ c0_10) (h : gaugerlaw07_great.f k a0_0 a0_1 a0_2 a0_3 l0_4 a0_5 a0_6 a0_7 a0_8 l0_9 l0_10 = some r) :
    Calls Try.prog 51 #[.agg #[.int .i64 a0_0, .int .i64 a0_1, .int .i64 a0_2, .int .i64 a0_3, .slice A0_4 l0_4.length c0_4, .int .i64 a0_5, .int .i64 a0_6, .string a0_7, .string a0_8, .slice A0_9 l0_9.length c0_9, .slice A0_10 l0_10.length c0_10]] w fun e w' => e = .returned (.bool r) ∧ Below w.heap.size w w' := by
  have hu58 := Try.underlying58
  have HR0_4 := Aside0.mk hr0_4
  have HC0_4 := Aside0.mk hc0_4
  clear hr0_4 hc0_4
  have HR0_9 := Aside0.mk hr0_9
  have HC0_9 := Aside0.mk hc0_9
  clear hr0_9 hc0_9
  have HR0_10 := Aside0.mk hr0_10
  have HC0_10 := Aside0.mk hc0_10
  clear hr0_10 hc0_10
  have HB := Aside0.mk (Below.refl w.heap.size w)
  have H : (if (l0_4.length : Int) > 8 then (gaugerlaw07_great.j0 k true a0_0 a0_1 a0_2 a0_3 l0_4 a0_5 a0_6 a0_7 a0_8 l0_9 l0_10) else (if (l0_9.length : Int) > 20 then (gaugerlaw07_great.j0 k true a0_0 a0_1 a0_2 a0_3 l0_4 a0_5 a0_6 a0_7 a0_8 l0_9 l0_10) else (if (l0_10.length : Int) > 20 then (gaugerlaw07_great.j0 k true a0_0 a0_1 a0_2 a0_3 l0_4 a0_5 a0_6 a0_7 a0_8 l0_9 l0_10) else (if (a0_7.size : Int) > 300 then (gaugerlaw07_great.j0 k true a0_0 a0_1 a0_2 a0_3 l0_4 a0_5 a0_6 a0_7 a0_8 l0_9 l0_10) else (gaugerlaw07_great.j0 k (decide ((a0_8.size : Int) > 300)) a0_0 a0_1 a0_2 a0_3 l0_4 a0_5 a0_6 a0_7 a0_8 l0_9 l0_10))))) = some r := h
  clear h
  have HC2 := Aside0.mk H
  clear H
  go_enter Try.func51, Try.ntmps51
  go_upto_region 1 with (first | ((with_reducible refine gate_dst (N := 1) rfl ?_); (try (refine gate_guard (by rfl) ?_; dsimp only)); refine box_event ?hg (N := 1) ?hd (cs := #[.int .i64 a0_0, .int .i64 a0_1, .int .i64 a0_2, .int .i64 a0_3, .slice A0_4 l0_4.length c0_4, .int .i64 a0_5, .int .i64 a0_6, .string a0_7, .string a0_8, .slice A0_9 l0_9.length c0_9, .slice A0_10 l0_10.length c0_10]) (t := 58) ?hr ?_; (case hd => rfl); (case hg => rfl); (case hr => first | (go_simp; done) | (go_simp; rfl)); intro gb171 hg w3 hbox hb; have n0_ := Aside0.mk (below_step (by repeat (first | (with_reducible first | exact HB.out | apply below_alloc | apply pw_below_drewN | apply below_drew1) | exact HB.out)) hb); have n1_ := Aside0.mk (hbox); have n2_ := Aside0.mk ((by rw [hg]; exact (below_size (by repeat (first | (with_reducible first | exact HB.out | apply below_alloc | apply pw_below_drewN | apply below_drew1) | exact HB.out))) : w.heap.size ≤ gb171)); have n3_ := Aside0.mk ((by rw [hg]; exact (below_size (by repeat (first | (with_reducible first | exact HB.out | apply below_alloc | apply pw_below_drewN | apply below_drew1) | exact HB.out))) : w.heap.size ≤ gb171)); clear HB; have HB := n0_; have BK171 := n1_; have GW171 := n2_; have GE171 := n3_; clear n0_ n1_ n2_ n3_; clear hb hbox hg))
  (try simp only [Act.put, List.setIfInBounds_toArray, List.set_cons_zero, List.set_cons_succ])
  go_cut [33] (fun v33 wc => ∃ (kq : Nat) (x33_1 : Bool), v33 = .bool x33_1 ∧ Aside0 (gaugerlaw07_great.j0 kq x33_1 a0_0 a0_1 a0_2 a0_3 l0_4 a0_5 a0_6 a0_7 a0_8 l0_9 l0_10 = some r) ∧ Aside0 (kq ≤ k) ∧ Aside0 (wc.heap[gb171]? = some (.cells #[.int .i64 a0_0, .int .i64 a0_1, .int .i64 a0_2, .int .i64 a0_3, (.slice A0_4 l0_4.length c0_4), .int .i64 a0_5, .int .i64 a0_6, .string a0_7, .string a0_8, (.slice A0_9 l0_9.length c0_9), (.slice A0_10 l0_10.length c0_10)] 58 (0, 0))) ∧ Aside0 (Below w.heap.size w wc))
  case first =>
    have H := HC2.out
    clear HC2
    by_cases c4 : (l0_4.length : Int) > 8
    · rw [if_pos c4] at H
      have c4b0 : decide (8 < (l0_4.length : Int)) = true := decide_eq_true c4
      have c4b1 : decide (8 < l0_4.length) = true := decide_eq_true (by omega)
      clear c4
      (first | rw [c4b0] | (simp only [i64_w, i32_w]; rw [c4b0]) | skip)
      have H' := Aside0.mk H
      clear H
      have hcz5_0 : w3.cell? ⟨gb171, 0, none⟩ = some (.int .i64 a0_0) := (blk_cell BK171.out 0).trans rfl
      have hcz5_1 : w3.cell? ⟨gb171, 1, none⟩ = some (.int .i64 a0_1) := (blk_cell BK171.out 1).trans rfl
      have hcz5_2 : w3.cell? ⟨gb171, 2, none⟩ = some (.int .i64 a0_2) := (blk_cell BK171.out 2).trans rfl
      have hcz5_3 : w3.cell? ⟨gb171, 3, none⟩ = some (.int .i64 a0_3) := (blk_cell BK171.out 3).trans rfl
      have hcz5_4 : w3.cell? ⟨gb171, 4, none⟩ = some (.slice A0_4 l0_4.length c0_4) := (blk_cell BK171.out 4).trans rfl
      have hcz5_5 : w3.cell? ⟨gb171, 5, none⟩ = some (.int .i64 a0_5) := (blk_cell BK171.out 5).trans rfl
      have hcz5_6 : w3.cell? ⟨gb171, 6, none⟩ = some (.int .i64 a0_6) := (blk_cell BK171.out 6).trans rfl
      have hcz5_7 : w3.cell? ⟨gb171, 7, none⟩ = some (.string a0_7) := (blk_cell BK171.out 7).trans rfl
      have hcz5_8 : w3.cell? ⟨gb171, 8, none⟩ = some (.string a0_8) := (blk_cell BK171.out 8).trans rfl
      have hcz5_9 : w3.cell? ⟨gb171, 9, none⟩ = some (.slice A0_9 l0_9.length c0_9) := (blk_cell BK171.out 9).trans rfl
      have hcz5_10 : w3.cell? ⟨gb171, 10, none⟩ = some (.slice A0_10 l0_10.length c0_10) := (blk_cell BK171.out 10).trans rfl
      have hfz5_0 := blk_frozen BK171.out 0
      have hfz5_1 := blk_frozen BK171.out 1
      have hfz5_2 := blk_frozen BK171.out 2
      have hfz5_3 := blk_frozen BK171.out 3
      have hfz5_4 := blk_frozen BK171.out 4
      have hfz5_5 := blk_frozen BK171.out 5
      have hfz5_6 := blk_frozen BK171.out 6
      have hfz5_7 := blk_frozen BK171.out 7
      have hfz5_8 := blk_frozen BK171.out 8
      have hfz5_9 := blk_frozen BK171.out 9
      have hfz5_10 := blk_frozen BK171.out 10
      go_wp2
      go_meet
      case rel => exact ⟨_, (true), (by first | rfl | (simp; done) | (simp [*]; done)), H', ⟨by first | omega | exact Nat.le_refl _⟩, ⟨by (with_reducible repeat (first | refine blk_drewN ?_ _ | refine blk_drew ?_ | refine blk_alloc ?_ _)); exact BK171.out⟩, ⟨by repeat (first | (with_reducible first | exact HB.out | apply below_alloc | apply pw_below_drewN | apply below_drew1 | refine below_set ?_ GE171.out) | exact HB.out)⟩⟩
    · rw [if_neg c4] at H
      have c4b0 : decide (8 < (l0_4.length : Int)) = false := decide_eq_false c4
      have c4b1 : decide (8 < l0_4.length) = false := decide_eq_false (by omega)
      clear c4
      (first | rw [c4b0] | (simp only [i64_w, i32_w]; rw [c4b0]) | skip)
      by_cases c6 : (l0_9.length : Int) > 20
      · rw [if_pos c6] at H
        have c6b0 : decide (20 < (l0_9.length : Int)) = true := decide_eq_true c6
        have c6b1 : decide (20 < l0_9.length) = true := decide_eq_true (by omega)
        clear c6
        have H' := Aside0.mk H
        clear H
        have hcz7_0 : w3.cell? ⟨gb171, 0, none⟩ = some (.int .i64 a0_0) := (blk_cell BK171.out 0).trans rfl
        have hcz7_1 : w3.cell? ⟨gb171, 1, none⟩ = some (.int .i64 a0_1) := (blk_cell BK171.out 1).trans rfl
        have hcz7_2 : w3.cell? ⟨gb171, 2, none⟩ = some (.int .i64 a0_2) := (blk_cell BK171.out 2).trans rfl
        have hcz7_3 : w3.cell? ⟨gb171, 3, none⟩ = some (.int .i64 a0_3) := (blk_cell BK171.out 3).trans rfl
        have hcz7_4 : w3.cell? ⟨gb171, 4, none⟩ = some (.slice A0_4 l0_4.length c0_4) := (blk_cell BK171.out 4).trans rfl
        have hcz7_5 : w3.cell? ⟨gb171, 5, none⟩ = some (.int .i64 a0_5) := (blk_cell BK171.out 5).trans rfl
        have hcz7_6 : w3.cell? ⟨gb171, 6, none⟩ = some (.int .i64 a0_6) := (blk_cell BK171.out 6).trans rfl
        have hcz7_7 : w3.cell? ⟨gb171, 7, none⟩ = some (.string a0_7) := (blk_cell BK171.out 7).trans rfl
        have hcz7_8 : w3.cell? ⟨gb171, 8, none⟩ = some (.string a0_8) := (blk_cell BK171.out 8).trans rfl
        have hcz7_9 : w3.cell? ⟨gb171, 9, none⟩ = some (.slice A0_9 l0_9.length c0_9) := (blk_cell BK171.out 9).trans rfl
        have hcz7_10 : w3.cell? ⟨gb171, 10, none⟩ = some (.slice A0_10 l0_10.length c0_10) := (blk_cell BK171.out 10).trans rfl
        have hfz7_0 := blk_frozen BK171.out 0
        have hfz7_1 := blk_frozen BK171.out 1
        have hfz7_2 := blk_frozen BK171.out 2
        have hfz7_3 := blk_frozen BK171.out 3
        have hfz7_4 := blk_frozen BK171.out 4
        have hfz7_5 := blk_frozen BK171.out 5
        have hfz7_6 := blk_frozen BK171.out 6
        have hfz7_7 := blk_frozen BK171.out 7
        have hfz7_8 := blk_frozen BK171.out 8
        have hfz7_9 := blk_frozen BK171.out 9
        have hfz7_10 := blk_frozen BK171.out 10
        go_wp2
        go_meet
        case rel => exact ⟨_, (true), (by first | rfl | (simp; done) | (simp [*]; done)), H', ⟨by first | omega | exact Nat.le_refl _⟩, ⟨by (with_reducible repeat (first | refine blk_drewN ?_ _ | refine blk_drew ?_ | refine blk_alloc ?_ _)); exact BK171.out⟩, ⟨by repeat (first | (with_reducible first | exact HB.out | apply below_alloc | apply pw_below_drewN | apply below_drew1 | refine below_set ?_ GE171.out) | exact HB.out)⟩⟩
      · rw [if_neg c6] at H
        have c6b0 : decide (20 < (l0_9.length : Int)) = false := decide_eq_false c6
        have c6b1 : decide (20 < l0_9.length) = false := decide_eq_false (by omega)
        clear c6
        by_cases c8 : (l0_10.length : Int) > 20
        · rw [if_pos c8] at H
          have c8b0 : decide (20 < (l0_10.length : Int)) = true := decide_eq_true c8
          have c8b1 : decide (20 < l0_10.length) = true := decide_eq_true (by omega)
          clear c8
          have H' := Aside0.mk H
          clear H
          have hcz9_0 : w3.cell? ⟨gb171, 0, none⟩ = some (.int .i64 a0_0) := (blk_cell BK171.out 0).trans rfl
          have hcz9_1 : w3.cell? ⟨gb171, 1, none⟩ = some (.int .i64 a0_1) := (blk_cell BK171.out 1).trans rfl
          have hcz9_2 : w3.cell? ⟨gb171, 2, none⟩ = some (.int .i64 a0_2) := (blk_cell BK171.out 2).trans rfl
          have hcz9_3 : w3.cell? ⟨gb171, 3, none⟩ = some (.int .i64 a0_3) := (blk_cell BK171.out 3).trans rfl
          have hcz9_4 : w3.cell? ⟨gb171, 4, none⟩ = some (.slice A0_4 l0_4.length c0_4) := (blk_cell BK171.out 4).trans rfl
          have hcz9_5 : w3.cell? ⟨gb171, 5, none⟩ = some (.int .i64 a0_5) := (blk_cell BK171.out 5).trans rfl
          have hcz9_6 : w3.cell? ⟨gb171, 6, none⟩ = some (.int .i64 a0_6) := (blk_cell BK171.out 6).trans rfl
          have hcz9_7 : w3.cell? ⟨gb171, 7, none⟩ = some (.string a0_7) := (blk_cell BK171.out 7).trans rfl
          have hcz9_8 : w3.cell? ⟨gb171, 8, none⟩ = some (.string a0_8) := (blk_cell BK171.out 8).trans rfl
          have hcz9_9 : w3.cell? ⟨gb171, 9, none⟩ = some (.slice A0_9 l0_9.length c0_9) := (blk_cell BK171.out 9).trans rfl
          have hcz9_10 : w3.cell? ⟨gb171, 10, none⟩ = some (.slice A0_10 l0_10.length c0_10) := (blk_cell BK171.out 10).trans rfl
          have hfz9_0 := blk_frozen BK171.out 0
          have hfz9_1 := blk_frozen BK171.out 1
          have hfz9_2 := blk_frozen BK171.out 2
          have hfz9_3 := blk_frozen BK171.out 3
          have hfz9_4 := blk_frozen BK171.out 4
          have hfz9_5 := blk_frozen BK171.out 5
          have hfz9_6 := blk_frozen BK171.out 6
          have hfz9_7 := blk_frozen BK171.out 7
          have hfz9_8 := blk_frozen BK171.out 8
          have hfz9_9 := blk_frozen BK171.out 9
          have hfz9_10 := blk_frozen BK171.out 10
          go_wp2
          go_meet
          case rel => exact ⟨_, (true), (by first | rfl | (simp; done) | (simp [*]; done)), H', ⟨by first | omega | exact Nat.le_refl _⟩, ⟨by (with_reducible repeat (first | refine blk_drewN ?_ _ | refine blk_drew ?_ | refine blk_alloc ?_ _)); exact BK171.out⟩, ⟨by repeat (first | (with_reducible first | exact HB.out | apply below_alloc | apply pw_below_drewN | apply below_drew1 | refine below_set ?_ GE171.out) | exact HB.out)⟩⟩
        · rw [if_neg c8] at H
          have c8b0 : decide (20 < (l0_10.length : Int)) = false := decide_eq_false c8
          have c8b1 : decide (20 < l0_10.length) = false := decide_eq_false (by omega)
          clear c8
          by_cases c10 : (a0_7.size : Int) > 300
          · rw [if_pos c10] at H
            have c10b0 : decide (300 < (a0_7.size : Int)) = true := decide_eq_true c10
            have c10b1 : decide (300 < a0_7.size) = true := decide_eq_true (by omega)
            clear c10
            have H' := Aside0.mk H
            clear H
            have hcz11_0 : w3.cell? ⟨gb171, 0, none⟩ = some (.int .i64 a0_0) := (blk_cell BK171.out 0).trans rfl
            have hcz11_1 : w3.cell? ⟨gb171, 1, none⟩ = some (.int .i64 a0_1) := (blk_cell BK171.out 1).trans rfl
            have hcz11_2 : w3.cell? ⟨gb171, 2, none⟩ = some (.int .i64 a0_2) := (blk_cell BK171.out 2).trans rfl
            have hcz11_3 : w3.cell? ⟨gb171, 3, none⟩ = some (.int .i64 a0_3) := (blk_cell BK171.out 3).trans rfl
            have hcz11_4 : w3.cell? ⟨gb171, 4, none⟩ = some (.slice A0_4 l0_4.length c0_4) := (blk_cell BK171.out 4).trans rfl
            have hcz11_5 : w3.cell? ⟨gb171, 5, none⟩ = some (.int .i64 a0_5) := (blk_cell BK171.out 5).trans rfl
            have hcz11_6 : w3.cell? ⟨gb171, 6, none⟩ = some (.int .i64 a0_6) := (blk_cell BK171.out 6).trans rfl
            have hcz11_7 : w3.cell? ⟨gb171, 7, none⟩ = some (.string a0_7) := (blk_cell BK171.out 7).trans rfl
            have hcz11_8 : w3.cell? ⟨gb171, 8, none⟩ = some (.string a0_8) := (blk_cell BK171.out 8).trans rfl
            have hcz11_9 : w3.cell? ⟨gb171, 9, none⟩ = some (.slice A0_9 l0_9.length c0_9) := (blk_cell BK171.out 9).trans rfl
            have hcz11_10 : w3.cell? ⟨gb171, 10, none⟩ = some (.slice A0_10 l0_10.length c0_10) := (blk_cell BK171.out 10).trans rfl
            have hfz11_0 := blk_frozen BK171.out 0
            have hfz11_1 := blk_frozen BK171.out 1
            have hfz11_2 := blk_frozen BK171.out 2
            have hfz11_3 := blk_frozen BK171.out 3
            have hfz11_4 := blk_frozen BK171.out 4
            have hfz11_5 := blk_frozen BK171.out 5
            have hfz11_6 := blk_frozen BK171.out 6
            have hfz11_7 := blk_frozen BK171.out 7
            have hfz11_8 := blk_frozen BK171.out 8
            have hfz11_9 := blk_frozen BK171.out 9
            have hfz11_10 := blk_frozen BK171.out 10
            go_wp2
            go_meet
            case rel => exact ⟨_, (true), (by first | rfl | (simp; done) | (simp [*]; done)), H', ⟨by first | omega | exact Nat.le_refl _⟩, ⟨by (with_reducible repeat (first | refine blk_drewN ?_ _ | refine blk_drew ?_ | refine blk_alloc ?_ _)); exact BK171.out⟩, ⟨by repeat (first | (with_reducible first | exact HB.out | apply below_alloc | apply pw_below_drewN | apply below_drew1 | refine below_set ?_ GE171.out) | exact HB.out)⟩⟩
          · rw [if_neg c10] at H
            have c10b0 : decide (300 < (a0_7.size : Int)) = false := decide_eq_false c10
            have c10b1 : decide (300 < a0_7.size) = false := decide_eq_false (by omega)
            clear c10
            have H' := Aside0.mk H
            clear H
            have hcz12_0 : w3.cell? ⟨gb171, 0, none⟩ = some (.int .i64 a0_0) := (blk_cell BK171.out 0).trans rfl
            have hcz12_1 : w3.cell? ⟨gb171, 1, none⟩ = some (.int .i64 a0_1) := (blk_cell BK171.out 1).trans rfl
            have hcz12_2 : w3.cell? ⟨gb171, 2, none⟩ = some (.int .i64 a0_2) := (blk_cell BK171.out 2).trans rfl
            have hcz12_3 : w3.cell? ⟨gb171, 3, none⟩ = some (.int .i64 a0_3) := (blk_cell BK171.out 3).trans rfl
            have hcz12_4 : w3.cell? ⟨gb171, 4, none⟩ = some (.slice A0_4 l0_4.length c0_4) := (blk_cell BK171.out 4).trans rfl
            have hcz12_5 : w3.cell? ⟨gb171, 5, none⟩ = some (.int .i64 a0_5) := (blk_cell BK171.out 5).trans rfl
            have hcz12_6 : w3.cell? ⟨gb171, 6, none⟩ = some (.int .i64 a0_6) := (blk_cell BK171.out 6).trans rfl
            have hcz12_7 : w3.cell? ⟨gb171, 7, none⟩ = some (.string a0_7) := (blk_cell BK171.out 7).trans rfl
            have hcz12_8 : w3.cell? ⟨gb171, 8, none⟩ = some (.string a0_8) := (blk_cell BK171.out 8).trans rfl
            have hcz12_9 : w3.cell? ⟨gb171, 9, none⟩ = some (.slice A0_9 l0_9.length c0_9) := (blk_cell BK171.out 9).trans rfl
            have hcz12_10 : w3.cell? ⟨gb171, 10, none⟩ = some (.slice A0_10 l0_10.length c0_10) := (blk_cell BK171.out 10).trans rfl
            have hfz12_0 := blk_frozen BK171.out 0
            have hfz12_1 := blk_frozen BK171.out 1
            have hfz12_2 := blk_frozen BK171.out 2
            have hfz12_3 := blk_frozen BK171.out 3
            have hfz12_4 := blk_frozen BK171.out 4
            have hfz12_5 := blk_frozen BK171.out 5
            have hfz12_6 := blk_frozen BK171.out 6
            have hfz12_7 := blk_frozen BK171.out 7
            have hfz12_8 := blk_frozen BK171.out 8
            have hfz12_9 := blk_frozen BK171.out 9
            have hfz12_10 := blk_frozen BK171.out 10
            go_wp2
            go_meet
            case rel => exact ⟨_, (decide ((a0_8.size : Int) > 300)), (by first | rfl | (simp; done) | (simp [*]; done)), H', ⟨by first | omega | exact Nat.le_refl _⟩, ⟨by (with_reducible repeat (first | refine blk_drewN ?_ _ | refine blk_drew ?_ | refine blk_alloc ?_ _)); exact BK171.out⟩, ⟨by repeat (first | (with_reducible first | exact HB.out | apply below_alloc | apply pw_below_drewN | apply below_drew1 | refine below_set ?_ GE171.out) | exact HB.out)⟩⟩
  case rest =>
    clear HC2
    try clear c1
    try clear p2
    try clear c4
    try clear c4b0
    try clear c4b1
    try clear c5
    try clear c6
    try clear c6b0
    try clear c6b1
    try clear c8
    try clear c8b0
    try clear c8b1
    try clear c10
    try clear c10b0
    try clear c10b1
    try clear hcz11_0
    try clear hcz11_1
    try clear hcz11_10
    try clear hcz11_2
    try clear hcz11_3
    try clear hcz11_4
    try clear hcz11_5
    try clear hcz11_6
    try clear hcz11_7
    try clear hcz11_8
    try clear hcz11_9
    try clear hcz12_0
    try clear hcz12_1
    try clear hcz12_10
    try clear hcz12_2
    try clear hcz12_3
    try clear hcz12_4
    try clear hcz12_5
    try clear hcz12_6
    try clear hcz12_7
    try clear hcz12_8
    try clear hcz12_9
    try clear hcz5_0
    try clear hcz5_1
    try clear hcz5_10
    try clear hcz5_2
    try clear hcz5_3
    try clear hcz5_4
    try clear hcz5_5
    try clear hcz5_6
    try clear hcz5_7
    try clear hcz5_8
    try clear hcz5_9
    try clear hcz7_0
    try clear hcz7_1
    try clear hcz7_10
    try clear hcz7_2
    try clear hcz7_3
    try clear hcz7_4
    try clear hcz7_5
    try clear hcz7_6
    try clear hcz7_7
    try clear hcz7_8
    try clear hcz7_9
    try clear hcz9_0
    try clear hcz9_1
    try clear hcz9_10
    try clear hcz9_2
    try clear hcz9_3
    try clear hcz9_4
    try clear hcz9_5
    try clear hcz9_6
    try clear hcz9_7
    try clear hcz9_8
    try clear hcz9_9
    try clear hfz11_0
    try clear hfz11_1
    try clear hfz11_10
    try clear hfz11_2
    try clear hfz11_3
    try clear hfz11_4
    try clear hfz11_5
    try clear hfz11_6
    try clear hfz11_7
    try clear hfz11_8
    try clear hfz11_9
    try clear hfz12_0
    try clear hfz12_1
    try clear hfz12_10
    try clear hfz12_2
    try clear hfz12_3
    try clear hfz12_4
    try clear hfz12_5
    try clear hfz12_6
    try clear hfz12_7
    try clear hfz12_8
    try clear hfz12_9
    try clear hfz5_0
    try clear hfz5_1
    try clear hfz5_10
    try clear hfz5_2
    try clear hfz5_3
    try clear hfz5_4
    try clear hfz5_5
    try clear hfz5_6
    try clear hfz5_7
    try clear hfz5_8
    try clear hfz5_9
    try clear hfz7_0
    try clear hfz7_1
    try clear hfz7_10
    try clear hfz7_2
    try clear hfz7_3
    try clear hfz7_4
    try clear hfz7_5
    try clear hfz7_6
    try clear hfz7_7
    try clear hfz7_8
    try clear hfz7_9
    try clear hfz9_0
    try clear hfz9_1
    try clear hfz9_10
    try clear hfz9_2
    try clear hfz9_3
    try clear hfz9_4
    try clear hfz9_5
    try clear hfz9_6
    try clear hfz9_7
    try clear hfz9_8
    try clear hfz9_9
    obtain ⟨kq, x33_1, rfl, HA, HJ1, BK171, HB⟩ := hcut
    cases kq with
    | zero => exact absurd HA.out (by simp [gaugerlaw07_great.j0])
    | succ kj1 =>
      have H := HA.out
      clear HA
      simp only [gaugerlaw07_great.j0] at H
      by_cases c13 : x33_1 = true
      · subst c13
        have H1 : (some true) = some r := by rw [if_pos rfl] at H; exact H
        clear H
        have H := H1
        clear H1
        obtain rfl := Option.some.inj H
        go_wp2
        go_ret
        exact ⟨by first | rfl | (simp [errW_none, errW_some] <;> rfl) | (simp [*, errW_none, errW_some] <;> rfl), by repeat (first | (with_reducible first | exact HB.out | apply below_alloc | apply pw_below_drewN | apply below_drew1 | refine below_set ?_ GE171.out) | exact HB.out)⟩
      · replace c13 := Bool.eq_false_iff.mpr c13
        subst c13
        have H1 : (gaugerlaw07_great.l0 kj1 0 a0_0 a0_1 a0_2 a0_3 l0_4 a0_5 a0_6 a0_7 a0_8 l0_9 l0_10) = some r := by rw [if_neg (show ¬ (false = true) by decide)] at H; exact H
        clear H
        have H := H1
        clear H1
        have H' := Aside0.mk H
        clear H
        go_wp2
        go_loopg [3] kj1 (fun kq v3 w' => ∃ (x3_2 : Int), v3 = .int .i64 x3_2 ∧ Aside0 (gaugerlaw07_great.l0 kq x3_2 a0_0 a0_1 a0_2 a0_3 l0_4 a0_5 a0_6 a0_7 a0_8 l0_9 l0_10 = some r) ∧ Aside0 (kq ≤ kj1) ∧ Aside0 (w'.heap[gb171]? = some (.cells #[.int .i64 a0_0, .int .i64 a0_1, .int .i64 a0_2, .int .i64 a0_3, (.slice A0_4 l0_4.length c0_4), .int .i64 a0_5, .int .i64 a0_6, .string a0_7, .string a0_8, (.slice A0_9 l0_9.length c0_9), (.slice A0_10 l0_10.length c0_10)] 58 (0, 0))) ∧ Aside0 (Below w.heap.size w w'))
        case atStart => exact ⟨(0), (by first | rfl | (simp; done) | (simp [*]; done)), H', ⟨Nat.le_refl _⟩, ⟨by (with_reducible repeat (first | refine blk_drewN ?_ _ | refine blk_drew ?_ | refine blk_alloc ?_ _)); exact BK171.out⟩, ⟨by repeat (first | (with_reducible first | exact HB.out | apply below_alloc | apply pw_below_drewN | apply below_drew1 | refine below_set ?_ GE171.out) | exact HB.out)⟩⟩
        case round =>
          clear H'
          try clear c1
          try clear p2
          try clear c4
          try clear c4b0
          try clear c4b1
          try clear c5
          try clear c6
          try clear c6b0
          try clear c6b1
          try clear c8
          try clear c8b0
          try clear c8b1
          try clear c10
          try clear c10b0
          try clear c10b1
          try clear c13
          try clear hcz11_0
          try clear hcz11_1
          try clear hcz11_10
          try clear hcz11_2
          try clear hcz11_3
          try clear hcz11_4
          try clear hcz11_5
          try clear hcz11_6
          try clear hcz11_7
          try clear hcz11_8
          try clear hcz11_9
          try clear hcz12_0
          try clear hcz12_1
          try clear hcz12_10
          try clear hcz12_2
          try clear hcz12_3
          try clear hcz12_4
          try clear hcz12_5
          try clear hcz12_6
          try clear hcz12_7
          try clear hcz12_8
          try clear hcz12_9
          try clear hcz5_0
          try clear hcz5_1
          try clear hcz5_10
          try clear hcz5_2
          try clear hcz5_3
          try clear hcz5_4
          try clear hcz5_5
          try clear hcz5_6
          try clear hcz5_7
          try clear hcz5_8
          try clear hcz5_9
          try clear hcz7_0
          try clear hcz7_1
          try clear hcz7_10
          try clear hcz7_2
          try clear hcz7_3
          try clear hcz7_4
          try clear hcz7_5
          try clear hcz7_6
          try clear hcz7_7
          try clear hcz7_8
          try clear hcz7_9
          try clear hcz9_0
          try clear hcz9_1
          try clear hcz9_10
          try clear hcz9_2
          try clear hcz9_3
          try clear hcz9_4
          try clear hcz9_5
          try clear hcz9_6
          try clear hcz9_7
          try clear hcz9_8
          try clear hcz9_9
          try clear hfz11_0
          try clear hfz11_1
          try clear hfz11_10
          try clear hfz11_2
          try clear hfz11_3
          try clear hfz11_4
          try clear hfz11_5
          try clear hfz11_6
          try clear hfz11_7
          try clear hfz11_8
          try clear hfz11_9
          try clear hfz12_0
          try clear hfz12_1
          try clear hfz12_10
          try clear hfz12_2
          try clear hfz12_3
          try clear hfz12_4
          try clear hfz12_5
          try clear hfz12_6
          try clear hfz12_7
          try clear hfz12_8
          try clear hfz12_9
          try clear hfz5_0
          try clear hfz5_1
          try clear hfz5_10
          try clear hfz5_2
          try clear hfz5_3
          try clear hfz5_4
          try clear hfz5_5
          try clear hfz5_6
          try clear hfz5_7
          try clear hfz5_8
          try clear hfz5_9
          try clear hfz7_0
          try clear hfz7_1
          try clear hfz7_10
          try clear hfz7_2
          try clear hfz7_3
          try clear hfz7_4
          try clear hfz7_5
          try clear hfz7_6
          try clear hfz7_7
          try clear hfz7_8
          try clear hfz7_9
          try clear hfz9_0
          try clear hfz9_1
          try clear hfz9_10
          try clear hfz9_2
          try clear hfz9_3
          try clear hfz9_4
          try clear hfz9_5
          try clear hfz9_6
          try clear hfz9_7
          try clear hfz9_8
          try clear hfz9_9
          try clear p2
          obtain ⟨x3_2, rfl, HA, HK2, BK171, HB⟩ := hrel
          cases gk with
          | zero => exact absurd HA.out (by simp [gaugerlaw07_great.l0])
          | succ k2 =>
            have H := HA.out
            clear HA
            simp only [gaugerlaw07_great.l0] at H
            by_cases c14 : x3_2 < (l0_4.length : Int)
            · rw [if_pos c14] at H
              have c14b0 : decide (x3_2 < (l0_4.length : Int)) = true := decide_eq_true c14
              clear c14
              by_cases c15 : 0 ≤ x3_2
              · rw [if_pos c15] at H
                have c15b0 : decide (0 ≤ x3_2) = true := decide_eq_true c15
                clear c15
                by_cases c16 : (((rd_T161 l0_4 x3_2).f1).size : Int) > 300
                · rw [if_pos c16] at H
                  have c16b0 : decide (300 < (((rd_T161 l0_4 x3_2).f1).size : Int)) = true := decide_eq_true c16
                  have c16b1 : decide (300 < ((rd_T161 l0_4 x3_2).f1).size) = true := decide_eq_true (by omega)
                  clear c16
                  obtain rfl := Option.some.inj H
                  have hcz17_0 : wr.cell? ⟨gb171, 0, none⟩ = some (.int .i64 a0_0) := (blk_cell BK171.out 0).trans rfl
                  have hcz17_1 : wr.cell? ⟨gb171, 1, none⟩ = some (.int .i64 a0_1) := (blk_cell BK171.out 1).trans rfl
                  have hcz17_2 : wr.cell? ⟨gb171, 2, none⟩ = some (.int .i64 a0_2) := (blk_cell BK171.out 2).trans rfl
                  have hcz17_3 : wr.cell? ⟨gb171, 3, none⟩ = some (.int .i64 a0_3) := (blk_cell BK171.out 3).trans rfl
                  have hcz17_4 : wr.cell? ⟨gb171, 4, none⟩ = some (.slice A0_4 l0_4.length c0_4) := (blk_cell BK171.out 4).trans rfl
                  have hcz17_5 : wr.cell? ⟨gb171, 5, none⟩ = some (.int .i64 a0_5) := (blk_cell BK171.out 5).trans rfl
                  have hcz17_6 : wr.cell? ⟨gb171, 6, none⟩ = some (.int .i64 a0_6) := (blk_cell BK171.out 6).trans rfl
                  have hcz17_7 : wr.cell? ⟨gb171, 7, none⟩ = some (.string a0_7) := (blk_cell BK171.out 7).trans rfl
                  have hcz17_8 : wr.cell? ⟨gb171, 8, none⟩ = some (.string a0_8) := (blk_cell BK171.out 8).trans rfl
                  have hcz17_9 : wr.cell? ⟨gb171, 9, none⟩ = some (.slice A0_9 l0_9.length c0_9) := (blk_cell BK171.out 9).trans rfl
                  have hcz17_10 : wr.cell? ⟨gb171, 10, none⟩ = some (.slice A0_10 l0_10.length c0_10) := (blk_cell BK171.out 10).trans rfl
                  have hfz17_0 := blk_frozen BK171.out 0
                  have hfz17_1 := blk_frozen BK171.out 1
                  have hfz17_2 := blk_frozen BK171.out 2
                  have hfz17_3 := blk_frozen BK171.out 3
                  have hfz17_4 := blk_frozen BK171.out 4
                  have hfz17_5 := blk_frozen BK171.out 5
                  have hfz17_6 := blk_frozen BK171.out 6
                  have hfz17_7 := blk_frozen BK171.out 7
                  have hfz17_8 := blk_frozen BK171.out 8
                  have hfz17_9 := blk_frozen BK171.out 9
                  have hfz17_10 := blk_frozen BK171.out 10
                  have p172 : 0 ≤ (x3_2 : Int) := of_decide_eq_true (by first | (with_reducible assumption) | assumption)
                  have q172 : x3_2 < (l0_4.length : Int) := of_decide_eq_true (by first | (with_reducible assumption) | assumption)
                  obtain ⟨ad172, e172, hx172_0, hx172_1⟩ := at_T161 HR0_4.out x3_2 p172 q172
                  cases e172
                  replace hx172_0 := (HB.out.cell (World.block_lt_of_cell? w _ hx172_0)).trans hx172_0
                  replace hx172_1 := (HB.out.cell (World.block_lt_of_cell? w _ hx172_1)).trans hx172_1
                  replace p172 := eq_true p172
                  replace q172 := eq_true q172
                  go_wp2
                  go_ret
                  exact ⟨by first | rfl | (simp [errW_none, errW_some] <;> rfl) | (simp [*, errW_none, errW_some] <;> rfl), by repeat (first | (with_reducible first | exact HB.out | apply below_alloc | apply pw_below_drewN | apply below_drew1 | refine below_set ?_ GE171.out) | exact HB.out)⟩
                · rw [if_neg c16] at H
                  have c16b0 : decide (300 < (((rd_T161 l0_4 x3_2).f1).size : Int)) = false := decide_eq_false c16
                  have c16b1 : decide (300 < ((rd_T161 l0_4 x3_2).f1).size) = false := decide_eq_false (by omega)
                  clear c16
                  have H' := Aside0.mk H
                  clear H
                  have hcz18_0 : wr.cell? ⟨gb171, 0, none⟩ = some (.int .i64 a0_0) := (blk_cell BK171.out 0).trans rfl
                  have hcz18_1 : wr.cell? ⟨gb171, 1, none⟩ = some (.int .i64 a0_1) := (blk_cell BK171.out 1).trans rfl
                  have hcz18_2 : wr.cell? ⟨gb171, 2, none⟩ = some (.int .i64 a0_2) := (blk_cell BK171.out 2).trans rfl
                  have hcz18_3 : wr.cell? ⟨gb171, 3, none⟩ = some (.int .i64 a0_3) := (blk_cell BK171.out 3).trans rfl
                  have hcz18_4 : wr.cell? ⟨gb171, 4, none⟩ = some (.slice A0_4 l0_4.length c0_4) := (blk_cell BK171.out 4).trans rfl
                  have hcz18_5 : wr.cell? ⟨gb171, 5, none⟩ = some (.int .i64 a0_5) := (blk_cell BK171.out 5).trans rfl
                  have hcz18_6 : wr.cell? ⟨gb171, 6, none⟩ = some (.int .i64 a0_6) := (blk_cell BK171.out 6).trans rfl
                  have hcz18_7 : wr.cell? ⟨gb171, 7, none⟩ = some (.string a0_7) := (blk_cell BK171.out 7).trans rfl
                  have hcz18_8 : wr.cell? ⟨gb171, 8, none⟩ = some (.string a0_8) := (blk_cell BK171.out 8).trans rfl
                  have hcz18_9 : wr.cell? ⟨gb171, 9, none⟩ = some (.slice A0_9 l0_9.length c0_9) := (blk_cell BK171.out 9).trans rfl
                  have hcz18_10 : wr.cell? ⟨gb171, 10, none⟩ = some (.slice A0_10 l0_10.length c0_10) := (blk_cell BK171.out 10).trans rfl
                  have hfz18_0 := blk_frozen BK171.out 0
                  have hfz18_1 := blk_frozen BK171.out 1
                  have hfz18_2 := blk_frozen BK171.out 2
                  have hfz18_3 := blk_frozen BK171.out 3
                  have hfz18_4 := blk_frozen BK171.out 4
                  have hfz18_5 := blk_frozen BK171.out 5
                  have hfz18_6 := blk_frozen BK171.out 6
                  have hfz18_7 := blk_frozen BK171.out 7
                  have hfz18_8 := blk_frozen BK171.out 8
                  have hfz18_9 := blk_frozen BK171.out 9
                  have hfz18_10 := blk_frozen BK171.out 10
                  have p172 : 0 ≤ (x3_2 : Int) := of_decide_eq_true (by first | (with_reducible assumption) | assumption)
                  have q172 : x3_2 < (l0_4.length : Int) := of_decide_eq_true (by first | (with_reducible assumption) | assumption)
                  obtain ⟨ad172, e172, hx172_0, hx172_1⟩ := at_T161 HR0_4.out x3_2 p172 q172
                  cases e172
                  replace hx172_0 := (HB.out.cell (World.block_lt_of_cell? w _ hx172_0)).trans hx172_0
                  replace hx172_1 := (HB.out.cell (World.block_lt_of_cell? w _ hx172_1)).trans hx172_1
                  replace p172 := eq_true p172
                  replace q172 := eq_true q172
                  go_wp2
                  go_roundg k2
                  case measure => have := HJ1.out; have := HK2.out; omega
                  case rel => exact ⟨(wrap64 (x3_2 + 1)), (by first | rfl | (simp; done) | (simp [*]; done)), H', ⟨by have := HJ1.out; have := HK2.out; omega⟩, ⟨by (with_reducible repeat (first | refine blk_drewN ?_ _ | refine blk_drew ?_ | refine blk_alloc ?_ _)); exact BK171.out⟩, ⟨by repeat (first | (with_reducible first | exact HB.out | apply below_alloc | apply pw_below_drewN | apply below_drew1 | refine below_set ?_ GE171.out) | exact HB.out)⟩⟩
              · rw [if_neg c15] at H
                exact absurd H (by simp)
            · rw [if_neg c14] at H
              have c14b0 : decide (x3_2 < (l0_4.length : Int)) = false := decide_eq_false c14
              clear c14
              obtain rfl := Option.some.inj H
              have hcz19_0 : wr.cell? ⟨gb171, 0, none⟩ = some (.int .i64 a0_0) := (blk_cell BK171.out 0).trans rfl
              have hcz19_1 : wr.cell? ⟨gb171, 1, none⟩ = some (.int .i64 a0_1) := (blk_cell BK171.out 1).trans rfl
              have hcz19_2 : wr.cell? ⟨gb171, 2, none⟩ = some (.int .i64 a0_2) := (blk_cell BK171.out 2).trans rfl
              have hcz19_3 : wr.cell? ⟨gb171, 3, none⟩ = some (.int .i64 a0_3) := (blk_cell BK171.out 3).trans rfl
              have hcz19_4 : wr.cell? ⟨gb171, 4, none⟩ = some (.slice A0_4 l0_4.length c0_4) := (blk_cell BK171.out 4).trans rfl
              have hcz19_5 : wr.cell? ⟨gb171, 5, none⟩ = some (.int .i64 a0_5) := (blk_cell BK171.out 5).trans rfl
              have hcz19_6 : wr.cell? ⟨gb171, 6, none⟩ = some (.int .i64 a0_6) := (blk_cell BK171.out 6).trans rfl
              have hcz19_7 : wr.cell? ⟨gb171, 7, none⟩ = some (.string a0_7) := (blk_cell BK171.out 7).trans rfl
              have hcz19_8 : wr.cell? ⟨gb171, 8, none⟩ = some (.string a0_8) := (blk_cell BK171.out 8).trans rfl
              have hcz19_9 : wr.cell? ⟨gb171, 9, none⟩ = some (.slice A0_9 l0_9.length c0_9) := (blk_cell BK171.out 9).trans rfl
              have hcz19_10 : wr.cell? ⟨gb171, 10, none⟩ = some (.slice A0_10 l0_10.length c0_10) := (blk_cell BK171.out 10).trans rfl
              have hfz19_0 := blk_frozen BK171.out 0
              have hfz19_1 := blk_frozen BK171.out 1
              have hfz19_2 := blk_frozen BK171.out 2
              have hfz19_3 := blk_frozen BK171.out 3
              have hfz19_4 := blk_frozen BK171.out 4
              have hfz19_5 := blk_frozen BK171.out 5
              have hfz19_6 := blk_frozen BK171.out 6
              have hfz19_7 := blk_frozen BK171.out 7
              have hfz19_8 := blk_frozen BK171.out 8
              have hfz19_9 := blk_frozen BK171.out 9
              have hfz19_10 := blk_frozen BK171.out 10
              go_wp2
              go_ret
              exact ⟨by first | rfl | (simp [errW_none, errW_some] <;> rfl) | (simp [*, errW_none, errW_some] <;> rfl), by repeat (first | (with_reducible first | exact HB.out | apply below_alloc | apply pw_below_drewN | apply below_drew1 | refine below_set ?_ GE171.out) | exact HB.out)⟩

/-! ### gaugerref06_in: function 114 -/
def gaugerref06_in.f (a0 : Int) (a1 : Int) : Option (Bool) := if a0 ≥ 0 then (some (decide (a0 ≤ a1))) else (some false)
set_option maxHeartbeats 8000000 in
set_option maxRecDepth 100000 in
theorem gaugerref06_in.calls (a0 : Int) (a1 : Int) (r : Bool) (w : World) (h : gaugerref06_in.f a0 a1 = some r) :
    Calls Try.prog 114 #[.int .i64 a0, .int .i64 a1] w fun e w' => e = .returned (.bool r) ∧ Drawn0 w w' := by
  have H : (if a0 ≥ 0 then (some (decide (a0 ≤ a1))) else (some false)) = some r := h
  clear h
  by_cases c3 : a0 ≥ 0
  · rw [if_pos c3] at H
    have c3b0 : decide (0 ≤ a0) = true := decide_eq_true c3
    clear c3
    obtain rfl := Option.some.inj H
    go_enter Try.func114, Try.ntmps114
    go_wp2
    go_ret
    exact ⟨by first | rfl | (simp; done) | (simp [*]; done), by repeat (first | exact Drawn0.refl _ | apply Drawn0.step)⟩
  · rw [if_neg c3] at H
    have c3b0 : decide (0 ≤ a0) = false := decide_eq_false c3
    clear c3
    obtain rfl := Option.some.inj H
    go_enter Try.func114, Try.ntmps114
    go_wp2
    go_ret
    exact ⟨by first | rfl | (simp; done) | (simp [*]; done), by repeat (first | exact Drawn0.refl _ | apply Drawn0.step)⟩

end Go.Proofs.Ytcfjooeagfollaa.PDiaryExact
