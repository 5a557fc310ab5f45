-- PRINTED BY print.sh 35421559b90ae4d0a3588c463048766b98c2df88dd9212a6774a882060cdf62d: not written by this session
import Derived.Test.YtcfjooeagfollaaPDiaryExactx0
import Derived.Test.YtcfjooeagfollaaPDiaryExactx1
import Derived.Test.YtcfjooeagfollaaPDiaryExactx2
import Derived.Test.YtcfjooeagfollaaPDiaryExactx3
import Derived.Test.YtcfjooeagfollaaPDiaryExactx4
namespace Go.Proofs.Ytcfjooeagfollaa.PDiaryExact
open Go.RowKit Go.Proofs.YtcfjooeagfollaaW.PrintWords Go.Proofs.YtcfjooeagfollaaW.PrintLast Go.Proofs.YtcfjooeagfollaaW.PrintMore
attribute [local go_sem] max2_int min2_int max_two min_two max_three min_three max_four min_four   -- for this text's walks alone
set_option linter.unusedVariables false
set_option linter.unusedSimpArgs false

attribute [local go_sem high] eqA54 eqA161 eqA163 eqA165
/-! ### gaugerref06_Same: function 31 -/
mutual
def gaugerref06_Same.j0 : Nat → Bool → Int → Int → Int → Int → List (S161) → Int → Int → ByteArray → ByteArray → List (S163) → List (S165) → Int → Int → Int → Int → List (S161) → Int → Int → ByteArray → ByteArray → List (S163) → List (S165) → Option (Bool)
  | 0, _, _, _, _, _, _, _, _, _, _, _, _, _, _, _, _, _, _, _, _, _, _, _ => none
  | k + 1, x67, x129000, x129001, x129002, x129003, x129004, x129005, x129006, x129007, x129008, x129009, x129010, x130000, x130001, x130002, x130003, x130004, x130005, x130006, x130007, x130008, x130009, x130010 => if x67 = true then (some false) else (gaugerref06_Same.l0 k 0 x129000 x129001 x129002 x129003 x129004 x129005 x129006 x129007 x129008 x129009 x129010 x130000 x130001 x130002 x130003 x130004 x130005 x130006 x130007 x130008 x130009 x130010)
def gaugerref06_Same.l0 : Nat → Int → Int → Int → Int → Int → List (S161) → Int → Int → ByteArray → ByteArray → List (S163) → List (S165) → Int → Int → Int → Int → List (S161) → Int → Int → ByteArray → ByteArray → List (S163) → List (S165) → Option (Bool)
  | 0, _, _, _, _, _, _, _, _, _, _, _, _, _, _, _, _, _, _, _, _, _, _, _ => none
  | k + 1, x5, x129000, x129001, x129002, x129003, x129004, x129005, x129006, x129007, x129008, x129009, x129010, x130000, x130001, x130002, x130003, x130004, x130005, x130006, x130007, x130008, x130009, x130010 => if x5 < (x129004.length : Int) then (if 0 ≤ x5 then (if x5 < (x130004.length : Int) then (if (!(((rd_T161 x129004 x5).f0) == ((rd_T161 x130004 x5).f0)) || (!((((rd_T161 x129004 x5).f1).toList) == (((rd_T161 x130004 x5).f1).toList)))) = true then (some false) else (gaugerref06_Same.l0 k (wrap64 (x5 + 1)) x129000 x129001 x129002 x129003 x129004 x129005 x129006 x129007 x129008 x129009 x129010 x130000 x130001 x130002 x130003 x130004 x130005 x130006 x130007 x130008 x130009 x130010)) else (none)) else (none)) else (gaugerref06_Same.l1 k 0 x129000 x129001 x129002 x129003 x129004 x129005 x129006 x129007 x129008 x129009 x129010 x130000 x130001 x130002 x130003 x130004 x130005 x130006 x130007 x130008 x130009 x130010)
def gaugerref06_Same.l1 : Nat → Int → Int → Int → Int → Int → List (S161) → Int → Int → ByteArray → ByteArray → List (S163) → List (S165) → Int → Int → Int → Int → List (S161) → Int → Int → ByteArray → ByteArray → List (S163) → List (S165) → Option (Bool)
  | 0, _, _, _, _, _, _, _, _, _, _, _, _, _, _, _, _, _, _, _, _, _, _, _ => none
  | k + 1, x6, x129000, x129001, x129002, x129003, x129004, x129005, x129006, x129007, x129008, x129009, x129010, x130000, x130001, x130002, x130003, x130004, x130005, x130006, x130007, x130008, x130009, x130010 => if x6 < (x129009.length : Int) then (if 0 ≤ x6 then (if x6 < (x130009.length : Int) then (if (!(((rd_T163 x129009 x6).f0) == ((rd_T163 x130009 x6).f0)) || (!(((rd_T163 x129009 x6).f1) == ((rd_T163 x130009 x6).f1)))) = true then (some false) else (gaugerref06_Same.l1 k (wrap64 (x6 + 1)) x129000 x129001 x129002 x129003 x129004 x129005 x129006 x129007 x129008 x129009 x129010 x130000 x130001 x130002 x130003 x130004 x130005 x130006 x130007 x130008 x130009 x130010)) else (none)) else (none)) else (gaugerref06_Same.l2 k 0 x129000 x129001 x129002 x129003 x129004 x129005 x129006 x129007 x129008 x129009 x129010 x130000 x130001 x130002 x130003 x130004 x130005 x130006 x130007 x130008 x130009 x130010)
def gaugerref06_Same.l2 : Nat → Int → Int → Int → Int → Int → List (S161) → Int → Int → ByteArray → ByteArray → List (S163) → List (S165) → Int → Int → Int → Int → List (S161) → Int → Int → ByteArray → ByteArray → List (S163) → List (S165) → Option (Bool)
  | 0, _, _, _, _, _, _, _, _, _, _, _, _, _, _, _, _, _, _, _, _, _, _, _ => none
  | k + 1, x7, x129000, x129001, x129002, x129003, x129004, x129005, x129006, x129007, x129008, x129009, x129010, x130000, x130001, x130002, x130003, x130004, x130005, x130006, x130007, x130008, x130009, x130010 => if x7 < (x129010.length : Int) then (if 0 ≤ x7 then (if x7 < (x130010.length : Int) then (if (!(((rd_T165 x129010 x7).f0) == ((rd_T165 x130010 x7).f0)) || (!(((rd_T165 x129010 x7).f1) == ((rd_T165 x130010 x7).f1)))) = true then (some false) else (gaugerref06_Same.l2 k (wrap64 (x7 + 1)) x129000 x129001 x129002 x129003 x129004 x129005 x129006 x129007 x129008 x129009 x129010 x130000 x130001 x130002 x130003 x130004 x130005 x130006 x130007 x130008 x130009 x130010)) else (none)) else (none)) else (some true)
end
def gaugerref06_Same.f (k : Nat) (a0_0 : Int) (a0_1 : Int) (a0_2 : Int) (a0_3 : Int) (l0_4 : List (S161)) (a0_5 : Int) (a0_6 : Int) (a0_7 : ByteArray) (a0_8 : ByteArray) (l0_9 : List (S163)) (l0_10 : List (S165)) (a1_0 : Int) (a1_1 : Int) (a1_2 : Int) (a1_3 : Int) (l1_4 : List (S161)) (a1_5 : Int) (a1_6 : Int) (a1_7 : ByteArray) (a1_8 : ByteArray) (l1_9 : List (S163)) (l1_10 : List (S165)) : Option (Bool) := if a0_0 = a1_0 then (if a0_1 = a1_1 then (if a0_2 = a1_2 then (if a0_3 = a1_3 then (if (!(a0_5 == a1_5) || (!(a0_6 == a1_6) || (!(a0_7.toList == a1_7.toList) || (!(a0_8.toList == a1_8.toList))))) = true then (gaugerref06_Same.j0 k true a0_0 a0_1 a0_2 a0_3 l0_4 a0_5 a0_6 a0_7 a0_8 l0_9 l0_10 a1_0 a1_1 a1_2 a1_3 l1_4 a1_5 a1_6 a1_7 a1_8 l1_9 l1_10) else (if (l0_4.length : Int) = (l1_4.length : Int) then (if (l0_9.length : Int) = (l1_9.length : Int) then (gaugerref06_Same.j0 k ((l0_10.length : Int) != (l1_10.length : Int)) a0_0 a0_1 a0_2 a0_3 l0_4 a0_5 a0_6 a0_7 a0_8 l0_9 l0_10 a1_0 a1_1 a1_2 a1_3 l1_4 a1_5 a1_6 a1_7 a1_8 l1_9 l1_10) else (gaugerref06_Same.j0 k true a0_0 a0_1 a0_2 a0_3 l0_4 a0_5 a0_6 a0_7 a0_8 l0_9 l0_10 a1_0 a1_1 a1_2 a1_3 l1_4 a1_5 a1_6 a1_7 a1_8 l1_9 l1_10)) else (gaugerref06_Same.j0 k true a0_0 a0_1 a0_2 a0_3 l0_4 a0_5 a0_6 a0_7 a0_8 l0_9 l0_10 a1_0 a1_1 a1_2 a1_3 l1_4 a1_5 a1_6 a1_7 a1_8 l1_9 l1_10))) else (gaugerref06_Same.j0 k true a0_0 a0_1 a0_2 a0_3 l0_4 a0_5 a0_6 a0_7 a0_8 l0_9 l0_10 a1_0 a1_1 a1_2 a1_3 l1_4 a1_5 a1_6 a1_7 a1_8 l1_9 l1_10)) else (gaugerref06_Same.j0 k true a0_0 a0_1 a0_2 a0_3 l0_4 a0_5 a0_6 a0_7 a0_8 l0_9 l0_10 a1_0 a1_1 a1_2 a1_3 l1_4 a1_5 a1_6 a1_7 a1_8 l1_9 l1_10)) else (gaugerref06_Same.j0 k true a0_0 a0_1 a0_2 a0_3 l0_4 a0_5 a0_6 a0_7 a0_8 l0_9 l0_10 a1_0 a1_1 a1_2 a1_3 l1_4 a1_5 a1_6 a1_7 a1_8 l1_9 l1_10)) else (gaugerref06_Same.j0 k true a0_0 a0_1 a0_2 a0_3 l0_4 a0_5 a0_6 a0_7 a0_8 l0_9 l0_10 a1_0 a1_1 a1_2 a1_3 l1_4 a1_5 a1_6 a1_7 a1_8 l1_9 l1_10)
theorem gaugerref06_Same.mono_l : ∀ k, (∀ y0 y1 y2 y3 y4 y5 y6 y7 y8 y9 y10 y11 y12 y13 y14 y15 y16 y17 y18 y19 y20 y21 y22, LeO (gaugerref06_Same.j0 k y0 y1 y2 y3 y4 y5 y6 y7 y8 y9 y10 y11 y12 y13 y14 y15 y16 y17 y18 y19 y20 y21 y22) (gaugerref06_Same.j0 (k + 1) y0 y1 y2 y3 y4 y5 y6 y7 y8 y9 y10 y11 y12 y13 y14 y15 y16 y17 y18 y19 y20 y21 y22)) ∧ (∀ y0 y1 y2 y3 y4 y5 y6 y7 y8 y9 y10 y11 y12 y13 y14 y15 y16 y17 y18 y19 y20 y21 y22, LeO (gaugerref06_Same.l0 k y0 y1 y2 y3 y4 y5 y6 y7 y8 y9 y10 y11 y12 y13 y14 y15 y16 y17 y18 y19 y20 y21 y22) (gaugerref06_Same.l0 (k + 1) y0 y1 y2 y3 y4 y5 y6 y7 y8 y9 y10 y11 y12 y13 y14 y15 y16 y17 y18 y19 y20 y21 y22)) ∧ (∀ y0 y1 y2 y3 y4 y5 y6 y7 y8 y9 y10 y11 y12 y13 y14 y15 y16 y17 y18 y19 y20 y21 y22, LeO (gaugerref06_Same.l1 k y0 y1 y2 y3 y4 y5 y6 y7 y8 y9 y10 y11 y12 y13 y14 y15 y16 y17 y18 y19 y20 y21 y22) (gaugerref06_Same.l1 (k + 1) y0 y1 y2 y3 y4 y5 y6 y7 y8 y9 y10 y11 y12 y13 y14 y15 y16 y17 y18 y19 y20 y21 y22)) ∧ (∀ y0 y1 y2 y3 y4 y5 y6 y7 y8 y9 y10 y11 y12 y13 y14 y15 y16 y17 y18 y19 y20 y21 y22, LeO (gaugerref06_Same.l2 k y0 y1 y2 y3 y4 y5 y6 y7 y8 y9 y10 y11 y12 y13 y14 y15 y16 y17 y18 y19 y20 y21 y22) (gaugerref06_Same.l2 (k + 1) y0 y1 y2 y3 y4 y5 y6 y7 y8 y9 y10 y11 y12 y13 y14 y15 y16 y17 y18 y19 y20 y21 y22))
  | 0 => ⟨fun _ _ _ _ _ _ _ _ _ _ _ _ _ _ _ _ _ _ _ _ _ _ _ r h => by simp [gaugerref06_Same.j0] at h, fun _ _ _ _ _ _ _ _ _ _ _ _ _ _ _ _ _ _ _ _ _ _ _ r h => by simp [gaugerref06_Same.l0] at h, fun _ _ _ _ _ _ _ _ _ _ _ _ _ _ _ _ _ _ _ _ _ _ _ r h => by simp [gaugerref06_Same.l1] at h, fun _ _ _ _ _ _ _ _ _ _ _ _ _ _ _ _ _ _ _ _ _ _ _ r h => by simp [gaugerref06_Same.l2] at h⟩
  | k + 1 => by
    obtain ⟨ih0, ih1, ih2, ih3⟩ := gaugerref06_Same.mono_l k
    refine ⟨?_, ?_, ?_, ?_⟩
    · intro y0 y1 y2 y3 y4 y5 y6 y7 y8 y9 y10 y11 y12 y13 y14 y15 y16 y17 y18 y19 y20 y21 y22
      unfold gaugerref06_Same.j0
      repeat' first
      | (with_reducible exact ih0 _ _ _ _ _ _ _ _ _ _ _ _ _ _ _ _ _ _ _ _ _ _ _)
      | (with_reducible exact ih1 _ _ _ _ _ _ _ _ _ _ _ _ _ _ _ _ _ _ _ _ _ _ _)
      | (with_reducible exact ih2 _ _ _ _ _ _ _ _ _ _ _ _ _ _ _ _ _ _ _ _ _ _ _)
      | (with_reducible exact ih3 _ _ _ _ _ _ _ _ _ _ _ _ _ _ _ _ _ _ _ _ _ _ _)
      | (with_reducible exact LeO.refl _)
      | (with_reducible exact LeO.none _)
      | (with_reducible refine LeO.ite ?_ ?_)
      | (with_reducible refine LeO.bind ?_ (fun _ => ?_))
      | exact ih0 _ _ _ _ _ _ _ _ _ _ _ _ _ _ _ _ _ _ _ _ _ _ _
      | exact ih1 _ _ _ _ _ _ _ _ _ _ _ _ _ _ _ _ _ _ _ _ _ _ _
      | exact ih2 _ _ _ _ _ _ _ _ _ _ _ _ _ _ _ _ _ _ _ _ _ _ _
      | exact ih3 _ _ _ _ _ _ _ _ _ _ _ _ _ _ _ _ _ _ _ _ _ _ _
      | exact LeO.none _
      | refine LeO.ite ?_ ?_
      | refine LeO.bind ?_ (fun _ => ?_)
    · intro y0 y1 y2 y3 y4 y5 y6 y7 y8 y9 y10 y11 y12 y13 y14 y15 y16 y17 y18 y19 y20 y21 y22
      unfold gaugerref06_Same.l0
      repeat' first
      | (with_reducible exact ih0 _ _ _ _ _ _ _ _ _ _ _ _ _ _ _ _ _ _ _ _ _ _ _)
      | (with_reducible exact ih1 _ _ _ _ _ _ _ _ _ _ _ _ _ _ _ _ _ _ _ _ _ _ _)
      | (with_reducible exact ih2 _ _ _ _ _ _ _ _ _ _ _ _ _ _ _ _ _ _ _ _ _ _ _)
      | (with_reducible exact ih3 _ _ _ _ _ _ _ _ _ _ _ _ _ _ _ _ _ _ _ _ _ _ _)
      | (with_reducible exact LeO.refl _)
      | (with_reducible exact LeO.none _)
      | (with_reducible refine LeO.ite ?_ ?_)
      | (with_reducible refine LeO.bind ?_ (fun _ => ?_))
      | exact ih0 _ _ _ _ _ _ _ _ _ _ _ _ _ _ _ _ _ _ _ _ _ _ _
      | exact ih1 _ _ _ _ _ _ _ _ _ _ _ _ _ _ _ _ _ _ _ _ _ _ _
      | exact ih2 _ _ _ _ _ _ _ _ _ _ _ _ _ _ _ _ _ _ _ _ _ _ _
      | exact ih3 _ _ _ _ _ _ _ _ _ _ _ _ _ _ _ _ _ _ _ _ _ _ _
      | exact LeO.none _
      | refine LeO.ite ?_ ?_
      | refine LeO.bind ?_ (fun _ => ?_)
    · intro y0 y1 y2 y3 y4 y5 y6 y7 y8 y9 y10 y11 y12 y13 y14 y15 y16 y17 y18 y19 y20 y21 y22
      unfold gaugerref06_Same.l1
      repeat' first
      | (with_reducible exact ih0 _ _ _ _ _ _ _ _ _ _ _ _ _ _ _ _ _ _ _ _ _ _ _)
      | (with_reducible exact ih1 _ _ _ _ _ _ _ _ _ _ _ _ _ _ _ _ _ _ _ _ _ _ _)
      | (with_reducible exact ih2 _ _ _ _ _ _ _ _ _ _ _ _ _ _ _ _ _ _ _ _ _ _ _)
      | (with_reducible exact ih3 _ _ _ _ _ _ _ _ _ _ _ _ _ _ _ _ _ _ _ _ _ _ _)
      | (with_reducible exact LeO.refl _)
      | (with_reducible exact LeO.none _)
      | (with_reducible refine LeO.ite ?_ ?_)
      | (with_reducible refine LeO.bind ?_ (fun _ => ?_))
      | exact ih0 _ _ _ _ _ _ _ _ _ _ _ _ _ _ _ _ _ _ _ _ _ _ _
      | exact ih1 _ _ _ _ _ _ _ _ _ _ _ _ _ _ _ _ _ _ _ _ _ _ _
      | exact ih2 _ _ _ _ _ _ _ _ _ _ _ _ _ _ _ _ _ _ _ _ _ _ _
      | exact ih3 _ _ _ _ _ _ _ _ _ _ _ _ _ _ _ _ _ _ _ _ _ _ _
      | exact LeO.none _
      | refine LeO.ite ?_ ?_
      | refine LeO.bind ?_ (fun _ => ?_)
    · intro y0 y1 y2 y3 y4 y5 y6 y7 y8 y9 y10 y11 y12 y13 y14 y15 y16 y17 y18 y19 y20 y21 y22
      unfold gaugerref06_Same.l2
      repeat' first
      | (with_reducible exact ih0 _ _ _ _ _ _ _ _ _ _ _ _ _ _ _ _ _ _ _ _ _ _ _)
      | (with_reducible exact ih1 _ _ _ _ _ _ _ _ _ _ _ _ _ _ _ _ _ _ _ _ _ _ _)
      | (with_reducible exact ih2 _ _ _ _ _ _ _ _ _ _ _ _ _ _ _ _ _ _ _ _ _ _ _)
      | (with_reducible exact ih3 _ _ _ _ _ _ _ _ _ _ _ _ _ _ _ _ _ _ _ _ _ _ _)
      | (with_reducible exact LeO.refl _)
      | (with_reducible exact LeO.none _)
      | (with_reducible refine LeO.ite ?_ ?_)
      | (with_reducible refine LeO.bind ?_ (fun _ => ?_))
      | exact ih0 _ _ _ _ _ _ _ _ _ _ _ _ _ _ _ _ _ _ _ _ _ _ _
      | exact ih1 _ _ _ _ _ _ _ _ _ _ _ _ _ _ _ _ _ _ _ _ _ _ _
      | exact ih2 _ _ _ _ _ _ _ _ _ _ _ _ _ _ _ _ _ _ _ _ _ _ _
      | exact ih3 _ _ _ _ _ _ _ _ _ _ _ _ _ _ _ _ _ _ _ _ _ _ _
      | exact LeO.none _
      | refine LeO.ite ?_ ?_
      | refine LeO.bind ?_ (fun _ => ?_)
theorem gaugerref06_Same.mono : ∀ a0 a1 a2 a3 a4 a5 a6 a7 a8 a9 a10 a11 a12 a13 a14 a15 a16 a17 a18 a19 a20 a21 k, LeO (gaugerref06_Same.f k a0 a1 a2 a3 a4 a5 a6 a7 a8 a9 a10 a11 a12 a13 a14 a15 a16 a17 a18 a19 a20 a21) (gaugerref06_Same.f (k + 1) a0 a1 a2 a3 a4 a5 a6 a7 a8 a9 a10 a11 a12 a13 a14 a15 a16 a17 a18 a19 a20 a21) := by
  intro a0 a1 a2 a3 a4 a5 a6 a7 a8 a9 a10 a11 a12 a13 a14 a15 a16 a17 a18 a19 a20 a21 k
  obtain ⟨ih0, ih1, ih2, ih3⟩ := gaugerref06_Same.mono_l k
  unfold gaugerref06_Same.f
  repeat' first
      | (with_reducible exact ih0 _ _ _ _ _ _ _ _ _ _ _ _ _ _ _ _ _ _ _ _ _ _ _)
      | (with_reducible exact ih1 _ _ _ _ _ _ _ _ _ _ _ _ _ _ _ _ _ _ _ _ _ _ _)
      | (with_reducible exact ih2 _ _ _ _ _ _ _ _ _ _ _ _ _ _ _ _ _ _ _ _ _ _ _)
      | (with_reducible exact ih3 _ _ _ _ _ _ _ _ _ _ _ _ _ _ _ _ _ _ _ _ _ _ _)
      | (with_reducible exact LeO.refl _)
      | (with_reducible exact LeO.none _)
      | (with_reducible refine LeO.ite ?_ ?_)
      | (with_reducible refine LeO.bind ?_ (fun _ => ?_))
      | exact ih0 _ _ _ _ _ _ _ _ _ _ _ _ _ _ _ _ _ _ _ _ _ _ _
      | exact ih1 _ _ _ _ _ _ _ _ _ _ _ _ _ _ _ _ _ _ _ _ _ _ _
      | exact ih2 _ _ _ _ _ _ _ _ _ _ _ _ _ _ _ _ _ _ _ _ _ _ _
      | exact ih3 _ _ _ _ _ _ _ _ _ _ _ _ _ _ _ _ _ _ _ _ _ _ _
      | exact LeO.none _
      | refine LeO.ite ?_ ?_
      | refine LeO.bind ?_ (fun _ => ?_)
set_option maxHeartbeats 8000000 in
set_option maxRecDepth 100000 in
theorem gaugerref06_Same.calls (k : Nat) (a0_0 : Int) (a0_1 : Int) (a0_2 : Int) (a0_3 : Int) (A0_4 : Option Addr) (c0_4 : Nat) (l0_4 : List (S161)) (a0_5 : Int) (a0_6 : Int) (a0_7 : ByteArray) (a0_8 : ByteArray) (A0_9 : Option Addr) (c0_9 : Nat) (l0_9 : List (S163)) (A0_10 : Option Addr) (c0_10 : Nat) (l0_10 : List (S165)) (a1_0 : Int) (a1_1 : Int) (a1_2 : Int) (a1_3 : Int) (A1_4 : Option Addr) (c1_4 : Nat) (l1_4 : List (S161)) (a1_5 : Int) (a1_6 : Int) (a1_7 : ByteArray) (a1_8 : ByteArray) (A1_9 : Option Addr) (c1_9 : Nat) (l1_9 : List (S163)) (A1_10 : Option Addr) (c1_10 : Nat) (l1_10 : List (S165)) (r : Bool) (w : World) (hr0_4 : Kd.C k161 w A0_4 l0_4.length l0_4) (hc0_4 : l0_4.length ≤ c0_4) (hr0_9 : Kd.C k163 w A0_9 l0_9.length l0_9) (hc0_9 : l0_9.length ≤ c0_9) (hr0_10 : Kd.C k165 w A0_10 l0_10.length l0_10) (hc0_10 : l0_10.length ≤ c0_10) (hr1_4 : Kd.C k161 w A1_4 l1_4.length l1_4) (hc1_4 : l1_4.length ≤ c1_4) (hr1_9 : Kd.C k163 w A1_9 l1_9.length l1_9) (hc1_9 : l1_9.length ≤ c1_9) (hr1_10 : Kd.C k165 w A1_10 l1_10.length l1_10) (hc1_10 : l1_10.length ≤ c1_10) (h : gaugerref06_Same.f k a0_0 a0_1 a0_2 a0_3 l0_4 a0_5 a0_6 a0_7 a0_8 l0_9 l0_10 a1_0 a1_1 a1_2 a1_3 l1_4 a1_5 a1_6 a1_7 a1_8 l1_9 l1_10 = some r) :
    Calls Try.prog 31 #[.agg #[.int .i64 a0_0, .int .i64 a0_1, .int .i64 a0_2, .int .i64 a0_3, .slice A0_4 l0_4.length c0_4, .int .i64 a0_5, .int .i64 a0_6, .string a0_7, .string a0_8, .slice A0_9 l0_9.length c0_9, .slice A0_10 l0_10.length c0_10], .agg #[.int .i64 a1_0, .int .i64 a1_1, .int .i64 a1_2, .int .i64 a1_3, .slice A1_4 l1_4.length c1_4, .int .i64 a1_5, .int .i64 a1_6, .string a1_7, .string a1_8, .slice A1_9 l1_9.length c1_9, .slice A1_10 l1_10.length c1_10]] w fun e w' => e = .returned (.bool r) ∧ Below w.heap.size w w' := by
  have hu58 := Try.underlying58
  have hu54 := Try.underlying54
  have hu161 := Try.underlying161
  have hu163 := Try.underlying163
  have hu165 := Try.underlying165
  have HR0_4 := Aside0.mk hr0_4
  have HC0_4 := Aside0.mk hc0_4
  clear hr0_4 hc0_4
  have HR0_9 := Aside0.mk hr0_9
  have HC0_9 := Aside0.mk hc0_9
  clear hr0_9 hc0_9
  have HR0_10 := Aside0.mk hr0_10
  have HC0_10 := Aside0.mk hc0_10
  clear hr0_10 hc0_10
  have HR1_4 := Aside0.mk hr1_4
  have HC1_4 := Aside0.mk hc1_4
  clear hr1_4 hc1_4
  have HR1_9 := Aside0.mk hr1_9
  have HC1_9 := Aside0.mk hc1_9
  clear hr1_9 hc1_9
  have HR1_10 := Aside0.mk hr1_10
  have HC1_10 := Aside0.mk hc1_10
  clear hr1_10 hc1_10
  have HB := Aside0.mk (Below.refl w.heap.size w)
  have H : (if a0_0 = a1_0 then (if a0_1 = a1_1 then (if a0_2 = a1_2 then (if a0_3 = a1_3 then (if (!(a0_5 == a1_5) || (!(a0_6 == a1_6) || (!(a0_7.toList == a1_7.toList) || (!(a0_8.toList == a1_8.toList))))) = true then (gaugerref06_Same.j0 k true a0_0 a0_1 a0_2 a0_3 l0_4 a0_5 a0_6 a0_7 a0_8 l0_9 l0_10 a1_0 a1_1 a1_2 a1_3 l1_4 a1_5 a1_6 a1_7 a1_8 l1_9 l1_10) else (if (l0_4.length : Int) = (l1_4.length : Int) then (if (l0_9.length : Int) = (l1_9.length : Int) then (gaugerref06_Same.j0 k ((l0_10.length : Int) != (l1_10.length : Int)) a0_0 a0_1 a0_2 a0_3 l0_4 a0_5 a0_6 a0_7 a0_8 l0_9 l0_10 a1_0 a1_1 a1_2 a1_3 l1_4 a1_5 a1_6 a1_7 a1_8 l1_9 l1_10) else (gaugerref06_Same.j0 k true a0_0 a0_1 a0_2 a0_3 l0_4 a0_5 a0_6 a0_7 a0_8 l0_9 l0_10 a1_0 a1_1 a1_2 a1_3 l1_4 a1_5 a1_6 a1_7 a1_8 l1_9 l1_10)) else (gaugerref06_Same.j0 k true a0_0 a0_1 a0_2 a0_3 l0_4 a0_5 a0_6 a0_7 a0_8 l0_9 l0_10 a1_0 a1_1 a1_2 a1_3 l1_4 a1_5 a1_6 a1_7 a1_8 l1_9 l1_10))) else (gaugerref06_Same.j0 k true a0_0 a0_1 a0_2 a0_3 l0_4 a0_5 a0_6 a0_7 a0_8 l0_9 l0_10 a1_0 a1_1 a1_2 a1_3 l1_4 a1_5 a1_6 a1_7 a1_8 l1_9 l1_10)) else (gaugerref06_Same.j0 k true a0_0 a0_1 a0_2 a0_3 l0_4 a0_5 a0_6 a0_7 a0_8 l0_9 l0_10 a1_0 a1_1 a1_2 a1_3 l1_4 a1_5 a1_6 a1_7 a1_8 l1_9 l1_10)) else (gaugerref06_Same.j0 k true a0_0 a0_1 a0_2 a0_3 l0_4 a0_5 a0_6 a0_7 a0_8 l0_9 l0_10 a1_0 a1_1 a1_2 a1_3 l1_4 a1_5 a1_6 a1_7 a1_8 l1_9 l1_10)) else (gaugerref06_Same.j0 k true a0_0 a0_1 a0_2 a0_3 l0_4 a0_5 a0_6 a0_7 a0_8 l0_9 l0_10 a1_0 a1_1 a1_2 a1_3 l1_4 a1_5 a1_6 a1_7 a1_8 l1_9 l1_10)) = some r := h
  clear h
  have HC3 := Aside0.mk H
  clear H
  go_enter Try.func31, Try.ntmps31
  go_upto_region 1 with (first | ((with_reducible refine gate_dst (N := 2) rfl ?_); (try (refine gate_guard (by rfl) ?_; dsimp only)); refine box_event ?hg (N := 2) ?hd (cs := #[.int .i64 a0_0, .int .i64 a0_1, .int .i64 a0_2, .int .i64 a0_3, .slice A0_4 l0_4.length c0_4, .int .i64 a0_5, .int .i64 a0_6, .string a0_7, .string a0_8, .slice A0_9 l0_9.length c0_9, .slice A0_10 l0_10.length c0_10]) (t := 58) ?hr ?_; (case hd => rfl); (case hg => rfl); (case hr => first | (go_simp; done) | (go_simp; rfl)); intro gb128 hg w4 hbox hb; have n0_ := Aside0.mk (below_step (by repeat (first | (with_reducible first | exact HB.out | apply below_alloc | apply pw_below_drewN | apply below_drew1) | exact HB.out)) hb); have n1_ := Aside0.mk (hbox); have n2_ := Aside0.mk ((by rw [hg]; exact (below_size (by repeat (first | (with_reducible first | exact HB.out | apply below_alloc | apply pw_below_drewN | apply below_drew1) | exact HB.out))) : w.heap.size ≤ gb128)); have n3_ := Aside0.mk ((by rw [hg]; exact (below_size (by repeat (first | (with_reducible first | exact HB.out | apply below_alloc | apply pw_below_drewN | apply below_drew1) | exact HB.out))) : w.heap.size ≤ gb128)); clear HB; have HB := n0_; have BK128 := n1_; have GW128 := n2_; have GE128 := n3_; clear n0_ n1_ n2_ n3_; clear hb hbox hg) | ((with_reducible refine gate_dst (N := 3) rfl ?_); (try (refine gate_guard (by rfl) ?_; dsimp only)); refine box_event ?hg (N := 3) ?hd (cs := #[.int .i64 a1_0, .int .i64 a1_1, .int .i64 a1_2, .int .i64 a1_3, .slice A1_4 l1_4.length c1_4, .int .i64 a1_5, .int .i64 a1_6, .string a1_7, .string a1_8, .slice A1_9 l1_9.length c1_9, .slice A1_10 l1_10.length c1_10]) (t := 58) ?hr ?_; (case hd => rfl); (case hg => rfl); (case hr => first | (go_simp; done) | (go_simp; rfl)); intro gb129 hg w5 hbox hb; have n0_ := Aside0.mk (blk_below (g := gb128) (o := .cells #[.int .i64 a0_0, .int .i64 a0_1, .int .i64 a0_2, .int .i64 a0_3, .slice A0_4 l0_4.length c0_4, .int .i64 a0_5, .int .i64 a0_6, .string a0_7, .string a0_8, .slice A0_9 l0_9.length c0_9, .slice A0_10 l0_10.length c0_10] 58 (0, 0)) (by (with_reducible repeat (first | refine blk_drewN ?_ _ | refine blk_drew ?_ | refine blk_alloc ?_ _)); exact BK128.out) hb); have n1_ := Aside0.mk (below_step (by repeat (first | (with_reducible first | exact HB.out | apply below_alloc | apply pw_below_drewN | apply below_drew1 | refine below_set ?_ GE128.out) | exact HB.out)) hb); have n2_ := Aside0.mk (hbox); have n3_ := Aside0.mk ((by rw [hg]; exact (below_size (by repeat (first | (with_reducible first | exact HB.out | apply below_alloc | apply pw_below_drewN | apply below_drew1 | refine below_set ?_ GE128.out) | exact HB.out))) : w.heap.size ≤ gb129)); have n4_ := Aside0.mk ((by rw [hg]; exact (below_size (by repeat (first | (with_reducible first | exact HB.out | apply below_alloc | apply pw_below_drewN | apply below_drew1 | refine below_set ?_ GE128.out) | exact HB.out))) : w.heap.size ≤ gb129)); have n5_ := Aside0.mk ((by rw [hg]; exact Nat.ne_of_lt (blk_lt (g := gb128) (o := .cells #[.int .i64 a0_0, .int .i64 a0_1, .int .i64 a0_2, .int .i64 a0_3, .slice A0_4 l0_4.length c0_4, .int .i64 a0_5, .int .i64 a0_6, .string a0_7, .string a0_8, .slice A0_9 l0_9.length c0_9, .slice A0_10 l0_10.length c0_10] 58 (0, 0)) (by (with_reducible repeat (first | refine blk_drewN ?_ _ | refine blk_drew ?_ | refine blk_alloc ?_ _)); exact BK128.out)) : gb128 ≠ gb129)); have n6_ := Aside0.mk ((by rw [hg]; exact Nat.ne_of_gt (blk_lt (g := gb128) (o := .cells #[.int .i64 a0_0, .int .i64 a0_1, .int .i64 a0_2, .int .i64 a0_3, .slice A0_4 l0_4.length c0_4, .int .i64 a0_5, .int .i64 a0_6, .string a0_7, .string a0_8, .slice A0_9 l0_9.length c0_9, .slice A0_10 l0_10.length c0_10] 58 (0, 0)) (by (with_reducible repeat (first | refine blk_drewN ?_ _ | refine blk_drew ?_ | refine blk_alloc ?_ _)); exact BK128.out)) : gb129 ≠ gb128)); clear BK128; clear HB; have BK128 := n0_; have HB := n1_; have BK129 := n2_; have GW129 := n3_; have GE129 := n4_; have NB128_129 := n5_; have NB129_128 := n6_; clear n0_ n1_ n2_ n3_ n4_ n5_ n6_; clear hb hbox hg))
  repeat (go_quiet (first | ((with_reducible refine gate_dst (N := 2) rfl ?_); (try (refine gate_guard (by rfl) ?_; dsimp only)); refine box_event ?hg (N := 2) ?hd (cs := #[.int .i64 a0_0, .int .i64 a0_1, .int .i64 a0_2, .int .i64 a0_3, .slice A0_4 l0_4.length c0_4, .int .i64 a0_5, .int .i64 a0_6, .string a0_7, .string a0_8, .slice A0_9 l0_9.length c0_9, .slice A0_10 l0_10.length c0_10]) (t := 58) ?hr ?_; (case hd => rfl); (case hg => rfl); (case hr => first | (go_simp; done) | (go_simp; rfl)); intro gb128 hg w4 hbox hb; have n0_ := Aside0.mk (below_step (by repeat (first | (with_reducible first | exact HB.out | apply below_alloc | apply pw_below_drewN | apply below_drew1) | exact HB.out)) hb); have n1_ := Aside0.mk (hbox); have n2_ := Aside0.mk ((by rw [hg]; exact (below_size (by repeat (first | (with_reducible first | exact HB.out | apply below_alloc | apply pw_below_drewN | apply below_drew1) | exact HB.out))) : w.heap.size ≤ gb128)); have n3_ := Aside0.mk ((by rw [hg]; exact (below_size (by repeat (first | (with_reducible first | exact HB.out | apply below_alloc | apply pw_below_drewN | apply below_drew1) | exact HB.out))) : w.heap.size ≤ gb128)); clear HB; have HB := n0_; have BK128 := n1_; have GW128 := n2_; have GE128 := n3_; clear n0_ n1_ n2_ n3_; clear hb hbox hg) | ((with_reducible refine gate_dst (N := 3) rfl ?_); (try (refine gate_guard (by rfl) ?_; dsimp only)); refine box_event ?hg (N := 3) ?hd (cs := #[.int .i64 a1_0, .int .i64 a1_1, .int .i64 a1_2, .int .i64 a1_3, .slice A1_4 l1_4.length c1_4, .int .i64 a1_5, .int .i64 a1_6, .string a1_7, .string a1_8, .slice A1_9 l1_9.length c1_9, .slice A1_10 l1_10.length c1_10]) (t := 58) ?hr ?_; (case hd => rfl); (case hg => rfl); (case hr => first | (go_simp; done) | (go_simp; rfl)); intro gb129 hg w5 hbox hb; have n0_ := Aside0.mk (blk_below (g := gb128) (o := .cells #[.int .i64 a0_0, .int .i64 a0_1, .int .i64 a0_2, .int .i64 a0_3, .slice A0_4 l0_4.length c0_4, .int .i64 a0_5, .int .i64 a0_6, .string a0_7, .string a0_8, .slice A0_9 l0_9.length c0_9, .slice A0_10 l0_10.length c0_10] 58 (0, 0)) (by (with_reducible repeat (first | refine blk_drewN ?_ _ | refine blk_drew ?_ | refine blk_alloc ?_ _)); exact BK128.out) hb); have n1_ := Aside0.mk (below_step (by repeat (first | (with_reducible first | exact HB.out | apply below_alloc | apply pw_below_drewN | apply below_drew1 | refine below_set ?_ GE128.out) | exact HB.out)) hb); have n2_ := Aside0.mk (hbox); have n3_ := Aside0.mk ((by rw [hg]; exact (below_size (by repeat (first | (with_reducible first | exact HB.out | apply below_alloc | apply pw_below_drewN | apply below_drew1 | refine below_set ?_ GE128.out) | exact HB.out))) : w.heap.size ≤ gb129)); have n4_ := Aside0.mk ((by rw [hg]; exact (below_size (by repeat (first | (with_reducible first | exact HB.out | apply below_alloc | apply pw_below_drewN | apply below_drew1 | refine below_set ?_ GE128.out) | exact HB.out))) : w.heap.size ≤ gb129)); have n5_ := Aside0.mk ((by rw [hg]; exact Nat.ne_of_lt (blk_lt (g := gb128) (o := .cells #[.int .i64 a0_0, .int .i64 a0_1, .int .i64 a0_2, .int .i64 a0_3, .slice A0_4 l0_4.length c0_4, .int .i64 a0_5, .int .i64 a0_6, .string a0_7, .string a0_8, .slice A0_9 l0_9.length c0_9, .slice A0_10 l0_10.length c0_10] 58 (0, 0)) (by (with_reducible repeat (first | refine blk_drewN ?_ _ | refine blk_drew ?_ | refine blk_alloc ?_ _)); exact BK128.out)) : gb128 ≠ gb129)); have n6_ := Aside0.mk ((by rw [hg]; exact Nat.ne_of_gt (blk_lt (g := gb128) (o := .cells #[.int .i64 a0_0, .int .i64 a0_1, .int .i64 a0_2, .int .i64 a0_3, .slice A0_4 l0_4.length c0_4, .int .i64 a0_5, .int .i64 a0_6, .string a0_7, .string a0_8, .slice A0_9 l0_9.length c0_9, .slice A0_10 l0_10.length c0_10] 58 (0, 0)) (by (with_reducible repeat (first | refine blk_drewN ?_ _ | refine blk_drew ?_ | refine blk_alloc ?_ _)); exact BK128.out)) : gb129 ≠ gb128)); clear BK128; clear HB; have BK128 := n0_; have HB := n1_; have BK129 := n2_; have GW129 := n3_; have GE129 := n4_; have NB128_129 := n5_; have NB129_128 := n6_; clear n0_ n1_ n2_ n3_ n4_ n5_ n6_; clear hb hbox hg)); go_upto_region 1 with (first | ((with_reducible refine gate_dst (N := 2) rfl ?_); (try (refine gate_guard (by rfl) ?_; dsimp only)); refine box_event ?hg (N := 2) ?hd (cs := #[.int .i64 a0_0, .int .i64 a0_1, .int .i64 a0_2, .int .i64 a0_3, .slice A0_4 l0_4.length c0_4, .int .i64 a0_5, .int .i64 a0_6, .string a0_7, .string a0_8, .slice A0_9 l0_9.length c0_9, .slice A0_10 l0_10.length c0_10]) (t := 58) ?hr ?_; (case hd => rfl); (case hg => rfl); (case hr => first | (go_simp; done) | (go_simp; rfl)); intro gb128 hg w4 hbox hb; have n0_ := Aside0.mk (below_step (by repeat (first | (with_reducible first | exact HB.out | apply below_alloc | apply pw_below_drewN | apply below_drew1) | exact HB.out)) hb); have n1_ := Aside0.mk (hbox); have n2_ := Aside0.mk ((by rw [hg]; exact (below_size (by repeat (first | (with_reducible first | exact HB.out | apply below_alloc | apply pw_below_drewN | apply below_drew1) | exact HB.out))) : w.heap.size ≤ gb128)); have n3_ := Aside0.mk ((by rw [hg]; exact (below_size (by repeat (first | (with_reducible first | exact HB.out | apply below_alloc | apply pw_below_drewN | apply below_drew1) | exact HB.out))) : w.heap.size ≤ gb128)); clear HB; have HB := n0_; have BK128 := n1_; have GW128 := n2_; have GE128 := n3_; clear n0_ n1_ n2_ n3_; clear hb hbox hg) | ((with_reducible refine gate_dst (N := 3) rfl ?_); (try (refine gate_guard (by rfl) ?_; dsimp only)); refine box_event ?hg (N := 3) ?hd (cs := #[.int .i64 a1_0, .int .i64 a1_1, .int .i64 a1_2, .int .i64 a1_3, .slice A1_4 l1_4.length c1_4, .int .i64 a1_5, .int .i64 a1_6, .string a1_7, .string a1_8, .slice A1_9 l1_9.length c1_9, .slice A1_10 l1_10.length c1_10]) (t := 58) ?hr ?_; (case hd => rfl); (case hg => rfl); (case hr => first | (go_simp; done) | (go_simp; rfl)); intro gb129 hg w5 hbox hb; have n0_ := Aside0.mk (blk_below (g := gb128) (o := .cells #[.int .i64 a0_0, .int .i64 a0_1, .int .i64 a0_2, .int .i64 a0_3, .slice A0_4 l0_4.length c0_4, .int .i64 a0_5, .int .i64 a0_6, .string a0_7, .string a0_8, .slice A0_9 l0_9.length c0_9, .slice A0_10 l0_10.length c0_10] 58 (0, 0)) (by (with_reducible repeat (first | refine blk_drewN ?_ _ | refine blk_drew ?_ | refine blk_alloc ?_ _)); exact BK128.out) hb); have n1_ := Aside0.mk (below_step (by repeat (first | (with_reducible first | exact HB.out | apply below_alloc | apply pw_below_drewN | apply below_drew1 | refine below_set ?_ GE128.out) | exact HB.out)) hb); have n2_ := Aside0.mk (hbox); have n3_ := Aside0.mk ((by rw [hg]; exact (below_size (by repeat (first | (with_reducible first | exact HB.out | apply below_alloc | apply pw_below_drewN | apply below_drew1 | refine below_set ?_ GE128.out) | exact HB.out))) : w.heap.size ≤ gb129)); have n4_ := Aside0.mk ((by rw [hg]; exact (below_size (by repeat (first | (with_reducible first | exact HB.out | apply below_alloc | apply pw_below_drewN | apply below_drew1 | refine below_set ?_ GE128.out) | exact HB.out))) : w.heap.size ≤ gb129)); have n5_ := Aside0.mk ((by rw [hg]; exact Nat.ne_of_lt (blk_lt (g := gb128) (o := .cells #[.int .i64 a0_0, .int .i64 a0_1, .int .i64 a0_2, .int .i64 a0_3, .slice A0_4 l0_4.length c0_4, .int .i64 a0_5, .int .i64 a0_6, .string a0_7, .string a0_8, .slice A0_9 l0_9.length c0_9, .slice A0_10 l0_10.length c0_10] 58 (0, 0)) (by (with_reducible repeat (first | refine blk_drewN ?_ _ | refine blk_drew ?_ | refine blk_alloc ?_ _)); exact BK128.out)) : gb128 ≠ gb129)); have n6_ := Aside0.mk ((by rw [hg]; exact Nat.ne_of_gt (blk_lt (g := gb128) (o := .cells #[.int .i64 a0_0, .int .i64 a0_1, .int .i64 a0_2, .int .i64 a0_3, .slice A0_4 l0_4.length c0_4, .int .i64 a0_5, .int .i64 a0_6, .string a0_7, .string a0_8, .slice A0_9 l0_9.length c0_9, .slice A0_10 l0_10.length c0_10] 58 (0, 0)) (by (with_reducible repeat (first | refine blk_drewN ?_ _ | refine blk_drew ?_ | refine blk_alloc ?_ _)); exact BK128.out)) : gb129 ≠ gb128)); clear BK128; clear HB; have BK128 := n0_; have HB := n1_; have BK129 := n2_; have GW129 := n3_; have GE129 := n4_; have NB128_129 := n5_; have NB129_128 := n6_; clear n0_ n1_ n2_ n3_ n4_ n5_ n6_; clear hb hbox hg)))
  (try simp only [Act.put, List.setIfInBounds_toArray, List.set_cons_zero, List.set_cons_succ])
  go_cut [67] (fun v67 wc => ∃ (kq : Nat) (x67_2 : Bool), v67 = .bool x67_2 ∧ Aside0 (gaugerref06_Same.j0 kq x67_2 a0_0 a0_1 a0_2 a0_3 l0_4 a0_5 a0_6 a0_7 a0_8 l0_9 l0_10 a1_0 a1_1 a1_2 a1_3 l1_4 a1_5 a1_6 a1_7 a1_8 l1_9 l1_10 = some r) ∧ Aside0 (kq ≤ k) ∧ Aside0 (wc.heap[gb128]? = some (.cells #[.int .i64 a0_0, .int .i64 a0_1, .int .i64 a0_2, .int .i64 a0_3, (.slice A0_4 l0_4.length c0_4), .int .i64 a0_5, .int .i64 a0_6, .string a0_7, .string a0_8, (.slice A0_9 l0_9.length c0_9), (.slice A0_10 l0_10.length c0_10)] 58 (0, 0))) ∧ Aside0 (wc.heap[gb129]? = some (.cells #[.int .i64 a1_0, .int .i64 a1_1, .int .i64 a1_2, .int .i64 a1_3, (.slice A1_4 l1_4.length c1_4), .int .i64 a1_5, .int .i64 a1_6, .string a1_7, .string a1_8, (.slice A1_9 l1_9.length c1_9), (.slice A1_10 l1_10.length c1_10)] 58 (0, 0))) ∧ Aside0 (Below w.heap.size w wc))
  case first =>
    have H := HC3.out
    clear HC3
    by_cases c6 : a0_0 = a1_0
    · rw [if_pos c6] at H
      have c6b0 : (a0_0 == a1_0) = true := beq_iff_eq.mpr c6
      have c6b1 : (a0_0 != a1_0) = false := bne_eq_false_iff_eq.mpr c6
      clear c6
      (first | rw [c6b0] | (simp only [i64_w, i32_w]; rw [c6b0]) | skip)
      by_cases c7 : a0_1 = a1_1
      · rw [if_pos c7] at H
        have c7b0 : (a0_1 == a1_1) = true := beq_iff_eq.mpr c7
        have c7b1 : (a0_1 != a1_1) = false := bne_eq_false_iff_eq.mpr c7
        clear c7
        by_cases c8 : a0_2 = a1_2
        · rw [if_pos c8] at H
          have c8b0 : (a0_2 == a1_2) = true := beq_iff_eq.mpr c8
          have c8b1 : (a0_2 != a1_2) = false := bne_eq_false_iff_eq.mpr c8
          clear c8
          by_cases c9 : a0_3 = a1_3
          · rw [if_pos c9] at H
            have c9b0 : (a0_3 == a1_3) = true := beq_iff_eq.mpr c9
            have c9b1 : (a0_3 != a1_3) = false := bne_eq_false_iff_eq.mpr c9
            clear c9
            by_cases c10 : (!(a0_5 == a1_5) || (!(a0_6 == a1_6) || (!(a0_7.toList == a1_7.toList) || (!(a0_8.toList == a1_8.toList))))) = true
            · rw [if_pos c10] at H
              have c10b0 : (!(a0_5 == a1_5) || (!(a0_6 == a1_6) || (!(a0_7.toList == a1_7.toList) || (!(a0_8.toList == a1_8.toList))))) = true := c10
              clear c10
              have H' := Aside0.mk H
              clear H
              have hnb11 := NB128_129.out
              have hnc11 := NB129_128.out
              have hcz12_0 : w5.cell? ⟨gb128, 0, none⟩ = some (.int .i64 a0_0) := (blk_cell BK128.out 0).trans rfl
              have hcz12_1 : w5.cell? ⟨gb128, 1, none⟩ = some (.int .i64 a0_1) := (blk_cell BK128.out 1).trans rfl
              have hcz12_2 : w5.cell? ⟨gb128, 2, none⟩ = some (.int .i64 a0_2) := (blk_cell BK128.out 2).trans rfl
              have hcz12_3 : w5.cell? ⟨gb128, 3, none⟩ = some (.int .i64 a0_3) := (blk_cell BK128.out 3).trans rfl
              have hcz12_4 : w5.cell? ⟨gb128, 4, none⟩ = some (.slice A0_4 l0_4.length c0_4) := (blk_cell BK128.out 4).trans rfl
              have hcz12_5 : w5.cell? ⟨gb128, 5, none⟩ = some (.int .i64 a0_5) := (blk_cell BK128.out 5).trans rfl
              have hcz12_6 : w5.cell? ⟨gb128, 6, none⟩ = some (.int .i64 a0_6) := (blk_cell BK128.out 6).trans rfl
              have hcz12_7 : w5.cell? ⟨gb128, 7, none⟩ = some (.string a0_7) := (blk_cell BK128.out 7).trans rfl
              have hcz12_8 : w5.cell? ⟨gb128, 8, none⟩ = some (.string a0_8) := (blk_cell BK128.out 8).trans rfl
              have hcz12_9 : w5.cell? ⟨gb128, 9, none⟩ = some (.slice A0_9 l0_9.length c0_9) := (blk_cell BK128.out 9).trans rfl
              have hcz12_10 : w5.cell? ⟨gb128, 10, none⟩ = some (.slice A0_10 l0_10.length c0_10) := (blk_cell BK128.out 10).trans rfl
              have hfz12_0 := blk_frozen BK128.out 0
              have hfz12_1 := blk_frozen BK128.out 1
              have hfz12_2 := blk_frozen BK128.out 2
              have hfz12_3 := blk_frozen BK128.out 3
              have hfz12_4 := blk_frozen BK128.out 4
              have hfz12_5 := blk_frozen BK128.out 5
              have hfz12_6 := blk_frozen BK128.out 6
              have hfz12_7 := blk_frozen BK128.out 7
              have hfz12_8 := blk_frozen BK128.out 8
              have hfz12_9 := blk_frozen BK128.out 9
              have hfz12_10 := blk_frozen BK128.out 10
              have hcz13_0 : w5.cell? ⟨gb129, 0, none⟩ = some (.int .i64 a1_0) := (blk_cell BK129.out 0).trans rfl
              have hcz13_1 : w5.cell? ⟨gb129, 1, none⟩ = some (.int .i64 a1_1) := (blk_cell BK129.out 1).trans rfl
              have hcz13_2 : w5.cell? ⟨gb129, 2, none⟩ = some (.int .i64 a1_2) := (blk_cell BK129.out 2).trans rfl
              have hcz13_3 : w5.cell? ⟨gb129, 3, none⟩ = some (.int .i64 a1_3) := (blk_cell BK129.out 3).trans rfl
              have hcz13_4 : w5.cell? ⟨gb129, 4, none⟩ = some (.slice A1_4 l1_4.length c1_4) := (blk_cell BK129.out 4).trans rfl
              have hcz13_5 : w5.cell? ⟨gb129, 5, none⟩ = some (.int .i64 a1_5) := (blk_cell BK129.out 5).trans rfl
              have hcz13_6 : w5.cell? ⟨gb129, 6, none⟩ = some (.int .i64 a1_6) := (blk_cell BK129.out 6).trans rfl
              have hcz13_7 : w5.cell? ⟨gb129, 7, none⟩ = some (.string a1_7) := (blk_cell BK129.out 7).trans rfl
              have hcz13_8 : w5.cell? ⟨gb129, 8, none⟩ = some (.string a1_8) := (blk_cell BK129.out 8).trans rfl
              have hcz13_9 : w5.cell? ⟨gb129, 9, none⟩ = some (.slice A1_9 l1_9.length c1_9) := (blk_cell BK129.out 9).trans rfl
              have hcz13_10 : w5.cell? ⟨gb129, 10, none⟩ = some (.slice A1_10 l1_10.length c1_10) := (blk_cell BK129.out 10).trans rfl
              have hfz13_0 := blk_frozen BK129.out 0
              have hfz13_1 := blk_frozen BK129.out 1
              have hfz13_2 := blk_frozen BK129.out 2
              have hfz13_3 := blk_frozen BK129.out 3
              have hfz13_4 := blk_frozen BK129.out 4
              have hfz13_5 := blk_frozen BK129.out 5
              have hfz13_6 := blk_frozen BK129.out 6
              have hfz13_7 := blk_frozen BK129.out 7
              have hfz13_8 := blk_frozen BK129.out 8
              have hfz13_9 := blk_frozen BK129.out 9
              have hfz13_10 := blk_frozen BK129.out 10
              go_wp2
              repeat (go_quiet (fail); try go_wp2)
              go_meet
              case rel => exact ⟨_, (true), (by first | rfl | (simp; done) | (simp [*]; done)), H', ⟨by first | omega | exact Nat.le_refl _⟩, ⟨by (with_reducible repeat (first | refine blk_drewN ?_ _ | refine blk_drew ?_ | refine blk_alloc ?_ _)); exact BK128.out⟩, ⟨by (with_reducible repeat (first | refine blk_drewN ?_ _ | refine blk_drew ?_ | refine blk_alloc ?_ _)); exact BK129.out⟩, ⟨by repeat (first | (with_reducible first | exact HB.out | apply below_alloc | apply pw_below_drewN | apply below_drew1 | refine below_set ?_ GE128.out | refine below_set ?_ GE129.out) | exact HB.out)⟩⟩
            · rw [if_neg c10] at H
              have c10b0 : (!(a0_5 == a1_5) || (!(a0_6 == a1_6) || (!(a0_7.toList == a1_7.toList) || (!(a0_8.toList == a1_8.toList))))) = false := by simpa using c10
              clear c10
              by_cases c14 : (l0_4.length : Int) = (l1_4.length : Int)
              · rw [if_pos c14] at H
                have c14b0 : ((l0_4.length : Int) == (l1_4.length : Int)) = true := beq_iff_eq.mpr c14
                have c14b1 : ((l0_4.length : Int) != (l1_4.length : Int)) = false := bne_eq_false_iff_eq.mpr c14
                have c14b2 : (l0_4.length == l1_4.length) = true := by first | simpa using c14 | (simp at c14 ⊢; omega)
                clear c14
                by_cases c15 : (l0_9.length : Int) = (l1_9.length : Int)
                · rw [if_pos c15] at H
                  have c15b0 : ((l0_9.length : Int) == (l1_9.length : Int)) = true := beq_iff_eq.mpr c15
                  have c15b1 : ((l0_9.length : Int) != (l1_9.length : Int)) = false := bne_eq_false_iff_eq.mpr c15
                  have c15b2 : (l0_9.length == l1_9.length) = true := by first | simpa using c15 | (simp at c15 ⊢; omega)
                  clear c15
                  have H' := Aside0.mk H
                  clear H
                  have hnb16 := NB128_129.out
                  have hnc16 := NB129_128.out
                  have hcz17_0 : w5.cell? ⟨gb128, 0, none⟩ = some (.int .i64 a0_0) := (blk_cell BK128.out 0).trans rfl
                  have hcz17_1 : w5.cell? ⟨gb128, 1, none⟩ = some (.int .i64 a0_1) := (blk_cell BK128.out 1).trans rfl
                  have hcz17_2 : w5.cell? ⟨gb128, 2, none⟩ = some (.int .i64 a0_2) := (blk_cell BK128.out 2).trans rfl
                  have hcz17_3 : w5.cell? ⟨gb128, 3, none⟩ = some (.int .i64 a0_3) := (blk_cell BK128.out 3).trans rfl
                  have hcz17_4 : w5.cell? ⟨gb128, 4, none⟩ = some (.slice A0_4 l0_4.length c0_4) := (blk_cell BK128.out 4).trans rfl
                  have hcz17_5 : w5.cell? ⟨gb128, 5, none⟩ = some (.int .i64 a0_5) := (blk_cell BK128.out 5).trans rfl
                  have hcz17_6 : w5.cell? ⟨gb128, 6, none⟩ = some (.int .i64 a0_6) := (blk_cell BK128.out 6).trans rfl
                  have hcz17_7 : w5.cell? ⟨gb128, 7, none⟩ = some (.string a0_7) := (blk_cell BK128.out 7).trans rfl
                  have hcz17_8 : w5.cell? ⟨gb128, 8, none⟩ = some (.string a0_8) := (blk_cell BK128.out 8).trans rfl
                  have hcz17_9 : w5.cell? ⟨gb128, 9, none⟩ = some (.slice A0_9 l0_9.length c0_9) := (blk_cell BK128.out 9).trans rfl
                  have hcz17_10 : w5.cell? ⟨gb128, 10, none⟩ = some (.slice A0_10 l0_10.length c0_10) := (blk_cell BK128.out 10).trans rfl
                  have hfz17_0 := blk_frozen BK128.out 0
                  have hfz17_1 := blk_frozen BK128.out 1
                  have hfz17_2 := blk_frozen BK128.out 2
                  have hfz17_3 := blk_frozen BK128.out 3
                  have hfz17_4 := blk_frozen BK128.out 4
                  have hfz17_5 := blk_frozen BK128.out 5
                  have hfz17_6 := blk_frozen BK128.out 6
                  have hfz17_7 := blk_frozen BK128.out 7
                  have hfz17_8 := blk_frozen BK128.out 8
                  have hfz17_9 := blk_frozen BK128.out 9
                  have hfz17_10 := blk_frozen BK128.out 10
                  have hcz18_0 : w5.cell? ⟨gb129, 0, none⟩ = some (.int .i64 a1_0) := (blk_cell BK129.out 0).trans rfl
                  have hcz18_1 : w5.cell? ⟨gb129, 1, none⟩ = some (.int .i64 a1_1) := (blk_cell BK129.out 1).trans rfl
                  have hcz18_2 : w5.cell? ⟨gb129, 2, none⟩ = some (.int .i64 a1_2) := (blk_cell BK129.out 2).trans rfl
                  have hcz18_3 : w5.cell? ⟨gb129, 3, none⟩ = some (.int .i64 a1_3) := (blk_cell BK129.out 3).trans rfl
                  have hcz18_4 : w5.cell? ⟨gb129, 4, none⟩ = some (.slice A1_4 l1_4.length c1_4) := (blk_cell BK129.out 4).trans rfl
                  have hcz18_5 : w5.cell? ⟨gb129, 5, none⟩ = some (.int .i64 a1_5) := (blk_cell BK129.out 5).trans rfl
                  have hcz18_6 : w5.cell? ⟨gb129, 6, none⟩ = some (.int .i64 a1_6) := (blk_cell BK129.out 6).trans rfl
                  have hcz18_7 : w5.cell? ⟨gb129, 7, none⟩ = some (.string a1_7) := (blk_cell BK129.out 7).trans rfl
                  have hcz18_8 : w5.cell? ⟨gb129, 8, none⟩ = some (.string a1_8) := (blk_cell BK129.out 8).trans rfl
                  have hcz18_9 : w5.cell? ⟨gb129, 9, none⟩ = some (.slice A1_9 l1_9.length c1_9) := (blk_cell BK129.out 9).trans rfl
                  have hcz18_10 : w5.cell? ⟨gb129, 10, none⟩ = some (.slice A1_10 l1_10.length c1_10) := (blk_cell BK129.out 10).trans rfl
                  have hfz18_0 := blk_frozen BK129.out 0
                  have hfz18_1 := blk_frozen BK129.out 1
                  have hfz18_2 := blk_frozen BK129.out 2
                  have hfz18_3 := blk_frozen BK129.out 3
                  have hfz18_4 := blk_frozen BK129.out 4
                  have hfz18_5 := blk_frozen BK129.out 5
                  have hfz18_6 := blk_frozen BK129.out 6
                  have hfz18_7 := blk_frozen BK129.out 7
                  have hfz18_8 := blk_frozen BK129.out 8
                  have hfz18_9 := blk_frozen BK129.out 9
                  have hfz18_10 := blk_frozen BK129.out 10
                  go_wp2
                  repeat (go_quiet (fail); try go_wp2)
                  go_meet
                  case rel => exact ⟨_, (((l0_10.length : Int) != (l1_10.length : Int))), (by first | rfl | (simp; done) | (simp [*]; done)), H', ⟨by first | omega | exact Nat.le_refl _⟩, ⟨by (with_reducible repeat (first | refine blk_drewN ?_ _ | refine blk_drew ?_ | refine blk_alloc ?_ _)); exact BK128.out⟩, ⟨by (with_reducible repeat (first | refine blk_drewN ?_ _ | refine blk_drew ?_ | refine blk_alloc ?_ _)); exact BK129.out⟩, ⟨by repeat (first | (with_reducible first | exact HB.out | apply below_alloc | apply pw_below_drewN | apply below_drew1 | refine below_set ?_ GE128.out | refine below_set ?_ GE129.out) | exact HB.out)⟩⟩
                · rw [if_neg c15] at H
                  have c15b0 : ((l0_9.length : Int) == (l1_9.length : Int)) = false := beq_eq_false_iff_ne.mpr c15
                  have c15b1 : ((l0_9.length : Int) != (l1_9.length : Int)) = true := bne_iff_ne.mpr c15
                  have c15b2 : (l0_9.length == l1_9.length) = false := by first | simpa using c15 | (simp at c15 ⊢; omega)
                  have H' := Aside0.mk H
                  clear H
                  have hnb19 := NB128_129.out
                  have hnc19 := NB129_128.out
                  have hcz20_0 : w5.cell? ⟨gb128, 0, none⟩ = some (.int .i64 a0_0) := (blk_cell BK128.out 0).trans rfl
                  have hcz20_1 : w5.cell? ⟨gb128, 1, none⟩ = some (.int .i64 a0_1) := (blk_cell BK128.out 1).trans rfl
                  have hcz20_2 : w5.cell? ⟨gb128, 2, none⟩ = some (.int .i64 a0_2) := (blk_cell BK128.out 2).trans rfl
                  have hcz20_3 : w5.cell? ⟨gb128, 3, none⟩ = some (.int .i64 a0_3) := (blk_cell BK128.out 3).trans rfl
                  have hcz20_4 : w5.cell? ⟨gb128, 4, none⟩ = some (.slice A0_4 l0_4.length c0_4) := (blk_cell BK128.out 4).trans rfl
                  have hcz20_5 : w5.cell? ⟨gb128, 5, none⟩ = some (.int .i64 a0_5) := (blk_cell BK128.out 5).trans rfl
                  have hcz20_6 : w5.cell? ⟨gb128, 6, none⟩ = some (.int .i64 a0_6) := (blk_cell BK128.out 6).trans rfl
                  have hcz20_7 : w5.cell? ⟨gb128, 7, none⟩ = some (.string a0_7) := (blk_cell BK128.out 7).trans rfl
                  have hcz20_8 : w5.cell? ⟨gb128, 8, none⟩ = some (.string a0_8) := (blk_cell BK128.out 8).trans rfl
                  have hcz20_9 : w5.cell? ⟨gb128, 9, none⟩ = some (.slice A0_9 l0_9.length c0_9) := (blk_cell BK128.out 9).trans rfl
                  have hcz20_10 : w5.cell? ⟨gb128, 10, none⟩ = some (.slice A0_10 l0_10.length c0_10) := (blk_cell BK128.out 10).trans rfl
                  have hfz20_0 := blk_frozen BK128.out 0
                  have hfz20_1 := blk_frozen BK128.out 1
                  have hfz20_2 := blk_frozen BK128.out 2
                  have hfz20_3 := blk_frozen BK128.out 3
                  have hfz20_4 := blk_frozen BK128.out 4
                  have hfz20_5 := blk_frozen BK128.out 5
                  have hfz20_6 := blk_frozen BK128.out 6
                  have hfz20_7 := blk_frozen BK128.out 7
                  have hfz20_8 := blk_frozen BK128.out 8
                  have hfz20_9 := blk_frozen BK128.out 9
                  have hfz20_10 := blk_frozen BK128.out 10
                  have hcz21_0 : w5.cell? ⟨gb129, 0, none⟩ = some (.int .i64 a1_0) := (blk_cell BK129.out 0).trans rfl
                  have hcz21_1 : w5.cell? ⟨gb129, 1, none⟩ = some (.int .i64 a1_1) := (blk_cell BK129.out 1).trans rfl
                  have hcz21_2 : w5.cell? ⟨gb129, 2, none⟩ = some (.int .i64 a1_2) := (blk_cell BK129.out 2).trans rfl
                  have hcz21_3 : w5.cell? ⟨gb129, 3, none⟩ = some (.int .i64 a1_3) := (blk_cell BK129.out 3).trans rfl
                  have hcz21_4 : w5.cell? ⟨gb129, 4, none⟩ = some (.slice A1_4 l1_4.length c1_4) := (blk_cell BK129.out 4).trans rfl
                  have hcz21_5 : w5.cell? ⟨gb129, 5, none⟩ = some (.int .i64 a1_5) := (blk_cell BK129.out 5).trans rfl
                  have hcz21_6 : w5.cell? ⟨gb129, 6, none⟩ = some (.int .i64 a1_6) := (blk_cell BK129.out 6).trans rfl
                  have hcz21_7 : w5.cell? ⟨gb129, 7, none⟩ = some (.string a1_7) := (blk_cell BK129.out 7).trans rfl
                  have hcz21_8 : w5.cell? ⟨gb129, 8, none⟩ = some (.string a1_8) := (blk_cell BK129.out 8).trans rfl
                  have hcz21_9 : w5.cell? ⟨gb129, 9, none⟩ = some (.slice A1_9 l1_9.length c1_9) := (blk_cell BK129.out 9).trans rfl
                  have hcz21_10 : w5.cell? ⟨gb129, 10, none⟩ = some (.slice A1_10 l1_10.length c1_10) := (blk_cell BK129.out 10).trans rfl
                  have hfz21_0 := blk_frozen BK129.out 0
                  have hfz21_1 := blk_frozen BK129.out 1
                  have hfz21_2 := blk_frozen BK129.out 2
                  have hfz21_3 := blk_frozen BK129.out 3
                  have hfz21_4 := blk_frozen BK129.out 4
                  have hfz21_5 := blk_frozen BK129.out 5
                  have hfz21_6 := blk_frozen BK129.out 6
                  have hfz21_7 := blk_frozen BK129.out 7
                  have hfz21_8 := blk_frozen BK129.out 8
                  have hfz21_9 := blk_frozen BK129.out 9
                  have hfz21_10 := blk_frozen BK129.out 10
                  go_wp2
                  repeat (go_quiet (fail); try go_wp2)
                  go_meet
                  case rel => exact ⟨_, (true), (by first | rfl | (simp; done) | (simp [*]; done)), H', ⟨by first | omega | exact Nat.le_refl _⟩, ⟨by (with_reducible repeat (first | refine blk_drewN ?_ _ | refine blk_drew ?_ | refine blk_alloc ?_ _)); exact BK128.out⟩, ⟨by (with_reducible repeat (first | refine blk_drewN ?_ _ | refine blk_drew ?_ | refine blk_alloc ?_ _)); exact BK129.out⟩, ⟨by repeat (first | (with_reducible first | exact HB.out | apply below_alloc | apply pw_below_drewN | apply below_drew1 | refine below_set ?_ GE128.out | refine below_set ?_ GE129.out) | exact HB.out)⟩⟩
              · rw [if_neg c14] at H
                have c14b0 : ((l0_4.length : Int) == (l1_4.length : Int)) = false := beq_eq_false_iff_ne.mpr c14
                have c14b1 : ((l0_4.length : Int) != (l1_4.length : Int)) = true := bne_iff_ne.mpr c14
                have c14b2 : (l0_4.length == l1_4.length) = false := by first | simpa using c14 | (simp at c14 ⊢; omega)
                have H' := Aside0.mk H
                clear H
                have hnb22 := NB128_129.out
                have hnc22 := NB129_128.out
                have hcz23_0 : w5.cell? ⟨gb128, 0, none⟩ = some (.int .i64 a0_0) := (blk_cell BK128.out 0).trans rfl
                have hcz23_1 : w5.cell? ⟨gb128, 1, none⟩ = some (.int .i64 a0_1) := (blk_cell BK128.out 1).trans rfl
                have hcz23_2 : w5.cell? ⟨gb128, 2, none⟩ = some (.int .i64 a0_2) := (blk_cell BK128.out 2).trans rfl
                have hcz23_3 : w5.cell? ⟨gb128, 3, none⟩ = some (.int .i64 a0_3) := (blk_cell BK128.out 3).trans rfl
                have hcz23_4 : w5.cell? ⟨gb128, 4, none⟩ = some (.slice A0_4 l0_4.length c0_4) := (blk_cell BK128.out 4).trans rfl
                have hcz23_5 : w5.cell? ⟨gb128, 5, none⟩ = some (.int .i64 a0_5) := (blk_cell BK128.out 5).trans rfl
                have hcz23_6 : w5.cell? ⟨gb128, 6, none⟩ = some (.int .i64 a0_6) := (blk_cell BK128.out 6).trans rfl
                have hcz23_7 : w5.cell? ⟨gb128, 7, none⟩ = some (.string a0_7) := (blk_cell BK128.out 7).trans rfl
                have hcz23_8 : w5.cell? ⟨gb128, 8, none⟩ = some (.string a0_8) := (blk_cell BK128.out 8).trans rfl
                have hcz23_9 : w5.cell? ⟨gb128, 9, none⟩ = some (.slice A0_9 l0_9.length c0_9) := (blk_cell BK128.out 9).trans rfl
                have hcz23_10 : w5.cell? ⟨gb128, 10, none⟩ = some (.slice A0_10 l0_10.length c0_10) := (blk_cell BK128.out 10).trans rfl
                have hfz23_0 := blk_frozen BK128.out 0
                have hfz23_1 := blk_frozen BK128.out 1
                have hfz23_2 := blk_frozen BK128.out 2
                have hfz23_3 := blk_frozen BK128.out 3
                have hfz23_4 := blk_frozen BK128.out 4
                have hfz23_5 := blk_frozen BK128.out 5
                have hfz23_6 := blk_frozen BK128.out 6
                have hfz23_7 := blk_frozen BK128.out 7
                have hfz23_8 := blk_frozen BK128.out 8
                have hfz23_9 := blk_frozen BK128.out 9
                have hfz23_10 := blk_frozen BK128.out 10
                have hcz24_0 : w5.cell? ⟨gb129, 0, none⟩ = some (.int .i64 a1_0) := (blk_cell BK129.out 0).trans rfl
                have hcz24_1 : w5.cell? ⟨gb129, 1, none⟩ = some (.int .i64 a1_1) := (blk_cell BK129.out 1).trans rfl
                have hcz24_2 : w5.cell? ⟨gb129, 2, none⟩ = some (.int .i64 a1_2) := (blk_cell BK129.out 2).trans rfl
                have hcz24_3 : w5.cell? ⟨gb129, 3, none⟩ = some (.int .i64 a1_3) := (blk_cell BK129.out 3).trans rfl
                have hcz24_4 : w5.cell? ⟨gb129, 4, none⟩ = some (.slice A1_4 l1_4.length c1_4) := (blk_cell BK129.out 4).trans rfl
                have hcz24_5 : w5.cell? ⟨gb129, 5, none⟩ = some (.int .i64 a1_5) := (blk_cell BK129.out 5).trans rfl
                have hcz24_6 : w5.cell? ⟨gb129, 6, none⟩ = some (.int .i64 a1_6) := (blk_cell BK129.out 6).trans rfl
                have hcz24_7 : w5.cell? ⟨gb129, 7, none⟩ = some (.string a1_7) := (blk_cell BK129.out 7).trans rfl
                have hcz24_8 : w5.cell? ⟨gb129, 8, none⟩ = some (.string a1_8) := (blk_cell BK129.out 8).trans rfl
                have hcz24_9 : w5.cell? ⟨gb129, 9, none⟩ = some (.slice A1_9 l1_9.length c1_9) := (blk_cell BK129.out 9).trans rfl
                have hcz24_10 : w5.cell? ⟨gb129, 10, none⟩ = some (.slice A1_10 l1_10.length c1_10) := (blk_cell BK129.out 10).trans rfl
                have hfz24_0 := blk_frozen BK129.out 0
                have hfz24_1 := blk_frozen BK129.out 1
                have hfz24_2 := blk_frozen BK129.out 2
                have hfz24_3 := blk_frozen BK129.out 3
                have hfz24_4 := blk_frozen BK129.out 4
                have hfz24_5 := blk_frozen BK129.out 5
                have hfz24_6 := blk_frozen BK129.out 6
                have hfz24_7 := blk_frozen BK129.out 7
                have hfz24_8 := blk_frozen BK129.out 8
                have hfz24_9 := blk_frozen BK129.out 9
                have hfz24_10 := blk_frozen BK129.out 10
                go_wp2
                repeat (go_quiet (fail); try go_wp2)
                go_meet
                case rel => exact ⟨_, (true), (by first | rfl | (simp; done) | (simp [*]; done)), H', ⟨by first | omega | exact Nat.le_refl _⟩, ⟨by (with_reducible repeat (first | refine blk_drewN ?_ _ | refine blk_drew ?_ | refine blk_alloc ?_ _)); exact BK128.out⟩, ⟨by (with_reducible repeat (first | refine blk_drewN ?_ _ | refine blk_drew ?_ | refine blk_alloc ?_ _)); exact BK129.out⟩, ⟨by repeat (first | (with_reducible first | exact HB.out | apply below_alloc | apply pw_below_drewN | apply below_drew1 | refine below_set ?_ GE128.out | refine below_set ?_ GE129.out) | exact HB.out)⟩⟩
          · rw [if_neg c9] at H
            have c9b0 : (a0_3 == a1_3) = false := beq_eq_false_iff_ne.mpr c9
            have c9b1 : (a0_3 != a1_3) = true := bne_iff_ne.mpr c9
            have H' := Aside0.mk H
            clear H
            have hnb25 := NB128_129.out
            have hnc25 := NB129_128.out
            have hcz26_0 : w5.cell? ⟨gb128, 0, none⟩ = some (.int .i64 a0_0) := (blk_cell BK128.out 0).trans rfl
            have hcz26_1 : w5.cell? ⟨gb128, 1, none⟩ = some (.int .i64 a0_1) := (blk_cell BK128.out 1).trans rfl
            have hcz26_2 : w5.cell? ⟨gb128, 2, none⟩ = some (.int .i64 a0_2) := (blk_cell BK128.out 2).trans rfl
            have hcz26_3 : w5.cell? ⟨gb128, 3, none⟩ = some (.int .i64 a0_3) := (blk_cell BK128.out 3).trans rfl
            have hcz26_4 : w5.cell? ⟨gb128, 4, none⟩ = some (.slice A0_4 l0_4.length c0_4) := (blk_cell BK128.out 4).trans rfl
            have hcz26_5 : w5.cell? ⟨gb128, 5, none⟩ = some (.int .i64 a0_5) := (blk_cell BK128.out 5).trans rfl
            have hcz26_6 : w5.cell? ⟨gb128, 6, none⟩ = some (.int .i64 a0_6) := (blk_cell BK128.out 6).trans rfl
            have hcz26_7 : w5.cell? ⟨gb128, 7, none⟩ = some (.string a0_7) := (blk_cell BK128.out 7).trans rfl
            have hcz26_8 : w5.cell? ⟨gb128, 8, none⟩ = some (.string a0_8) := (blk_cell BK128.out 8).trans rfl
            have hcz26_9 : w5.cell? ⟨gb128, 9, none⟩ = some (.slice A0_9 l0_9.length c0_9) := (blk_cell BK128.out 9).trans rfl
            have hcz26_10 : w5.cell? ⟨gb128, 10, none⟩ = some (.slice A0_10 l0_10.length c0_10) := (blk_cell BK128.out 10).trans rfl
            have hfz26_0 := blk_frozen BK128.out 0
            have hfz26_1 := blk_frozen BK128.out 1
            have hfz26_2 := blk_frozen BK128.out 2
            have hfz26_3 := blk_frozen BK128.out 3
            have hfz26_4 := blk_frozen BK128.out 4
            have hfz26_5 := blk_frozen BK128.out 5
            have hfz26_6 := blk_frozen BK128.out 6
            have hfz26_7 := blk_frozen BK128.out 7
            have hfz26_8 := blk_frozen BK128.out 8
            have hfz26_9 := blk_frozen BK128.out 9
            have hfz26_10 := blk_frozen BK128.out 10
            have hcz27_0 : w5.cell? ⟨gb129, 0, none⟩ = some (.int .i64 a1_0) := (blk_cell BK129.out 0).trans rfl
            have hcz27_1 : w5.cell? ⟨gb129, 1, none⟩ = some (.int .i64 a1_1) := (blk_cell BK129.out 1).trans rfl
            have hcz27_2 : w5.cell? ⟨gb129, 2, none⟩ = some (.int .i64 a1_2) := (blk_cell BK129.out 2).trans rfl
            have hcz27_3 : w5.cell? ⟨gb129, 3, none⟩ = some (.int .i64 a1_3) := (blk_cell BK129.out 3).trans rfl
            have hcz27_4 : w5.cell? ⟨gb129, 4, none⟩ = some (.slice A1_4 l1_4.length c1_4) := (blk_cell BK129.out 4).trans rfl
            have hcz27_5 : w5.cell? ⟨gb129, 5, none⟩ = some (.int .i64 a1_5) := (blk_cell BK129.out 5).trans rfl
            have hcz27_6 : w5.cell? ⟨gb129, 6, none⟩ = some (.int .i64 a1_6) := (blk_cell BK129.out 6).trans rfl
            have hcz27_7 : w5.cell? ⟨gb129, 7, none⟩ = some (.string a1_7) := (blk_cell BK129.out 7).trans rfl
            have hcz27_8 : w5.cell? ⟨gb129, 8, none⟩ = some (.string a1_8) := (blk_cell BK129.out 8).trans rfl
            have hcz27_9 : w5.cell? ⟨gb129, 9, none⟩ = some (.slice A1_9 l1_9.length c1_9) := (blk_cell BK129.out 9).trans rfl
            have hcz27_10 : w5.cell? ⟨gb129, 10, none⟩ = some (.slice A1_10 l1_10.length c1_10) := (blk_cell BK129.out 10).trans rfl
            have hfz27_0 := blk_frozen BK129.out 0
            have hfz27_1 := blk_frozen BK129.out 1
            have hfz27_2 := blk_frozen BK129.out 2
            have hfz27_3 := blk_frozen BK129.out 3
            have hfz27_4 := blk_frozen BK129.out 4
            have hfz27_5 := blk_frozen BK129.out 5
            have hfz27_6 := blk_frozen BK129.out 6
            have hfz27_7 := blk_frozen BK129.out 7
            have hfz27_8 := blk_frozen BK129.out 8
            have hfz27_9 := blk_frozen BK129.out 9
            have hfz27_10 := blk_frozen BK129.out 10
            go_wp2
            repeat (go_quiet (fail); try go_wp2)
            go_meet
            case rel => exact ⟨_, (true), (by first | rfl | (simp; done) | (simp [*]; done)), H', ⟨by first | omega | exact Nat.le_refl _⟩, ⟨by (with_reducible repeat (first | refine blk_drewN ?_ _ | refine blk_drew ?_ | refine blk_alloc ?_ _)); exact BK128.out⟩, ⟨by (with_reducible repeat (first | refine blk_drewN ?_ _ | refine blk_drew ?_ | refine blk_alloc ?_ _)); exact BK129.out⟩, ⟨by repeat (first | (with_reducible first | exact HB.out | apply below_alloc | apply pw_below_drewN | apply below_drew1 | refine below_set ?_ GE128.out | refine below_set ?_ GE129.out) | exact HB.out)⟩⟩
        · rw [if_neg c8] at H
          have c8b0 : (a0_2 == a1_2) = false := beq_eq_false_iff_ne.mpr c8
          have c8b1 : (a0_2 != a1_2) = true := bne_iff_ne.mpr c8
          have H' := Aside0.mk H
          clear H
          have hnb28 := NB128_129.out
          have hnc28 := NB129_128.out
          have hcz29_0 : w5.cell? ⟨gb128, 0, none⟩ = some (.int .i64 a0_0) := (blk_cell BK128.out 0).trans rfl
          have hcz29_1 : w5.cell? ⟨gb128, 1, none⟩ = some (.int .i64 a0_1) := (blk_cell BK128.out 1).trans rfl
          have hcz29_2 : w5.cell? ⟨gb128, 2, none⟩ = some (.int .i64 a0_2) := (blk_cell BK128.out 2).trans rfl
          have hcz29_3 : w5.cell? ⟨gb128, 3, none⟩ = some (.int .i64 a0_3) := (blk_cell BK128.out 3).trans rfl
          have hcz29_4 : w5.cell? ⟨gb128, 4, none⟩ = some (.slice A0_4 l0_4.length c0_4) := (blk_cell BK128.out 4).trans rfl
          have hcz29_5 : w5.cell? ⟨gb128, 5, none⟩ = some (.int .i64 a0_5) := (blk_cell BK128.out 5).trans rfl
          have hcz29_6 : w5.cell? ⟨gb128, 6, none⟩ = some (.int .i64 a0_6) := (blk_cell BK128.out 6).trans rfl
          have hcz29_7 : w5.cell? ⟨gb128, 7, none⟩ = some (.string a0_7) := (blk_cell BK128.out 7).trans rfl
          have hcz29_8 : w5.cell? ⟨gb128, 8, none⟩ = some (.string a0_8) := (blk_cell BK128.out 8).trans rfl
          have hcz29_9 : w5.cell? ⟨gb128, 9, none⟩ = some (.slice A0_9 l0_9.length c0_9) := (blk_cell BK128.out 9).trans rfl
          have hcz29_10 : w5.cell? ⟨gb128, 10, none⟩ = some (.slice A0_10 l0_10.length c0_10) := (blk_cell BK128.out 10).trans rfl
          have hfz29_0 := blk_frozen BK128.out 0
          have hfz29_1 := blk_frozen BK128.out 1
          have hfz29_2 := blk_frozen BK128.out 2
          have hfz29_3 := blk_frozen BK128.out 3
          have hfz29_4 := blk_frozen BK128.out 4
          have hfz29_5 := blk_frozen BK128.out 5
          have hfz29_6 := blk_frozen BK128.out 6
          have hfz29_7 := blk_frozen BK128.out 7
          have hfz29_8 := blk_frozen BK128.out 8
          have hfz29_9 := blk_frozen BK128.out 9
          have hfz29_10 := blk_frozen BK128.out 10
          have hcz30_0 : w5.cell? ⟨gb129, 0, none⟩ = some (.int .i64 a1_0) := (blk_cell BK129.out 0).trans rfl
          have hcz30_1 : w5.cell? ⟨gb129, 1, none⟩ = some (.int .i64 a1_1) := (blk_cell BK129.out 1).trans rfl
          have hcz30_2 : w5.cell? ⟨gb129, 2, none⟩ = some (.int .i64 a1_2) := (blk_cell BK129.out 2).trans rfl
          have hcz30_3 : w5.cell? ⟨gb129, 3, none⟩ = some (.int .i64 a1_3) := (blk_cell BK129.out 3).trans rfl
          have hcz30_4 : w5.cell? ⟨gb129, 4, none⟩ = some (.slice A1_4 l1_4.length c1_4) := (blk_cell BK129.out 4).trans rfl
          have hcz30_5 : w5.cell? ⟨gb129, 5, none⟩ = some (.int .i64 a1_5) := (blk_cell BK129.out 5).trans rfl
          have hcz30_6 : w5.cell? ⟨gb129, 6, none⟩ = some (.int .i64 a1_6) := (blk_cell BK129.out 6).trans rfl
          have hcz30_7 : w5.cell? ⟨gb129, 7, none⟩ = some (.string a1_7) := (blk_cell BK129.out 7).trans rfl
          have hcz30_8 : w5.cell? ⟨gb129, 8, none⟩ = some (.string a1_8) := (blk_cell BK129.out 8).trans rfl
          have hcz30_9 : w5.cell? ⟨gb129, 9, none⟩ = some (.slice A1_9 l1_9.length c1_9) := (blk_cell BK129.out 9).trans rfl
          have hcz30_10 : w5.cell? ⟨gb129, 10, none⟩ = some (.slice A1_10 l1_10.length c1_10) := (blk_cell BK129.out 10).trans rfl
          have hfz30_0 := blk_frozen BK129.out 0
          have hfz30_1 := blk_frozen BK129.out 1
          have hfz30_2 := blk_frozen BK129.out 2
          have hfz30_3 := blk_frozen BK129.out 3
          have hfz30_4 := blk_frozen BK129.out 4
          have hfz30_5 := blk_frozen BK129.out 5
          have hfz30_6 := blk_frozen BK129.out 6
          have hfz30_7 := blk_frozen BK129.out 7
          have hfz30_8 := blk_frozen BK129.out 8
          have hfz30_9 := blk_frozen BK129.out 9
          have hfz30_10 := blk_frozen BK129.out 10
          go_wp2
          repeat (go_quiet (fail); try go_wp2)
          go_meet
          case rel => exact ⟨_, (true), (by first | rfl | (simp; done) | (simp [*]; done)), H', ⟨by first | omega | exact Nat.le_refl _⟩, ⟨by (with_reducible repeat (first | refine blk_drewN ?_ _ | refine blk_drew ?_ | refine blk_alloc ?_ _)); exact BK128.out⟩, ⟨by (with_reducible repeat (first | refine blk_drewN ?_ _ | refine blk_drew ?_ | refine blk_alloc ?_ _)); exact BK129.out⟩, ⟨by repeat (first | (with_reducible first | exact HB.out | apply below_alloc | apply pw_below_drewN | apply below_drew1 | refine below_set ?_ GE128.out | refine below_set ?_ GE129.out) | exact HB.out)⟩⟩
      · rw [if_neg c7] at H
        have c7b0 : (a0_1 == a1_1) = false := beq_eq_false_iff_ne.mpr c7
        have c7b1 : (a0_1 != a1_1) = true := bne_iff_ne.mpr c7
        have H' := Aside0.mk H
        clear H
        have hnb31 := NB128_129.out
        have hnc31 := NB129_128.out
        have hcz32_0 : w5.cell? ⟨gb128, 0, none⟩ = some (.int .i64 a0_0) := (blk_cell BK128.out 0).trans rfl
        have hcz32_1 : w5.cell? ⟨gb128, 1, none⟩ = some (.int .i64 a0_1) := (blk_cell BK128.out 1).trans rfl
        have hcz32_2 : w5.cell? ⟨gb128, 2, none⟩ = some (.int .i64 a0_2) := (blk_cell BK128.out 2).trans rfl
        have hcz32_3 : w5.cell? ⟨gb128, 3, none⟩ = some (.int .i64 a0_3) := (blk_cell BK128.out 3).trans rfl
        have hcz32_4 : w5.cell? ⟨gb128, 4, none⟩ = some (.slice A0_4 l0_4.length c0_4) := (blk_cell BK128.out 4).trans rfl
        have hcz32_5 : w5.cell? ⟨gb128, 5, none⟩ = some (.int .i64 a0_5) := (blk_cell BK128.out 5).trans rfl
        have hcz32_6 : w5.cell? ⟨gb128, 6, none⟩ = some (.int .i64 a0_6) := (blk_cell BK128.out 6).trans rfl
        have hcz32_7 : w5.cell? ⟨gb128, 7, none⟩ = some (.string a0_7) := (blk_cell BK128.out 7).trans rfl
        have hcz32_8 : w5.cell? ⟨gb128, 8, none⟩ = some (.string a0_8) := (blk_cell BK128.out 8).trans rfl
        have hcz32_9 : w5.cell? ⟨gb128, 9, none⟩ = some (.slice A0_9 l0_9.length c0_9) := (blk_cell BK128.out 9).trans rfl
        have hcz32_10 : w5.cell? ⟨gb128, 10, none⟩ = some (.slice A0_10 l0_10.length c0_10) := (blk_cell BK128.out 10).trans rfl
        have hfz32_0 := blk_frozen BK128.out 0
        have hfz32_1 := blk_frozen BK128.out 1
        have hfz32_2 := blk_frozen BK128.out 2
        have hfz32_3 := blk_frozen BK128.out 3
        have hfz32_4 := blk_frozen BK128.out 4
        have hfz32_5 := blk_frozen BK128.out 5
        have hfz32_6 := blk_frozen BK128.out 6
        have hfz32_7 := blk_frozen BK128.out 7
        have hfz32_8 := blk_frozen BK128.out 8
        have hfz32_9 := blk_frozen BK128.out 9
        have hfz32_10 := blk_frozen BK128.out 10
        have hcz33_0 : w5.cell? ⟨gb129, 0, none⟩ = some (.int .i64 a1_0) := (blk_cell BK129.out 0).trans rfl
        have hcz33_1 : w5.cell? ⟨gb129, 1, none⟩ = some (.int .i64 a1_1) := (blk_cell BK129.out 1).trans rfl
        have hcz33_2 : w5.cell? ⟨gb129, 2, none⟩ = some (.int .i64 a1_2) := (blk_cell BK129.out 2).trans rfl
        have hcz33_3 : w5.cell? ⟨gb129, 3, none⟩ = some (.int .i64 a1_3) := (blk_cell BK129.out 3).trans rfl
        have hcz33_4 : w5.cell? ⟨gb129, 4, none⟩ = some (.slice A1_4 l1_4.length c1_4) := (blk_cell BK129.out 4).trans rfl
        have hcz33_5 : w5.cell? ⟨gb129, 5, none⟩ = some (.int .i64 a1_5) := (blk_cell BK129.out 5).trans rfl
        have hcz33_6 : w5.cell? ⟨gb129, 6, none⟩ = some (.int .i64 a1_6) := (blk_cell BK129.out 6).trans rfl
        have hcz33_7 : w5.cell? ⟨gb129, 7, none⟩ = some (.string a1_7) := (blk_cell BK129.out 7).trans rfl
        have hcz33_8 : w5.cell? ⟨gb129, 8, none⟩ = some (.string a1_8) := (blk_cell BK129.out 8).trans rfl
        have hcz33_9 : w5.cell? ⟨gb129, 9, none⟩ = some (.slice A1_9 l1_9.length c1_9) := (blk_cell BK129.out 9).trans rfl
        have hcz33_10 : w5.cell? ⟨gb129, 10, none⟩ = some (.slice A1_10 l1_10.length c1_10) := (blk_cell BK129.out 10).trans rfl
        have hfz33_0 := blk_frozen BK129.out 0
        have hfz33_1 := blk_frozen BK129.out 1
        have hfz33_2 := blk_frozen BK129.out 2
        have hfz33_3 := blk_frozen BK129.out 3
        have hfz33_4 := blk_frozen BK129.out 4
        have hfz33_5 := blk_frozen BK129.out 5
        have hfz33_6 := blk_frozen BK129.out 6
        have hfz33_7 := blk_frozen BK129.out 7
        have hfz33_8 := blk_frozen BK129.out 8
        have hfz33_9 := blk_frozen BK129.out 9
        have hfz33_10 := blk_frozen BK129.out 10
        go_wp2
        repeat (go_quiet (fail); try go_wp2)
        go_meet
        case rel => exact ⟨_, (true), (by first | rfl | (simp; done) | (simp [*]; done)), H', ⟨by first | omega | exact Nat.le_refl _⟩, ⟨by (with_reducible repeat (first | refine blk_drewN ?_ _ | refine blk_drew ?_ | refine blk_alloc ?_ _)); exact BK128.out⟩, ⟨by (with_reducible repeat (first | refine blk_drewN ?_ _ | refine blk_drew ?_ | refine blk_alloc ?_ _)); exact BK129.out⟩, ⟨by repeat (first | (with_reducible first | exact HB.out | apply below_alloc | apply pw_below_drewN | apply below_drew1 | refine below_set ?_ GE128.out | refine below_set ?_ GE129.out) | exact HB.out)⟩⟩
    · rw [if_neg c6] at H
      have c6b0 : (a0_0 == a1_0) = false := beq_eq_false_iff_ne.mpr c6
      have c6b1 : (a0_0 != a1_0) = true := bne_iff_ne.mpr c6
      (first | rw [c6b0] | (simp only [i64_w, i32_w]; rw [c6b0]) | skip)
      have H' := Aside0.mk H
      clear H
      have hnb34 := NB128_129.out
      have hnc34 := NB129_128.out
      have hcz35_0 : w5.cell? ⟨gb128, 0, none⟩ = some (.int .i64 a0_0) := (blk_cell BK128.out 0).trans rfl
      have hcz35_1 : w5.cell? ⟨gb128, 1, none⟩ = some (.int .i64 a0_1) := (blk_cell BK128.out 1).trans rfl
      have hcz35_2 : w5.cell? ⟨gb128, 2, none⟩ = some (.int .i64 a0_2) := (blk_cell BK128.out 2).trans rfl
      have hcz35_3 : w5.cell? ⟨gb128, 3, none⟩ = some (.int .i64 a0_3) := (blk_cell BK128.out 3).trans rfl
      have hcz35_4 : w5.cell? ⟨gb128, 4, none⟩ = some (.slice A0_4 l0_4.length c0_4) := (blk_cell BK128.out 4).trans rfl
      have hcz35_5 : w5.cell? ⟨gb128, 5, none⟩ = some (.int .i64 a0_5) := (blk_cell BK128.out 5).trans rfl
      have hcz35_6 : w5.cell? ⟨gb128, 6, none⟩ = some (.int .i64 a0_6) := (blk_cell BK128.out 6).trans rfl
      have hcz35_7 : w5.cell? ⟨gb128, 7, none⟩ = some (.string a0_7) := (blk_cell BK128.out 7).trans rfl
      have hcz35_8 : w5.cell? ⟨gb128, 8, none⟩ = some (.string a0_8) := (blk_cell BK128.out 8).trans rfl
      have hcz35_9 : w5.cell? ⟨gb128, 9, none⟩ = some (.slice A0_9 l0_9.length c0_9) := (blk_cell BK128.out 9).trans rfl
      have hcz35_10 : w5.cell? ⟨gb128, 10, none⟩ = some (.slice A0_10 l0_10.length c0_10) := (blk_cell BK128.out 10).trans rfl
      have hfz35_0 := blk_frozen BK128.out 0
      have hfz35_1 := blk_frozen BK128.out 1
      have hfz35_2 := blk_frozen BK128.out 2
      have hfz35_3 := blk_frozen BK128.out 3
      have hfz35_4 := blk_frozen BK128.out 4
      have hfz35_5 := blk_frozen BK128.out 5
      have hfz35_6 := blk_frozen BK128.out 6
      have hfz35_7 := blk_frozen BK128.out 7
      have hfz35_8 := blk_frozen BK128.out 8
      have hfz35_9 := blk_frozen BK128.out 9
      have hfz35_10 := blk_frozen BK128.out 10
      have hcz36_0 : w5.cell? ⟨gb129, 0, none⟩ = some (.int .i64 a1_0) := (blk_cell BK129.out 0).trans rfl
      have hcz36_1 : w5.cell? ⟨gb129, 1, none⟩ = some (.int .i64 a1_1) := (blk_cell BK129.out 1).trans rfl
      have hcz36_2 : w5.cell? ⟨gb129, 2, none⟩ = some (.int .i64 a1_2) := (blk_cell BK129.out 2).trans rfl
      have hcz36_3 : w5.cell? ⟨gb129, 3, none⟩ = some (.int .i64 a1_3) := (blk_cell BK129.out 3).trans rfl
      have hcz36_4 : w5.cell? ⟨gb129, 4, none⟩ = some (.slice A1_4 l1_4.length c1_4) := (blk_cell BK129.out 4).trans rfl
      have hcz36_5 : w5.cell? ⟨gb129, 5, none⟩ = some (.int .i64 a1_5) := (blk_cell BK129.out 5).trans rfl
      have hcz36_6 : w5.cell? ⟨gb129, 6, none⟩ = some (.int .i64 a1_6) := (blk_cell BK129.out 6).trans rfl
      have hcz36_7 : w5.cell? ⟨gb129, 7, none⟩ = some (.string a1_7) := (blk_cell BK129.out 7).trans rfl
      have hcz36_8 : w5.cell? ⟨gb129, 8, none⟩ = some (.string a1_8) := (blk_cell BK129.out 8).trans rfl
      have hcz36_9 : w5.cell? ⟨gb129, 9, none⟩ = some (.slice A1_9 l1_9.length c1_9) := (blk_cell BK129.out 9).trans rfl
      have hcz36_10 : w5.cell? ⟨gb129, 10, none⟩ = some (.slice A1_10 l1_10.length c1_10) := (blk_cell BK129.out 10).trans rfl
      have hfz36_0 := blk_frozen BK129.out 0
      have hfz36_1 := blk_frozen BK129.out 1
      have hfz36_2 := blk_frozen BK129.out 2
      have hfz36_3 := blk_frozen BK129.out 3
      have hfz36_4 := blk_frozen BK129.out 4
      have hfz36_5 := blk_frozen BK129.out 5
      have hfz36_6 := blk_frozen BK129.out 6
      have hfz36_7 := blk_frozen BK129.out 7
      have hfz36_8 := blk_frozen BK129.out 8
      have hfz36_9 := blk_frozen BK129.out 9
      have hfz36_10 := blk_frozen BK129.out 10
      go_wp2
      repeat (go_quiet (fail); try go_wp2)
      go_meet
      case rel => exact ⟨_, (true), (by first | rfl | (simp; done) | (simp [*]; done)), H', ⟨by first | omega | exact Nat.le_refl _⟩, ⟨by (with_reducible repeat (first | refine blk_drewN ?_ _ | refine blk_drew ?_ | refine blk_alloc ?_ _)); exact BK128.out⟩, ⟨by (with_reducible repeat (first | refine blk_drewN ?_ _ | refine blk_drew ?_ | refine blk_alloc ?_ _)); exact BK129.out⟩, ⟨by repeat (first | (with_reducible first | exact HB.out | apply below_alloc | apply pw_below_drewN | apply below_drew1 | refine below_set ?_ GE128.out | refine below_set ?_ GE129.out) | exact HB.out)⟩⟩
  case rest =>
    clear HC3
    try clear c1
    try clear c2
    try clear p2
    try clear c3
    try clear c6
    try clear c6b0
    try clear c6b1
    try clear c7
    try clear c7b0
    try clear c7b1
    try clear c8
    try clear c8b0
    try clear c8b1
    try clear c9
    try clear c9b0
    try clear c9b1
    try clear c10
    try clear c10b0
    try clear c11
    try clear c14
    try clear c14b0
    try clear c14b1
    try clear c14b2
    try clear c15
    try clear c15b0
    try clear c15b1
    try clear c15b2
    try clear c16
    try clear c19
    try clear c22
    try clear c25
    try clear c28
    try clear c31
    try clear c34
    try clear hcz12_0
    try clear hcz12_1
    try clear hcz12_10
    try clear hcz12_2
    try clear hcz12_3
    try clear hcz12_4
    try clear hcz12_5
    try clear hcz12_6
    try clear hcz12_7
    try clear hcz12_8
    try clear hcz12_9
    try clear hcz13_0
    try clear hcz13_1
    try clear hcz13_10
    try clear hcz13_2
    try clear hcz13_3
    try clear hcz13_4
    try clear hcz13_5
    try clear hcz13_6
    try clear hcz13_7
    try clear hcz13_8
    try clear hcz13_9
    try clear hcz17_0
    try clear hcz17_1
    try clear hcz17_10
    try clear hcz17_2
    try clear hcz17_3
    try clear hcz17_4
    try clear hcz17_5
    try clear hcz17_6
    try clear hcz17_7
    try clear hcz17_8
    try clear hcz17_9
    try clear hcz18_0
    try clear hcz18_1
    try clear hcz18_10
    try clear hcz18_2
    try clear hcz18_3
    try clear hcz18_4
    try clear hcz18_5
    try clear hcz18_6
    try clear hcz18_7
    try clear hcz18_8
    try clear hcz18_9
    try clear hcz20_0
    try clear hcz20_1
    try clear hcz20_10
    try clear hcz20_2
    try clear hcz20_3
    try clear hcz20_4
    try clear hcz20_5
    try clear hcz20_6
    try clear hcz20_7
    try clear hcz20_8
    try clear hcz20_9
    try clear hcz21_0
    try clear hcz21_1
    try clear hcz21_10
    try clear hcz21_2
    try clear hcz21_3
    try clear hcz21_4
    try clear hcz21_5
    try clear hcz21_6
    try clear hcz21_7
    try clear hcz21_8
    try clear hcz21_9
    try clear hcz23_0
    try clear hcz23_1
    try clear hcz23_10
    try clear hcz23_2
    try clear hcz23_3
    try clear hcz23_4
    try clear hcz23_5
    try clear hcz23_6
    try clear hcz23_7
    try clear hcz23_8
    try clear hcz23_9
    try clear hcz24_0
    try clear hcz24_1
    try clear hcz24_10
    try clear hcz24_2
    try clear hcz24_3
    try clear hcz24_4
    try clear hcz24_5
    try clear hcz24_6
    try clear hcz24_7
    try clear hcz24_8
    try clear hcz24_9
    try clear hcz26_0
    try clear hcz26_1
    try clear hcz26_10
    try clear hcz26_2
    try clear hcz26_3
    try clear hcz26_4
    try clear hcz26_5
    try clear hcz26_6
    try clear hcz26_7
    try clear hcz26_8
    try clear hcz26_9
    try clear hcz27_0
    try clear hcz27_1
    try clear hcz27_10
    try clear hcz27_2
    try clear hcz27_3
    try clear hcz27_4
    try clear hcz27_5
    try clear hcz27_6
    try clear hcz27_7
    try clear hcz27_8
    try clear hcz27_9
    try clear hcz29_0
    try clear hcz29_1
    try clear hcz29_10
    try clear hcz29_2
    try clear hcz29_3
    try clear hcz29_4
    try clear hcz29_5
    try clear hcz29_6
    try clear hcz29_7
    try clear hcz29_8
    try clear hcz29_9
    try clear hcz30_0
    try clear hcz30_1
    try clear hcz30_10
    try clear hcz30_2
    try clear hcz30_3
    try clear hcz30_4
    try clear hcz30_5
    try clear hcz30_6
    try clear hcz30_7
    try clear hcz30_8
    try clear hcz30_9
    try clear hcz32_0
    try clear hcz32_1
    try clear hcz32_10
    try clear hcz32_2
    try clear hcz32_3
    try clear hcz32_4
    try clear hcz32_5
    try clear hcz32_6
    try clear hcz32_7
    try clear hcz32_8
    try clear hcz32_9
    try clear hcz33_0
    try clear hcz33_1
    try clear hcz33_10
    try clear hcz33_2
    try clear hcz33_3
    try clear hcz33_4
    try clear hcz33_5
    try clear hcz33_6
    try clear hcz33_7
    try clear hcz33_8
    try clear hcz33_9
    try clear hcz35_0
    try clear hcz35_1
    try clear hcz35_10
    try clear hcz35_2
    try clear hcz35_3
    try clear hcz35_4
    try clear hcz35_5
    try clear hcz35_6
    try clear hcz35_7
    try clear hcz35_8
    try clear hcz35_9
    try clear hcz36_0
    try clear hcz36_1
    try clear hcz36_10
    try clear hcz36_2
    try clear hcz36_3
    try clear hcz36_4
    try clear hcz36_5
    try clear hcz36_6
    try clear hcz36_7
    try clear hcz36_8
    try clear hcz36_9
    try clear hfz12_0
    try clear hfz12_1
    try clear hfz12_10
    try clear hfz12_2
    try clear hfz12_3
    try clear hfz12_4
    try clear hfz12_5
    try clear hfz12_6
    try clear hfz12_7
    try clear hfz12_8
    try clear hfz12_9
    try clear hfz13_0
    try clear hfz13_1
    try clear hfz13_10
    try clear hfz13_2
    try clear hfz13_3
    try clear hfz13_4
    try clear hfz13_5
    try clear hfz13_6
    try clear hfz13_7
    try clear hfz13_8
    try clear hfz13_9
    try clear hfz17_0
    try clear hfz17_1
    try clear hfz17_10
    try clear hfz17_2
    try clear hfz17_3
    try clear hfz17_4
    try clear hfz17_5
    try clear hfz17_6
    try clear hfz17_7
    try clear hfz17_8
    try clear hfz17_9
    try clear hfz18_0
    try clear hfz18_1
    try clear hfz18_10
    try clear hfz18_2
    try clear hfz18_3
    try clear hfz18_4
    try clear hfz18_5
    try clear hfz18_6
    try clear hfz18_7
    try clear hfz18_8
    try clear hfz18_9
    try clear hfz20_0
    try clear hfz20_1
    try clear hfz20_10
    try clear hfz20_2
    try clear hfz20_3
    try clear hfz20_4
    try clear hfz20_5
    try clear hfz20_6
    try clear hfz20_7
    try clear hfz20_8
    try clear hfz20_9
    try clear hfz21_0
    try clear hfz21_1
    try clear hfz21_10
    try clear hfz21_2
    try clear hfz21_3
    try clear hfz21_4
    try clear hfz21_5
    try clear hfz21_6
    try clear hfz21_7
    try clear hfz21_8
    try clear hfz21_9
    try clear hfz23_0
    try clear hfz23_1
    try clear hfz23_10
    try clear hfz23_2
    try clear hfz23_3
    try clear hfz23_4
    try clear hfz23_5
    try clear hfz23_6
    try clear hfz23_7
    try clear hfz23_8
    try clear hfz23_9
    try clear hfz24_0
    try clear hfz24_1
    try clear hfz24_10
    try clear hfz24_2
    try clear hfz24_3
    try clear hfz24_4
    try clear hfz24_5
    try clear hfz24_6
    try clear hfz24_7
    try clear hfz24_8
    try clear hfz24_9
    try clear hfz26_0
    try clear hfz26_1
    try clear hfz26_10
    try clear hfz26_2
    try clear hfz26_3
    try clear hfz26_4
    try clear hfz26_5
    try clear hfz26_6
    try clear hfz26_7
    try clear hfz26_8
    try clear hfz26_9
    try clear hfz27_0
    try clear hfz27_1
    try clear hfz27_10
    try clear hfz27_2
    try clear hfz27_3
    try clear hfz27_4
    try clear hfz27_5
    try clear hfz27_6
    try clear hfz27_7
    try clear hfz27_8
    try clear hfz27_9
    try clear hfz29_0
    try clear hfz29_1
    try clear hfz29_10
    try clear hfz29_2
    try clear hfz29_3
    try clear hfz29_4
    try clear hfz29_5
    try clear hfz29_6
    try clear hfz29_7
    try clear hfz29_8
    try clear hfz29_9
    try clear hfz30_0
    try clear hfz30_1
    try clear hfz30_10
    try clear hfz30_2
    try clear hfz30_3
    try clear hfz30_4
    try clear hfz30_5
    try clear hfz30_6
    try clear hfz30_7
    try clear hfz30_8
    try clear hfz30_9
    try clear hfz32_0
    try clear hfz32_1
    try clear hfz32_10
    try clear hfz32_2
    try clear hfz32_3
    try clear hfz32_4
    try clear hfz32_5
    try clear hfz32_6
    try clear hfz32_7
    try clear hfz32_8
    try clear hfz32_9
    try clear hfz33_0
    try clear hfz33_1
    try clear hfz33_10
    try clear hfz33_2
    try clear hfz33_3
    try clear hfz33_4
    try clear hfz33_5
    try clear hfz33_6
    try clear hfz33_7
    try clear hfz33_8
    try clear hfz33_9
    try clear hfz35_0
    try clear hfz35_1
    try clear hfz35_10
    try clear hfz35_2
    try clear hfz35_3
    try clear hfz35_4
    try clear hfz35_5
    try clear hfz35_6
    try clear hfz35_7
    try clear hfz35_8
    try clear hfz35_9
    try clear hfz36_0
    try clear hfz36_1
    try clear hfz36_10
    try clear hfz36_2
    try clear hfz36_3
    try clear hfz36_4
    try clear hfz36_5
    try clear hfz36_6
    try clear hfz36_7
    try clear hfz36_8
    try clear hfz36_9
    obtain ⟨kq, x67_2, rfl, HA, HJ2, BK128, BK129, HB⟩ := hcut
    cases kq with
    | zero => exact absurd HA.out (by simp [gaugerref06_Same.j0])
    | succ kj2 =>
      have H := HA.out
      clear HA
      simp only [gaugerref06_Same.j0] at H
      by_cases c37 : x67_2 = true
      · subst c37
        have H1 : (some false) = some r := by rw [if_pos rfl] at H; exact H
        clear H
        have H := H1
        clear H1
        obtain rfl := Option.some.inj H
        go_wp2
        repeat (go_quiet (fail); try go_wp2)
        go_ret
        exact ⟨by first | rfl | (simp [errW_none, errW_some] <;> rfl) | (simp [*, errW_none, errW_some] <;> rfl), by repeat (first | (with_reducible first | exact HB.out | apply below_alloc | apply pw_below_drewN | apply below_drew1 | refine below_set ?_ GE128.out | refine below_set ?_ GE129.out) | exact HB.out)⟩
      · replace c37 := Bool.eq_false_iff.mpr c37
        subst c37
        have H1 : (gaugerref06_Same.l0 kj2 0 a0_0 a0_1 a0_2 a0_3 l0_4 a0_5 a0_6 a0_7 a0_8 l0_9 l0_10 a1_0 a1_1 a1_2 a1_3 l1_4 a1_5 a1_6 a1_7 a1_8 l1_9 l1_10) = some r := by rw [if_neg (show ¬ (false = true) by decide)] at H; exact H
        clear H
        have H := H1
        clear H1
        have H' := Aside0.mk H
        clear H
        go_wp2
        repeat (go_quiet (fail); try go_wp2)
        go_loopg [5] kj2 (fun kq v5 w' => ∃ (x5_2 : Int), v5 = .int .i64 x5_2 ∧ Aside0 (gaugerref06_Same.l0 kq x5_2 a0_0 a0_1 a0_2 a0_3 l0_4 a0_5 a0_6 a0_7 a0_8 l0_9 l0_10 a1_0 a1_1 a1_2 a1_3 l1_4 a1_5 a1_6 a1_7 a1_8 l1_9 l1_10 = some r) ∧ Aside0 (kq ≤ kj2) ∧ Aside0 (w'.heap[gb128]? = some (.cells #[.int .i64 a0_0, .int .i64 a0_1, .int .i64 a0_2, .int .i64 a0_3, (.slice A0_4 l0_4.length c0_4), .int .i64 a0_5, .int .i64 a0_6, .string a0_7, .string a0_8, (.slice A0_9 l0_9.length c0_9), (.slice A0_10 l0_10.length c0_10)] 58 (0, 0))) ∧ Aside0 (w'.heap[gb129]? = some (.cells #[.int .i64 a1_0, .int .i64 a1_1, .int .i64 a1_2, .int .i64 a1_3, (.slice A1_4 l1_4.length c1_4), .int .i64 a1_5, .int .i64 a1_6, .string a1_7, .string a1_8, (.slice A1_9 l1_9.length c1_9), (.slice A1_10 l1_10.length c1_10)] 58 (0, 0))) ∧ Aside0 (Below w.heap.size w w'))
        case atStart => exact ⟨(0), (by first | rfl | (simp; done) | (simp [*]; done)), H', ⟨Nat.le_refl _⟩, ⟨by (with_reducible repeat (first | refine blk_drewN ?_ _ | refine blk_drew ?_ | refine blk_alloc ?_ _)); exact BK128.out⟩, ⟨by (with_reducible repeat (first | refine blk_drewN ?_ _ | refine blk_drew ?_ | refine blk_alloc ?_ _)); exact BK129.out⟩, ⟨by repeat (first | (with_reducible first | exact HB.out | apply below_alloc | apply pw_below_drewN | apply below_drew1 | refine below_set ?_ GE128.out | refine below_set ?_ GE129.out) | exact HB.out)⟩⟩
        case round =>
          clear H'
          try clear c1
          try clear c2
          try clear p2
          try clear c3
          try clear c6
          try clear c6b0
          try clear c6b1
          try clear c7
          try clear c7b0
          try clear c7b1
          try clear c8
          try clear c8b0
          try clear c8b1
          try clear c9
          try clear c9b0
          try clear c9b1
          try clear c10
          try clear c10b0
          try clear c11
          try clear c14
          try clear c14b0
          try clear c14b1
          try clear c14b2
          try clear c15
          try clear c15b0
          try clear c15b1
          try clear c15b2
          try clear c16
          try clear c19
          try clear c22
          try clear c25
          try clear c28
          try clear c31
          try clear c34
          try clear c37
          try clear hcz12_0
          try clear hcz12_1
          try clear hcz12_10
          try clear hcz12_2
          try clear hcz12_3
          try clear hcz12_4
          try clear hcz12_5
          try clear hcz12_6
          try clear hcz12_7
          try clear hcz12_8
          try clear hcz12_9
          try clear hcz13_0
          try clear hcz13_1
          try clear hcz13_10
          try clear hcz13_2
          try clear hcz13_3
          try clear hcz13_4
          try clear hcz13_5
          try clear hcz13_6
          try clear hcz13_7
          try clear hcz13_8
          try clear hcz13_9
          try clear hcz17_0
          try clear hcz17_1
          try clear hcz17_10
          try clear hcz17_2
          try clear hcz17_3
          try clear hcz17_4
          try clear hcz17_5
          try clear hcz17_6
          try clear hcz17_7
          try clear hcz17_8
          try clear hcz17_9
          try clear hcz18_0
          try clear hcz18_1
          try clear hcz18_10
          try clear hcz18_2
          try clear hcz18_3
          try clear hcz18_4
          try clear hcz18_5
          try clear hcz18_6
          try clear hcz18_7
          try clear hcz18_8
          try clear hcz18_9
          try clear hcz20_0
          try clear hcz20_1
          try clear hcz20_10
          try clear hcz20_2
          try clear hcz20_3
          try clear hcz20_4
          try clear hcz20_5
          try clear hcz20_6
          try clear hcz20_7
          try clear hcz20_8
          try clear hcz20_9
          try clear hcz21_0
          try clear hcz21_1
          try clear hcz21_10
          try clear hcz21_2
          try clear hcz21_3
          try clear hcz21_4
          try clear hcz21_5
          try clear hcz21_6
          try clear hcz21_7
          try clear hcz21_8
          try clear hcz21_9
          try clear hcz23_0
          try clear hcz23_1
          try clear hcz23_10
          try clear hcz23_2
          try clear hcz23_3
          try clear hcz23_4
          try clear hcz23_5
          try clear hcz23_6
          try clear hcz23_7
          try clear hcz23_8
          try clear hcz23_9
          try clear hcz24_0
          try clear hcz24_1
          try clear hcz24_10
          try clear hcz24_2
          try clear hcz24_3
          try clear hcz24_4
          try clear hcz24_5
          try clear hcz24_6
          try clear hcz24_7
          try clear hcz24_8
          try clear hcz24_9
          try clear hcz26_0
          try clear hcz26_1
          try clear hcz26_10
          try clear hcz26_2
          try clear hcz26_3
          try clear hcz26_4
          try clear hcz26_5
          try clear hcz26_6
          try clear hcz26_7
          try clear hcz26_8
          try clear hcz26_9
          try clear hcz27_0
          try clear hcz27_1
          try clear hcz27_10
          try clear hcz27_2
          try clear hcz27_3
          try clear hcz27_4
          try clear hcz27_5
          try clear hcz27_6
          try clear hcz27_7
          try clear hcz27_8
          try clear hcz27_9
          try clear hcz29_0
          try clear hcz29_1
          try clear hcz29_10
          try clear hcz29_2
          try clear hcz29_3
          try clear hcz29_4
          try clear hcz29_5
          try clear hcz29_6
          try clear hcz29_7
          try clear hcz29_8
          try clear hcz29_9
          try clear hcz30_0
          try clear hcz30_1
          try clear hcz30_10
          try clear hcz30_2
          try clear hcz30_3
          try clear hcz30_4
          try clear hcz30_5
          try clear hcz30_6
          try clear hcz30_7
          try clear hcz30_8
          try clear hcz30_9
          try clear hcz32_0
          try clear hcz32_1
          try clear hcz32_10
          try clear hcz32_2
          try clear hcz32_3
          try clear hcz32_4
          try clear hcz32_5
          try clear hcz32_6
          try clear hcz32_7
          try clear hcz32_8
          try clear hcz32_9
          try clear hcz33_0
          try clear hcz33_1
          try clear hcz33_10
          try clear hcz33_2
          try clear hcz33_3
          try clear hcz33_4
          try clear hcz33_5
          try clear hcz33_6
          try clear hcz33_7
          try clear hcz33_8
          try clear hcz33_9
          try clear hcz35_0
          try clear hcz35_1
          try clear hcz35_10
          try clear hcz35_2
          try clear hcz35_3
          try clear hcz35_4
          try clear hcz35_5
          try clear hcz35_6
          try clear hcz35_7
          try clear hcz35_8
          try clear hcz35_9
          try clear hcz36_0
          try clear hcz36_1
          try clear hcz36_10
          try clear hcz36_2
          try clear hcz36_3
          try clear hcz36_4
          try clear hcz36_5
          try clear hcz36_6
          try clear hcz36_7
          try clear hcz36_8
          try clear hcz36_9
          try clear hfz12_0
          try clear hfz12_1
          try clear hfz12_10
          try clear hfz12_2
          try clear hfz12_3
          try clear hfz12_4
          try clear hfz12_5
          try clear hfz12_6
          try clear hfz12_7
          try clear hfz12_8
          try clear hfz12_9
          try clear hfz13_0
          try clear hfz13_1
          try clear hfz13_10
          try clear hfz13_2
          try clear hfz13_3
          try clear hfz13_4
          try clear hfz13_5
          try clear hfz13_6
          try clear hfz13_7
          try clear hfz13_8
          try clear hfz13_9
          try clear hfz17_0
          try clear hfz17_1
          try clear hfz17_10
          try clear hfz17_2
          try clear hfz17_3
          try clear hfz17_4
          try clear hfz17_5
          try clear hfz17_6
          try clear hfz17_7
          try clear hfz17_8
          try clear hfz17_9
          try clear hfz18_0
          try clear hfz18_1
          try clear hfz18_10
          try clear hfz18_2
          try clear hfz18_3
          try clear hfz18_4
          try clear hfz18_5
          try clear hfz18_6
          try clear hfz18_7
          try clear hfz18_8
          try clear hfz18_9
          try clear hfz20_0
          try clear hfz20_1
          try clear hfz20_10
          try clear hfz20_2
          try clear hfz20_3
          try clear hfz20_4
          try clear hfz20_5
          try clear hfz20_6
          try clear hfz20_7
          try clear hfz20_8
          try clear hfz20_9
          try clear hfz21_0
          try clear hfz21_1
          try clear hfz21_10
          try clear hfz21_2
          try clear hfz21_3
          try clear hfz21_4
          try clear hfz21_5
          try clear hfz21_6
          try clear hfz21_7
          try clear hfz21_8
          try clear hfz21_9
          try clear hfz23_0
          try clear hfz23_1
          try clear hfz23_10
          try clear hfz23_2
          try clear hfz23_3
          try clear hfz23_4
          try clear hfz23_5
          try clear hfz23_6
          try clear hfz23_7
          try clear hfz23_8
          try clear hfz23_9
          try clear hfz24_0
          try clear hfz24_1
          try clear hfz24_10
          try clear hfz24_2
          try clear hfz24_3
          try clear hfz24_4
          try clear hfz24_5
          try clear hfz24_6
          try clear hfz24_7
          try clear hfz24_8
          try clear hfz24_9
          try clear hfz26_0
          try clear hfz26_1
          try clear hfz26_10
          try clear hfz26_2
          try clear hfz26_3
          try clear hfz26_4
          try clear hfz26_5
          try clear hfz26_6
          try clear hfz26_7
          try clear hfz26_8
          try clear hfz26_9
          try clear hfz27_0
          try clear hfz27_1
          try clear hfz27_10
          try clear hfz27_2
          try clear hfz27_3
          try clear hfz27_4
          try clear hfz27_5
          try clear hfz27_6
          try clear hfz27_7
          try clear hfz27_8
          try clear hfz27_9
          try clear hfz29_0
          try clear hfz29_1
          try clear hfz29_10
          try clear hfz29_2
          try clear hfz29_3
          try clear hfz29_4
          try clear hfz29_5
          try clear hfz29_6
          try clear hfz29_7
          try clear hfz29_8
          try clear hfz29_9
          try clear hfz30_0
          try clear hfz30_1
          try clear hfz30_10
          try clear hfz30_2
          try clear hfz30_3
          try clear hfz30_4
          try clear hfz30_5
          try clear hfz30_6
          try clear hfz30_7
          try clear hfz30_8
          try clear hfz30_9
          try clear hfz32_0
          try clear hfz32_1
          try clear hfz32_10
          try clear hfz32_2
          try clear hfz32_3
          try clear hfz32_4
          try clear hfz32_5
          try clear hfz32_6
          try clear hfz32_7
          try clear hfz32_8
          try clear hfz32_9
          try clear hfz33_0
          try clear hfz33_1
          try clear hfz33_10
          try clear hfz33_2
          try clear hfz33_3
          try clear hfz33_4
          try clear hfz33_5
          try clear hfz33_6
          try clear hfz33_7
          try clear hfz33_8
          try clear hfz33_9
          try clear hfz35_0
          try clear hfz35_1
          try clear hfz35_10
          try clear hfz35_2
          try clear hfz35_3
          try clear hfz35_4
          try clear hfz35_5
          try clear hfz35_6
          try clear hfz35_7
          try clear hfz35_8
          try clear hfz35_9
          try clear hfz36_0
          try clear hfz36_1
          try clear hfz36_10
          try clear hfz36_2
          try clear hfz36_3
          try clear hfz36_4
          try clear hfz36_5
          try clear hfz36_6
          try clear hfz36_7
          try clear hfz36_8
          try clear hfz36_9
          try clear p2
          obtain ⟨x5_2, rfl, HA, HK2, BK128, BK129, HB⟩ := hrel
          cases gk with
          | zero => exact absurd HA.out (by simp [gaugerref06_Same.l0])
          | succ k2 =>
            have H := HA.out
            clear HA
            simp only [gaugerref06_Same.l0] at H
            by_cases c38 : x5_2 < (l0_4.length : Int)
            · rw [if_pos c38] at H
              have c38b0 : decide (x5_2 < (l0_4.length : Int)) = true := decide_eq_true c38
              clear c38
              by_cases c39 : 0 ≤ x5_2
              · rw [if_pos c39] at H
                have c39b0 : decide (0 ≤ x5_2) = true := decide_eq_true c39
                clear c39
                by_cases c40 : x5_2 < (l1_4.length : Int)
                · rw [if_pos c40] at H
                  have c40b0 : decide (x5_2 < (l1_4.length : Int)) = true := decide_eq_true c40
                  clear c40
                  by_cases c41 : (!(((rd_T161 l0_4 x5_2).f0) == ((rd_T161 l1_4 x5_2).f0)) || (!((((rd_T161 l0_4 x5_2).f1).toList) == (((rd_T161 l1_4 x5_2).f1).toList)))) = true
                  · rw [if_pos c41] at H
                    have c41b0 : (!(((rd_T161 l0_4 x5_2).f0) == ((rd_T161 l1_4 x5_2).f0)) || (!((((rd_T161 l0_4 x5_2).f1).toList) == (((rd_T161 l1_4 x5_2).f1).toList)))) = true := c41
                    clear c41
                    obtain rfl := Option.some.inj H
                    have hnb42 := NB128_129.out
                    have hnc42 := NB129_128.out
                    have hcz43_0 : wr.cell? ⟨gb128, 0, none⟩ = some (.int .i64 a0_0) := (blk_cell BK128.out 0).trans rfl
                    have hcz43_1 : wr.cell? ⟨gb128, 1, none⟩ = some (.int .i64 a0_1) := (blk_cell BK128.out 1).trans rfl
                    have hcz43_2 : wr.cell? ⟨gb128, 2, none⟩ = some (.int .i64 a0_2) := (blk_cell BK128.out 2).trans rfl
                    have hcz43_3 : wr.cell? ⟨gb128, 3, none⟩ = some (.int .i64 a0_3) := (blk_cell BK128.out 3).trans rfl
                    have hcz43_4 : wr.cell? ⟨gb128, 4, none⟩ = some (.slice A0_4 l0_4.length c0_4) := (blk_cell BK128.out 4).trans rfl
                    have hcz43_5 : wr.cell? ⟨gb128, 5, none⟩ = some (.int .i64 a0_5) := (blk_cell BK128.out 5).trans rfl
                    have hcz43_6 : wr.cell? ⟨gb128, 6, none⟩ = some (.int .i64 a0_6) := (blk_cell BK128.out 6).trans rfl
                    have hcz43_7 : wr.cell? ⟨gb128, 7, none⟩ = some (.string a0_7) := (blk_cell BK128.out 7).trans rfl
                    have hcz43_8 : wr.cell? ⟨gb128, 8, none⟩ = some (.string a0_8) := (blk_cell BK128.out 8).trans rfl
                    have hcz43_9 : wr.cell? ⟨gb128, 9, none⟩ = some (.slice A0_9 l0_9.length c0_9) := (blk_cell BK128.out 9).trans rfl
                    have hcz43_10 : wr.cell? ⟨gb128, 10, none⟩ = some (.slice A0_10 l0_10.length c0_10) := (blk_cell BK128.out 10).trans rfl
                    have hfz43_0 := blk_frozen BK128.out 0
                    have hfz43_1 := blk_frozen BK128.out 1
                    have hfz43_2 := blk_frozen BK128.out 2
                    have hfz43_3 := blk_frozen BK128.out 3
                    have hfz43_4 := blk_frozen BK128.out 4
                    have hfz43_5 := blk_frozen BK128.out 5
                    have hfz43_6 := blk_frozen BK128.out 6
                    have hfz43_7 := blk_frozen BK128.out 7
                    have hfz43_8 := blk_frozen BK128.out 8
                    have hfz43_9 := blk_frozen BK128.out 9
                    have hfz43_10 := blk_frozen BK128.out 10
                    have p130 : 0 ≤ (x5_2 : Int) := of_decide_eq_true (by first | (with_reducible assumption) | assumption)
                    have q130 : x5_2 < (l0_4.length : Int) := of_decide_eq_true (by first | (with_reducible assumption) | assumption)
                    obtain ⟨ad130, e130, hx130_0, hx130_1⟩ := at_T161 HR0_4.out x5_2 p130 q130
                    cases e130
                    replace hx130_0 := (HB.out.cell (World.block_lt_of_cell? w _ hx130_0)).trans hx130_0
                    replace hx130_1 := (HB.out.cell (World.block_lt_of_cell? w _ hx130_1)).trans hx130_1
                    replace p130 := eq_true p130
                    replace q130 := eq_true q130
                    have hcz44_0 : wr.cell? ⟨gb129, 0, none⟩ = some (.int .i64 a1_0) := (blk_cell BK129.out 0).trans rfl
                    have hcz44_1 : wr.cell? ⟨gb129, 1, none⟩ = some (.int .i64 a1_1) := (blk_cell BK129.out 1).trans rfl
                    have hcz44_2 : wr.cell? ⟨gb129, 2, none⟩ = some (.int .i64 a1_2) := (blk_cell BK129.out 2).trans rfl
                    have hcz44_3 : wr.cell? ⟨gb129, 3, none⟩ = some (.int .i64 a1_3) := (blk_cell BK129.out 3).trans rfl
                    have hcz44_4 : wr.cell? ⟨gb129, 4, none⟩ = some (.slice A1_4 l1_4.length c1_4) := (blk_cell BK129.out 4).trans rfl
                    have hcz44_5 : wr.cell? ⟨gb129, 5, none⟩ = some (.int .i64 a1_5) := (blk_cell BK129.out 5).trans rfl
                    have hcz44_6 : wr.cell? ⟨gb129, 6, none⟩ = some (.int .i64 a1_6) := (blk_cell BK129.out 6).trans rfl
                    have hcz44_7 : wr.cell? ⟨gb129, 7, none⟩ = some (.string a1_7) := (blk_cell BK129.out 7).trans rfl
                    have hcz44_8 : wr.cell? ⟨gb129, 8, none⟩ = some (.string a1_8) := (blk_cell BK129.out 8).trans rfl
                    have hcz44_9 : wr.cell? ⟨gb129, 9, none⟩ = some (.slice A1_9 l1_9.length c1_9) := (blk_cell BK129.out 9).trans rfl
                    have hcz44_10 : wr.cell? ⟨gb129, 10, none⟩ = some (.slice A1_10 l1_10.length c1_10) := (blk_cell BK129.out 10).trans rfl
                    have hfz44_0 := blk_frozen BK129.out 0
                    have hfz44_1 := blk_frozen BK129.out 1
                    have hfz44_2 := blk_frozen BK129.out 2
                    have hfz44_3 := blk_frozen BK129.out 3
                    have hfz44_4 := blk_frozen BK129.out 4
                    have hfz44_5 := blk_frozen BK129.out 5
                    have hfz44_6 := blk_frozen BK129.out 6
                    have hfz44_7 := blk_frozen BK129.out 7
                    have hfz44_8 := blk_frozen BK129.out 8
                    have hfz44_9 := blk_frozen BK129.out 9
                    have hfz44_10 := blk_frozen BK129.out 10
                    have p131 : 0 ≤ (x5_2 : Int) := of_decide_eq_true (by first | (with_reducible assumption) | assumption)
                    have q131 : x5_2 < (l1_4.length : Int) := of_decide_eq_true (by first | (with_reducible assumption) | assumption)
                    obtain ⟨ad131, e131, hx131_0, hx131_1⟩ := at_T161 HR1_4.out x5_2 p131 q131
                    cases e131
                    replace hx131_0 := (HB.out.cell (World.block_lt_of_cell? w _ hx131_0)).trans hx131_0
                    replace hx131_1 := (HB.out.cell (World.block_lt_of_cell? w _ hx131_1)).trans hx131_1
                    replace p131 := eq_true p131
                    replace q131 := eq_true q131
                    go_wp2
                    repeat (go_quiet (fail); try go_wp2)
                    go_ret
                    exact ⟨by first | rfl | (simp [errW_none, errW_some] <;> rfl) | (simp [*, errW_none, errW_some] <;> rfl), by repeat (first | (with_reducible first | exact HB.out | apply below_alloc | apply pw_below_drewN | apply below_drew1 | refine below_set ?_ GE128.out | refine below_set ?_ GE129.out) | exact HB.out)⟩
                  · rw [if_neg c41] at H
                    have c41b0 : (!(((rd_T161 l0_4 x5_2).f0) == ((rd_T161 l1_4 x5_2).f0)) || (!((((rd_T161 l0_4 x5_2).f1).toList) == (((rd_T161 l1_4 x5_2).f1).toList)))) = false := by simpa using c41
                    clear c41
                    have H' := Aside0.mk H
                    clear H
                    have hnb45 := NB128_129.out
                    have hnc45 := NB129_128.out
                    have hcz46_0 : wr.cell? ⟨gb128, 0, none⟩ = some (.int .i64 a0_0) := (blk_cell BK128.out 0).trans rfl
                    have hcz46_1 : wr.cell? ⟨gb128, 1, none⟩ = some (.int .i64 a0_1) := (blk_cell BK128.out 1).trans rfl
                    have hcz46_2 : wr.cell? ⟨gb128, 2, none⟩ = some (.int .i64 a0_2) := (blk_cell BK128.out 2).trans rfl
                    have hcz46_3 : wr.cell? ⟨gb128, 3, none⟩ = some (.int .i64 a0_3) := (blk_cell BK128.out 3).trans rfl
                    have hcz46_4 : wr.cell? ⟨gb128, 4, none⟩ = some (.slice A0_4 l0_4.length c0_4) := (blk_cell BK128.out 4).trans rfl
                    have hcz46_5 : wr.cell? ⟨gb128, 5, none⟩ = some (.int .i64 a0_5) := (blk_cell BK128.out 5).trans rfl
                    have hcz46_6 : wr.cell? ⟨gb128, 6, none⟩ = some (.int .i64 a0_6) := (blk_cell BK128.out 6).trans rfl
                    have hcz46_7 : wr.cell? ⟨gb128, 7, none⟩ = some (.string a0_7) := (blk_cell BK128.out 7).trans rfl
                    have hcz46_8 : wr.cell? ⟨gb128, 8, none⟩ = some (.string a0_8) := (blk_cell BK128.out 8).trans rfl
                    have hcz46_9 : wr.cell? ⟨gb128, 9, none⟩ = some (.slice A0_9 l0_9.length c0_9) := (blk_cell BK128.out 9).trans rfl
                    have hcz46_10 : wr.cell? ⟨gb128, 10, none⟩ = some (.slice A0_10 l0_10.length c0_10) := (blk_cell BK128.out 10).trans rfl
                    have hfz46_0 := blk_frozen BK128.out 0
                    have hfz46_1 := blk_frozen BK128.out 1
                    have hfz46_2 := blk_frozen BK128.out 2
                    have hfz46_3 := blk_frozen BK128.out 3
                    have hfz46_4 := blk_frozen BK128.out 4
                    have hfz46_5 := blk_frozen BK128.out 5
                    have hfz46_6 := blk_frozen BK128.out 6
                    have hfz46_7 := blk_frozen BK128.out 7
                    have hfz46_8 := blk_frozen BK128.out 8
                    have hfz46_9 := blk_frozen BK128.out 9
                    have hfz46_10 := blk_frozen BK128.out 10
                    have p130 : 0 ≤ (x5_2 : Int) := of_decide_eq_true (by first | (with_reducible assumption) | assumption)
                    have q130 : x5_2 < (l0_4.length : Int) := of_decide_eq_true (by first | (with_reducible assumption) | assumption)
                    obtain ⟨ad130, e130, hx130_0, hx130_1⟩ := at_T161 HR0_4.out x5_2 p130 q130
                    cases e130
                    replace hx130_0 := (HB.out.cell (World.block_lt_of_cell? w _ hx130_0)).trans hx130_0
                    replace hx130_1 := (HB.out.cell (World.block_lt_of_cell? w _ hx130_1)).trans hx130_1
                    replace p130 := eq_true p130
                    replace q130 := eq_true q130
                    have hcz47_0 : wr.cell? ⟨gb129, 0, none⟩ = some (.int .i64 a1_0) := (blk_cell BK129.out 0).trans rfl
                    have hcz47_1 : wr.cell? ⟨gb129, 1, none⟩ = some (.int .i64 a1_1) := (blk_cell BK129.out 1).trans rfl
                    have hcz47_2 : wr.cell? ⟨gb129, 2, none⟩ = some (.int .i64 a1_2) := (blk_cell BK129.out 2).trans rfl
                    have hcz47_3 : wr.cell? ⟨gb129, 3, none⟩ = some (.int .i64 a1_3) := (blk_cell BK129.out 3).trans rfl
                    have hcz47_4 : wr.cell? ⟨gb129, 4, none⟩ = some (.slice A1_4 l1_4.length c1_4) := (blk_cell BK129.out 4).trans rfl
                    have hcz47_5 : wr.cell? ⟨gb129, 5, none⟩ = some (.int .i64 a1_5) := (blk_cell BK129.out 5).trans rfl
                    have hcz47_6 : wr.cell? ⟨gb129, 6, none⟩ = some (.int .i64 a1_6) := (blk_cell BK129.out 6).trans rfl
                    have hcz47_7 : wr.cell? ⟨gb129, 7, none⟩ = some (.string a1_7) := (blk_cell BK129.out 7).trans rfl
                    have hcz47_8 : wr.cell? ⟨gb129, 8, none⟩ = some (.string a1_8) := (blk_cell BK129.out 8).trans rfl
                    have hcz47_9 : wr.cell? ⟨gb129, 9, none⟩ = some (.slice A1_9 l1_9.length c1_9) := (blk_cell BK129.out 9).trans rfl
                    have hcz47_10 : wr.cell? ⟨gb129, 10, none⟩ = some (.slice A1_10 l1_10.length c1_10) := (blk_cell BK129.out 10).trans rfl
                    have hfz47_0 := blk_frozen BK129.out 0
                    have hfz47_1 := blk_frozen BK129.out 1
                    have hfz47_2 := blk_frozen BK129.out 2
                    have hfz47_3 := blk_frozen BK129.out 3
                    have hfz47_4 := blk_frozen BK129.out 4
                    have hfz47_5 := blk_frozen BK129.out 5
                    have hfz47_6 := blk_frozen BK129.out 6
                    have hfz47_7 := blk_frozen BK129.out 7
                    have hfz47_8 := blk_frozen BK129.out 8
                    have hfz47_9 := blk_frozen BK129.out 9
                    have hfz47_10 := blk_frozen BK129.out 10
                    have p131 : 0 ≤ (x5_2 : Int) := of_decide_eq_true (by first | (with_reducible assumption) | assumption)
                    have q131 : x5_2 < (l1_4.length : Int) := of_decide_eq_true (by first | (with_reducible assumption) | assumption)
                    obtain ⟨ad131, e131, hx131_0, hx131_1⟩ := at_T161 HR1_4.out x5_2 p131 q131
                    cases e131
                    replace hx131_0 := (HB.out.cell (World.block_lt_of_cell? w _ hx131_0)).trans hx131_0
                    replace hx131_1 := (HB.out.cell (World.block_lt_of_cell? w _ hx131_1)).trans hx131_1
                    replace p131 := eq_true p131
                    replace q131 := eq_true q131
                    go_wp2
                    repeat (go_quiet (fail); try go_wp2)
                    go_roundg k2
                    case measure => have := HJ2.out; have := HK2.out; omega
                    case rel => exact ⟨(wrap64 (x5_2 + 1)), (by first | rfl | (simp; done) | (simp [*]; done)), H', ⟨by have := HJ2.out; have := HK2.out; omega⟩, ⟨by (with_reducible repeat (first | refine blk_drewN ?_ _ | refine blk_drew ?_ | refine blk_alloc ?_ _)); exact BK128.out⟩, ⟨by (with_reducible repeat (first | refine blk_drewN ?_ _ | refine blk_drew ?_ | refine blk_alloc ?_ _)); exact BK129.out⟩, ⟨by repeat (first | (with_reducible first | exact HB.out | apply below_alloc | apply pw_below_drewN | apply below_drew1 | refine below_set ?_ GE128.out | refine below_set ?_ GE129.out) | exact HB.out)⟩⟩
                · rw [if_neg c40] at H
                  exact absurd H (by simp)
              · rw [if_neg c39] at H
                exact absurd H (by simp)
            · rw [if_neg c38] at H
              have c38b0 : decide (x5_2 < (l0_4.length : Int)) = false := decide_eq_false c38
              clear c38
              have H' := Aside0.mk H
              clear H
              have hnb48 := NB128_129.out
              have hnc48 := NB129_128.out
              have hcz49_0 : wr.cell? ⟨gb128, 0, none⟩ = some (.int .i64 a0_0) := (blk_cell BK128.out 0).trans rfl
              have hcz49_1 : wr.cell? ⟨gb128, 1, none⟩ = some (.int .i64 a0_1) := (blk_cell BK128.out 1).trans rfl
              have hcz49_2 : wr.cell? ⟨gb128, 2, none⟩ = some (.int .i64 a0_2) := (blk_cell BK128.out 2).trans rfl
              have hcz49_3 : wr.cell? ⟨gb128, 3, none⟩ = some (.int .i64 a0_3) := (blk_cell BK128.out 3).trans rfl
              have hcz49_4 : wr.cell? ⟨gb128, 4, none⟩ = some (.slice A0_4 l0_4.length c0_4) := (blk_cell BK128.out 4).trans rfl
              have hcz49_5 : wr.cell? ⟨gb128, 5, none⟩ = some (.int .i64 a0_5) := (blk_cell BK128.out 5).trans rfl
              have hcz49_6 : wr.cell? ⟨gb128, 6, none⟩ = some (.int .i64 a0_6) := (blk_cell BK128.out 6).trans rfl
              have hcz49_7 : wr.cell? ⟨gb128, 7, none⟩ = some (.string a0_7) := (blk_cell BK128.out 7).trans rfl
              have hcz49_8 : wr.cell? ⟨gb128, 8, none⟩ = some (.string a0_8) := (blk_cell BK128.out 8).trans rfl
              have hcz49_9 : wr.cell? ⟨gb128, 9, none⟩ = some (.slice A0_9 l0_9.length c0_9) := (blk_cell BK128.out 9).trans rfl
              have hcz49_10 : wr.cell? ⟨gb128, 10, none⟩ = some (.slice A0_10 l0_10.length c0_10) := (blk_cell BK128.out 10).trans rfl
              have hfz49_0 := blk_frozen BK128.out 0
              have hfz49_1 := blk_frozen BK128.out 1
              have hfz49_2 := blk_frozen BK128.out 2
              have hfz49_3 := blk_frozen BK128.out 3
              have hfz49_4 := blk_frozen BK128.out 4
              have hfz49_5 := blk_frozen BK128.out 5
              have hfz49_6 := blk_frozen BK128.out 6
              have hfz49_7 := blk_frozen BK128.out 7
              have hfz49_8 := blk_frozen BK128.out 8
              have hfz49_9 := blk_frozen BK128.out 9
              have hfz49_10 := blk_frozen BK128.out 10
              go_wp2
              repeat (go_quiet (fail); try go_wp2)
              go_loopg [6] k2 (fun kq v6 w' => ∃ (x6_3 : Int), v6 = .int .i64 x6_3 ∧ Aside0 (gaugerref06_Same.l1 kq x6_3 a0_0 a0_1 a0_2 a0_3 l0_4 a0_5 a0_6 a0_7 a0_8 l0_9 l0_10 a1_0 a1_1 a1_2 a1_3 l1_4 a1_5 a1_6 a1_7 a1_8 l1_9 l1_10 = some r) ∧ Aside0 (kq ≤ k2) ∧ Aside0 (w'.heap[gb128]? = some (.cells #[.int .i64 a0_0, .int .i64 a0_1, .int .i64 a0_2, .int .i64 a0_3, (.slice A0_4 l0_4.length c0_4), .int .i64 a0_5, .int .i64 a0_6, .string a0_7, .string a0_8, (.slice A0_9 l0_9.length c0_9), (.slice A0_10 l0_10.length c0_10)] 58 (0, 0))) ∧ Aside0 (w'.heap[gb129]? = some (.cells #[.int .i64 a1_0, .int .i64 a1_1, .int .i64 a1_2, .int .i64 a1_3, (.slice A1_4 l1_4.length c1_4), .int .i64 a1_5, .int .i64 a1_6, .string a1_7, .string a1_8, (.slice A1_9 l1_9.length c1_9), (.slice A1_10 l1_10.length c1_10)] 58 (0, 0))) ∧ Aside0 (Below w.heap.size w w'))
              case atStart => exact ⟨(0), (by first | rfl | (simp; done) | (simp [*]; done)), H', ⟨Nat.le_refl _⟩, ⟨by (with_reducible repeat (first | refine blk_drewN ?_ _ | refine blk_drew ?_ | refine blk_alloc ?_ _)); exact BK128.out⟩, ⟨by (with_reducible repeat (first | refine blk_drewN ?_ _ | refine blk_drew ?_ | refine blk_alloc ?_ _)); exact BK129.out⟩, ⟨by repeat (first | (with_reducible first | exact HB.out | apply below_alloc | apply pw_below_drewN | apply below_drew1 | refine below_set ?_ GE128.out | refine below_set ?_ GE129.out) | exact HB.out)⟩⟩
              case round =>
                clear H'
                try clear c1
                try clear p1
                try clear q1
                try clear hx1
                try clear c2
                try clear p2
                try clear c3
                try clear c4
                try clear c6
                try clear c6b0
                try clear c6b1
                try clear p6
                try clear c7
                try clear c7b0
                try clear c7b1
                try clear c8
                try clear c8b0
                try clear c8b1
                try clear c9
                try clear c9b0
                try clear c9b1
                try clear c10
                try clear c10b0
                try clear c11
                try clear p13
                try clear q13
                try clear hx13
                try clear c14
                try clear c14b0
                try clear c14b1
                try clear c14b2
                try clear c15
                try clear c15b0
                try clear c15b1
                try clear c15b2
                try clear c16
                try clear c19
                try clear c22
                try clear c25
                try clear c28
                try clear c31
                try clear c34
                try clear c37
                try clear c38
                try clear c38b0
                try clear c39
                try clear c39b0
                try clear c40
                try clear c40b0
                try clear c41
                try clear c41b0
                try clear c42
                try clear c45
                try clear c48
                try clear hcz12_0
                try clear hcz12_1
                try clear hcz12_10
                try clear hcz12_2
                try clear hcz12_3
                try clear hcz12_4
                try clear hcz12_5
                try clear hcz12_6
                try clear hcz12_7
                try clear hcz12_8
                try clear hcz12_9
                try clear hcz13_0
                try clear hcz13_1
                try clear hcz13_10
                try clear hcz13_2
                try clear hcz13_3
                try clear hcz13_4
                try clear hcz13_5
                try clear hcz13_6
                try clear hcz13_7
                try clear hcz13_8
                try clear hcz13_9
                try clear hcz17_0
                try clear hcz17_1
                try clear hcz17_10
                try clear hcz17_2
                try clear hcz17_3
                try clear hcz17_4
                try clear hcz17_5
                try clear hcz17_6
                try clear hcz17_7
                try clear hcz17_8
                try clear hcz17_9
                try clear hcz18_0
                try clear hcz18_1
                try clear hcz18_10
                try clear hcz18_2
                try clear hcz18_3
                try clear hcz18_4
                try clear hcz18_5
                try clear hcz18_6
                try clear hcz18_7
                try clear hcz18_8
                try clear hcz18_9
                try clear hcz20_0
                try clear hcz20_1
                try clear hcz20_10
                try clear hcz20_2
                try clear hcz20_3
                try clear hcz20_4
                try clear hcz20_5
                try clear hcz20_6
                try clear hcz20_7
                try clear hcz20_8
                try clear hcz20_9
                try clear hcz21_0
                try clear hcz21_1
                try clear hcz21_10
                try clear hcz21_2
                try clear hcz21_3
                try clear hcz21_4
                try clear hcz21_5
                try clear hcz21_6
                try clear hcz21_7
                try clear hcz21_8
                try clear hcz21_9
                try clear hcz23_0
                try clear hcz23_1
                try clear hcz23_10
                try clear hcz23_2
                try clear hcz23_3
                try clear hcz23_4
                try clear hcz23_5
                try clear hcz23_6
                try clear hcz23_7
                try clear hcz23_8
                try clear hcz23_9
                try clear hcz24_0
                try clear hcz24_1
                try clear hcz24_10
                try clear hcz24_2
                try clear hcz24_3
                try clear hcz24_4
                try clear hcz24_5
                try clear hcz24_6
                try clear hcz24_7
                try clear hcz24_8
                try clear hcz24_9
                try clear hcz26_0
                try clear hcz26_1
                try clear hcz26_10
                try clear hcz26_2
                try clear hcz26_3
                try clear hcz26_4
                try clear hcz26_5
                try clear hcz26_6
                try clear hcz26_7
                try clear hcz26_8
                try clear hcz26_9
                try clear hcz27_0
                try clear hcz27_1
                try clear hcz27_10
                try clear hcz27_2
                try clear hcz27_3
                try clear hcz27_4
                try clear hcz27_5
                try clear hcz27_6
                try clear hcz27_7
                try clear hcz27_8
                try clear hcz27_9
                try clear hcz29_0
                try clear hcz29_1
                try clear hcz29_10
                try clear hcz29_2
                try clear hcz29_3
                try clear hcz29_4
                try clear hcz29_5
                try clear hcz29_6
                try clear hcz29_7
                try clear hcz29_8
                try clear hcz29_9
                try clear hcz30_0
                try clear hcz30_1
                try clear hcz30_10
                try clear hcz30_2
                try clear hcz30_3
                try clear hcz30_4
                try clear hcz30_5
                try clear hcz30_6
                try clear hcz30_7
                try clear hcz30_8
                try clear hcz30_9
                try clear hcz32_0
                try clear hcz32_1
                try clear hcz32_10
                try clear hcz32_2
                try clear hcz32_3
                try clear hcz32_4
                try clear hcz32_5
                try clear hcz32_6
                try clear hcz32_7
                try clear hcz32_8
                try clear hcz32_9
                try clear hcz33_0
                try clear hcz33_1
                try clear hcz33_10
                try clear hcz33_2
                try clear hcz33_3
                try clear hcz33_4
                try clear hcz33_5
                try clear hcz33_6
                try clear hcz33_7
                try clear hcz33_8
                try clear hcz33_9
                try clear hcz35_0
                try clear hcz35_1
                try clear hcz35_10
                try clear hcz35_2
                try clear hcz35_3
                try clear hcz35_4
                try clear hcz35_5
                try clear hcz35_6
                try clear hcz35_7
                try clear hcz35_8
                try clear hcz35_9
                try clear hcz36_0
                try clear hcz36_1
                try clear hcz36_10
                try clear hcz36_2
                try clear hcz36_3
                try clear hcz36_4
                try clear hcz36_5
                try clear hcz36_6
                try clear hcz36_7
                try clear hcz36_8
                try clear hcz36_9
                try clear hcz43_0
                try clear hcz43_1
                try clear hcz43_10
                try clear hcz43_2
                try clear hcz43_3
                try clear hcz43_4
                try clear hcz43_5
                try clear hcz43_6
                try clear hcz43_7
                try clear hcz43_8
                try clear hcz43_9
                try clear hcz44_0
                try clear hcz44_1
                try clear hcz44_10
                try clear hcz44_2
                try clear hcz44_3
                try clear hcz44_4
                try clear hcz44_5
                try clear hcz44_6
                try clear hcz44_7
                try clear hcz44_8
                try clear hcz44_9
                try clear hcz46_0
                try clear hcz46_1
                try clear hcz46_10
                try clear hcz46_2
                try clear hcz46_3
                try clear hcz46_4
                try clear hcz46_5
                try clear hcz46_6
                try clear hcz46_7
                try clear hcz46_8
                try clear hcz46_9
                try clear hcz47_0
                try clear hcz47_1
                try clear hcz47_10
                try clear hcz47_2
                try clear hcz47_3
                try clear hcz47_4
                try clear hcz47_5
                try clear hcz47_6
                try clear hcz47_7
                try clear hcz47_8
                try clear hcz47_9
                try clear hcz49_0
                try clear hcz49_1
                try clear hcz49_10
                try clear hcz49_2
                try clear hcz49_3
                try clear hcz49_4
                try clear hcz49_5
                try clear hcz49_6
                try clear hcz49_7
                try clear hcz49_8
                try clear hcz49_9
                try clear hfz12_0
                try clear hfz12_1
                try clear hfz12_10
                try clear hfz12_2
                try clear hfz12_3
                try clear hfz12_4
                try clear hfz12_5
                try clear hfz12_6
                try clear hfz12_7
                try clear hfz12_8
                try clear hfz12_9
                try clear hfz13_0
                try clear hfz13_1
                try clear hfz13_10
                try clear hfz13_2
                try clear hfz13_3
                try clear hfz13_4
                try clear hfz13_5
                try clear hfz13_6
                try clear hfz13_7
                try clear hfz13_8
                try clear hfz13_9
                try clear hfz17_0
                try clear hfz17_1
                try clear hfz17_10
                try clear hfz17_2
                try clear hfz17_3
                try clear hfz17_4
                try clear hfz17_5
                try clear hfz17_6
                try clear hfz17_7
                try clear hfz17_8
                try clear hfz17_9
                try clear hfz18_0
                try clear hfz18_1
                try clear hfz18_10
                try clear hfz18_2
                try clear hfz18_3
                try clear hfz18_4
                try clear hfz18_5
                try clear hfz18_6
                try clear hfz18_7
                try clear hfz18_8
                try clear hfz18_9
                try clear hfz20_0
                try clear hfz20_1
                try clear hfz20_10
                try clear hfz20_2
                try clear hfz20_3
                try clear hfz20_4
                try clear hfz20_5
                try clear hfz20_6
                try clear hfz20_7
                try clear hfz20_8
                try clear hfz20_9
                try clear hfz21_0
                try clear hfz21_1
                try clear hfz21_10
                try clear hfz21_2
                try clear hfz21_3
                try clear hfz21_4
                try clear hfz21_5
                try clear hfz21_6
                try clear hfz21_7
                try clear hfz21_8
                try clear hfz21_9
                try clear hfz23_0
                try clear hfz23_1
                try clear hfz23_10
                try clear hfz23_2
                try clear hfz23_3
                try clear hfz23_4
                try clear hfz23_5
                try clear hfz23_6
                try clear hfz23_7
                try clear hfz23_8
                try clear hfz23_9
                try clear hfz24_0
                try clear hfz24_1
                try clear hfz24_10
                try clear hfz24_2
                try clear hfz24_3
                try clear hfz24_4
                try clear hfz24_5
                try clear hfz24_6
                try clear hfz24_7
                try clear hfz24_8
                try clear hfz24_9
                try clear hfz26_0
                try clear hfz26_1
                try clear hfz26_10
                try clear hfz26_2
                try clear hfz26_3
                try clear hfz26_4
                try clear hfz26_5
                try clear hfz26_6
                try clear hfz26_7
                try clear hfz26_8
                try clear hfz26_9
                try clear hfz27_0
                try clear hfz27_1
                try clear hfz27_10
                try clear hfz27_2
                try clear hfz27_3
                try clear hfz27_4
                try clear hfz27_5
                try clear hfz27_6
                try clear hfz27_7
                try clear hfz27_8
                try clear hfz27_9
                try clear hfz29_0
                try clear hfz29_1
                try clear hfz29_10
                try clear hfz29_2
                try clear hfz29_3
                try clear hfz29_4
                try clear hfz29_5
                try clear hfz29_6
                try clear hfz29_7
                try clear hfz29_8
                try clear hfz29_9
                try clear hfz30_0
                try clear hfz30_1
                try clear hfz30_10
                try clear hfz30_2
                try clear hfz30_3
                try clear hfz30_4
                try clear hfz30_5
                try clear hfz30_6
                try clear hfz30_7
                try clear hfz30_8
                try clear hfz30_9
                try clear hfz32_0
                try clear hfz32_1
                try clear hfz32_10
                try clear hfz32_2
                try clear hfz32_3
                try clear hfz32_4
                try clear hfz32_5
                try clear hfz32_6
                try clear hfz32_7
                try clear hfz32_8
                try clear hfz32_9
                try clear hfz33_0
                try clear hfz33_1
                try clear hfz33_10
                try clear hfz33_2
                try clear hfz33_3
                try clear hfz33_4
                try clear hfz33_5
                try clear hfz33_6
                try clear hfz33_7
                try clear hfz33_8
                try clear hfz33_9
                try clear hfz35_0
                try clear hfz35_1
                try clear hfz35_10
                try clear hfz35_2
                try clear hfz35_3
                try clear hfz35_4
                try clear hfz35_5
                try clear hfz35_6
                try clear hfz35_7
                try clear hfz35_8
                try clear hfz35_9
                try clear hfz36_0
                try clear hfz36_1
                try clear hfz36_10
                try clear hfz36_2
                try clear hfz36_3
                try clear hfz36_4
                try clear hfz36_5
                try clear hfz36_6
                try clear hfz36_7
                try clear hfz36_8
                try clear hfz36_9
                try clear hfz43_0
                try clear hfz43_1
                try clear hfz43_10
                try clear hfz43_2
                try clear hfz43_3
                try clear hfz43_4
                try clear hfz43_5
                try clear hfz43_6
                try clear hfz43_7
                try clear hfz43_8
                try clear hfz43_9
                try clear hfz44_0
                try clear hfz44_1
                try clear hfz44_10
                try clear hfz44_2
                try clear hfz44_3
                try clear hfz44_4
                try clear hfz44_5
                try clear hfz44_6
                try clear hfz44_7
                try clear hfz44_8
                try clear hfz44_9
                try clear hfz46_0
                try clear hfz46_1
                try clear hfz46_10
                try clear hfz46_2
                try clear hfz46_3
                try clear hfz46_4
                try clear hfz46_5
                try clear hfz46_6
                try clear hfz46_7
                try clear hfz46_8
                try clear hfz46_9
                try clear hfz47_0
                try clear hfz47_1
                try clear hfz47_10
                try clear hfz47_2
                try clear hfz47_3
                try clear hfz47_4
                try clear hfz47_5
                try clear hfz47_6
                try clear hfz47_7
                try clear hfz47_8
                try clear hfz47_9
                try clear hfz49_0
                try clear hfz49_1
                try clear hfz49_10
                try clear hfz49_2
                try clear hfz49_3
                try clear hfz49_4
                try clear hfz49_5
                try clear hfz49_6
                try clear hfz49_7
                try clear hfz49_8
                try clear hfz49_9
                try clear hx130_0
                try clear hx130_1
                try clear hx131_0
                try clear hx131_1
                try clear p130
                try clear p131
                try clear p2
                try clear q130
                try clear q131
                obtain ⟨x6_3, rfl, HA, HK3, BK128, BK129, HB⟩ := hrel
                cases gk with
                | zero => exact absurd HA.out (by simp [gaugerref06_Same.l1])
                | succ k3 =>
                  have H := HA.out
                  clear HA
                  simp only [gaugerref06_Same.l1] at H
                  by_cases c50 : x6_3 < (l0_9.length : Int)
                  · rw [if_pos c50] at H
                    have c50b0 : decide (x6_3 < (l0_9.length : Int)) = true := decide_eq_true c50
                    clear c50
                    by_cases c51 : 0 ≤ x6_3
                    · rw [if_pos c51] at H
                      have c51b0 : decide (0 ≤ x6_3) = true := decide_eq_true c51
                      clear c51
                      by_cases c52 : x6_3 < (l1_9.length : Int)
                      · rw [if_pos c52] at H
                        have c52b0 : decide (x6_3 < (l1_9.length : Int)) = true := decide_eq_true c52
                        clear c52
                        by_cases c53 : (!(((rd_T163 l0_9 x6_3).f0) == ((rd_T163 l1_9 x6_3).f0)) || (!(((rd_T163 l0_9 x6_3).f1) == ((rd_T163 l1_9 x6_3).f1)))) = true
                        · rw [if_pos c53] at H
                          have c53b0 : (!(((rd_T163 l0_9 x6_3).f0) == ((rd_T163 l1_9 x6_3).f0)) || (!(((rd_T163 l0_9 x6_3).f1) == ((rd_T163 l1_9 x6_3).f1)))) = true := c53
                          clear c53
                          obtain rfl := Option.some.inj H
                          have hnb54 := NB128_129.out
                          have hnc54 := NB129_128.out
                          have hcz55_0 : wr.cell? ⟨gb128, 0, none⟩ = some (.int .i64 a0_0) := (blk_cell BK128.out 0).trans rfl
                          have hcz55_1 : wr.cell? ⟨gb128, 1, none⟩ = some (.int .i64 a0_1) := (blk_cell BK128.out 1).trans rfl
                          have hcz55_2 : wr.cell? ⟨gb128, 2, none⟩ = some (.int .i64 a0_2) := (blk_cell BK128.out 2).trans rfl
                          have hcz55_3 : wr.cell? ⟨gb128, 3, none⟩ = some (.int .i64 a0_3) := (blk_cell BK128.out 3).trans rfl
                          have hcz55_4 : wr.cell? ⟨gb128, 4, none⟩ = some (.slice A0_4 l0_4.length c0_4) := (blk_cell BK128.out 4).trans rfl
                          have hcz55_5 : wr.cell? ⟨gb128, 5, none⟩ = some (.int .i64 a0_5) := (blk_cell BK128.out 5).trans rfl
                          have hcz55_6 : wr.cell? ⟨gb128, 6, none⟩ = some (.int .i64 a0_6) := (blk_cell BK128.out 6).trans rfl
                          have hcz55_7 : wr.cell? ⟨gb128, 7, none⟩ = some (.string a0_7) := (blk_cell BK128.out 7).trans rfl
                          have hcz55_8 : wr.cell? ⟨gb128, 8, none⟩ = some (.string a0_8) := (blk_cell BK128.out 8).trans rfl
                          have hcz55_9 : wr.cell? ⟨gb128, 9, none⟩ = some (.slice A0_9 l0_9.length c0_9) := (blk_cell BK128.out 9).trans rfl
                          have hcz55_10 : wr.cell? ⟨gb128, 10, none⟩ = some (.slice A0_10 l0_10.length c0_10) := (blk_cell BK128.out 10).trans rfl
                          have hfz55_0 := blk_frozen BK128.out 0
                          have hfz55_1 := blk_frozen BK128.out 1
                          have hfz55_2 := blk_frozen BK128.out 2
                          have hfz55_3 := blk_frozen BK128.out 3
                          have hfz55_4 := blk_frozen BK128.out 4
                          have hfz55_5 := blk_frozen BK128.out 5
                          have hfz55_6 := blk_frozen BK128.out 6
                          have hfz55_7 := blk_frozen BK128.out 7
                          have hfz55_8 := blk_frozen BK128.out 8
                          have hfz55_9 := blk_frozen BK128.out 9
                          have hfz55_10 := blk_frozen BK128.out 10
                          have p132 : 0 ≤ (x6_3 : Int) := of_decide_eq_true (by first | (with_reducible assumption) | assumption)
                          have q132 : x6_3 < (l0_9.length : Int) := of_decide_eq_true (by first | (with_reducible assumption) | assumption)
                          obtain ⟨ad132, e132, hx132_0, hx132_1⟩ := at_T163 HR0_9.out x6_3 p132 q132
                          cases e132
                          replace hx132_0 := (HB.out.cell (World.block_lt_of_cell? w _ hx132_0)).trans hx132_0
                          replace hx132_1 := (HB.out.cell (World.block_lt_of_cell? w _ hx132_1)).trans hx132_1
                          replace p132 := eq_true p132
                          replace q132 := eq_true q132
                          have hcz56_0 : wr.cell? ⟨gb129, 0, none⟩ = some (.int .i64 a1_0) := (blk_cell BK129.out 0).trans rfl
                          have hcz56_1 : wr.cell? ⟨gb129, 1, none⟩ = some (.int .i64 a1_1) := (blk_cell BK129.out 1).trans rfl
                          have hcz56_2 : wr.cell? ⟨gb129, 2, none⟩ = some (.int .i64 a1_2) := (blk_cell BK129.out 2).trans rfl
                          have hcz56_3 : wr.cell? ⟨gb129, 3, none⟩ = some (.int .i64 a1_3) := (blk_cell BK129.out 3).trans rfl
                          have hcz56_4 : wr.cell? ⟨gb129, 4, none⟩ = some (.slice A1_4 l1_4.length c1_4) := (blk_cell BK129.out 4).trans rfl
                          have hcz56_5 : wr.cell? ⟨gb129, 5, none⟩ = some (.int .i64 a1_5) := (blk_cell BK129.out 5).trans rfl
                          have hcz56_6 : wr.cell? ⟨gb129, 6, none⟩ = some (.int .i64 a1_6) := (blk_cell BK129.out 6).trans rfl
                          have hcz56_7 : wr.cell? ⟨gb129, 7, none⟩ = some (.string a1_7) := (blk_cell BK129.out 7).trans rfl
                          have hcz56_8 : wr.cell? ⟨gb129, 8, none⟩ = some (.string a1_8) := (blk_cell BK129.out 8).trans rfl
                          have hcz56_9 : wr.cell? ⟨gb129, 9, none⟩ = some (.slice A1_9 l1_9.length c1_9) := (blk_cell BK129.out 9).trans rfl
                          have hcz56_10 : wr.cell? ⟨gb129, 10, none⟩ = some (.slice A1_10 l1_10.length c1_10) := (blk_cell BK129.out 10).trans rfl
                          have hfz56_0 := blk_frozen BK129.out 0
                          have hfz56_1 := blk_frozen BK129.out 1
                          have hfz56_2 := blk_frozen BK129.out 2
                          have hfz56_3 := blk_frozen BK129.out 3
                          have hfz56_4 := blk_frozen BK129.out 4
                          have hfz56_5 := blk_frozen BK129.out 5
                          have hfz56_6 := blk_frozen BK129.out 6
                          have hfz56_7 := blk_frozen BK129.out 7
                          have hfz56_8 := blk_frozen BK129.out 8
                          have hfz56_9 := blk_frozen BK129.out 9
                          have hfz56_10 := blk_frozen BK129.out 10
                          have p133 : 0 ≤ (x6_3 : Int) := of_decide_eq_true (by first | (with_reducible assumption) | assumption)
                          have q133 : x6_3 < (l1_9.length : Int) := of_decide_eq_true (by first | (with_reducible assumption) | assumption)
                          obtain ⟨ad133, e133, hx133_0, hx133_1⟩ := at_T163 HR1_9.out x6_3 p133 q133
                          cases e133
                          replace hx133_0 := (HB.out.cell (World.block_lt_of_cell? w _ hx133_0)).trans hx133_0
                          replace hx133_1 := (HB.out.cell (World.block_lt_of_cell? w _ hx133_1)).trans hx133_1
                          replace p133 := eq_true p133
                          replace q133 := eq_true q133
                          go_wp2
                          repeat (go_quiet (fail); try go_wp2)
                          go_ret
                          exact ⟨by first | rfl | (simp [errW_none, errW_some] <;> rfl) | (simp [*, errW_none, errW_some] <;> rfl), by repeat (first | (with_reducible first | exact HB.out | apply below_alloc | apply pw_below_drewN | apply below_drew1 | refine below_set ?_ GE128.out | refine below_set ?_ GE129.out) | exact HB.out)⟩
                        · rw [if_neg c53] at H
                          have c53b0 : (!(((rd_T163 l0_9 x6_3).f0) == ((rd_T163 l1_9 x6_3).f0)) || (!(((rd_T163 l0_9 x6_3).f1) == ((rd_T163 l1_9 x6_3).f1)))) = false := by simpa using c53
                          clear c53
                          have H' := Aside0.mk H
                          clear H
                          have hnb57 := NB128_129.out
                          have hnc57 := NB129_128.out
                          have hcz58_0 : wr.cell? ⟨gb128, 0, none⟩ = some (.int .i64 a0_0) := (blk_cell BK128.out 0).trans rfl
                          have hcz58_1 : wr.cell? ⟨gb128, 1, none⟩ = some (.int .i64 a0_1) := (blk_cell BK128.out 1).trans rfl
                          have hcz58_2 : wr.cell? ⟨gb128, 2, none⟩ = some (.int .i64 a0_2) := (blk_cell BK128.out 2).trans rfl
                          have hcz58_3 : wr.cell? ⟨gb128, 3, none⟩ = some (.int .i64 a0_3) := (blk_cell BK128.out 3).trans rfl
                          have hcz58_4 : wr.cell? ⟨gb128, 4, none⟩ = some (.slice A0_4 l0_4.length c0_4) := (blk_cell BK128.out 4).trans rfl
                          have hcz58_5 : wr.cell? ⟨gb128, 5, none⟩ = some (.int .i64 a0_5) := (blk_cell BK128.out 5).trans rfl
                          have hcz58_6 : wr.cell? ⟨gb128, 6, none⟩ = some (.int .i64 a0_6) := (blk_cell BK128.out 6).trans rfl
                          have hcz58_7 : wr.cell? ⟨gb128, 7, none⟩ = some (.string a0_7) := (blk_cell BK128.out 7).trans rfl
                          have hcz58_8 : wr.cell? ⟨gb128, 8, none⟩ = some (.string a0_8) := (blk_cell BK128.out 8).trans rfl
                          have hcz58_9 : wr.cell? ⟨gb128, 9, none⟩ = some (.slice A0_9 l0_9.length c0_9) := (blk_cell BK128.out 9).trans rfl
                          have hcz58_10 : wr.cell? ⟨gb128, 10, none⟩ = some (.slice A0_10 l0_10.length c0_10) := (blk_cell BK128.out 10).trans rfl
                          have hfz58_0 := blk_frozen BK128.out 0
                          have hfz58_1 := blk_frozen BK128.out 1
                          have hfz58_2 := blk_frozen BK128.out 2
                          have hfz58_3 := blk_frozen BK128.out 3
                          have hfz58_4 := blk_frozen BK128.out 4
                          have hfz58_5 := blk_frozen BK128.out 5
                          have hfz58_6 := blk_frozen BK128.out 6
                          have hfz58_7 := blk_frozen BK128.out 7
                          have hfz58_8 := blk_frozen BK128.out 8
                          have hfz58_9 := blk_frozen BK128.out 9
                          have hfz58_10 := blk_frozen BK128.out 10
                          have p132 : 0 ≤ (x6_3 : Int) := of_decide_eq_true (by first | (with_reducible assumption) | assumption)
                          have q132 : x6_3 < (l0_9.length : Int) := of_decide_eq_true (by first | (with_reducible assumption) | assumption)
                          obtain ⟨ad132, e132, hx132_0, hx132_1⟩ := at_T163 HR0_9.out x6_3 p132 q132
                          cases e132
                          replace hx132_0 := (HB.out.cell (World.block_lt_of_cell? w _ hx132_0)).trans hx132_0
                          replace hx132_1 := (HB.out.cell (World.block_lt_of_cell? w _ hx132_1)).trans hx132_1
                          replace p132 := eq_true p132
                          replace q132 := eq_true q132
                          have hcz59_0 : wr.cell? ⟨gb129, 0, none⟩ = some (.int .i64 a1_0) := (blk_cell BK129.out 0).trans rfl
                          have hcz59_1 : wr.cell? ⟨gb129, 1, none⟩ = some (.int .i64 a1_1) := (blk_cell BK129.out 1).trans rfl
                          have hcz59_2 : wr.cell? ⟨gb129, 2, none⟩ = some (.int .i64 a1_2) := (blk_cell BK129.out 2).trans rfl
                          have hcz59_3 : wr.cell? ⟨gb129, 3, none⟩ = some (.int .i64 a1_3) := (blk_cell BK129.out 3).trans rfl
                          have hcz59_4 : wr.cell? ⟨gb129, 4, none⟩ = some (.slice A1_4 l1_4.length c1_4) := (blk_cell BK129.out 4).trans rfl
                          have hcz59_5 : wr.cell? ⟨gb129, 5, none⟩ = some (.int .i64 a1_5) := (blk_cell BK129.out 5).trans rfl
                          have hcz59_6 : wr.cell? ⟨gb129, 6, none⟩ = some (.int .i64 a1_6) := (blk_cell BK129.out 6).trans rfl
                          have hcz59_7 : wr.cell? ⟨gb129, 7, none⟩ = some (.string a1_7) := (blk_cell BK129.out 7).trans rfl
                          have hcz59_8 : wr.cell? ⟨gb129, 8, none⟩ = some (.string a1_8) := (blk_cell BK129.out 8).trans rfl
                          have hcz59_9 : wr.cell? ⟨gb129, 9, none⟩ = some (.slice A1_9 l1_9.length c1_9) := (blk_cell BK129.out 9).trans rfl
                          have hcz59_10 : wr.cell? ⟨gb129, 10, none⟩ = some (.slice A1_10 l1_10.length c1_10) := (blk_cell BK129.out 10).trans rfl
                          have hfz59_0 := blk_frozen BK129.out 0
                          have hfz59_1 := blk_frozen BK129.out 1
                          have hfz59_2 := blk_frozen BK129.out 2
                          have hfz59_3 := blk_frozen BK129.out 3
                          have hfz59_4 := blk_frozen BK129.out 4
                          have hfz59_5 := blk_frozen BK129.out 5
                          have hfz59_6 := blk_frozen BK129.out 6
                          have hfz59_7 := blk_frozen BK129.out 7
                          have hfz59_8 := blk_frozen BK129.out 8
                          have hfz59_9 := blk_frozen BK129.out 9
                          have hfz59_10 := blk_frozen BK129.out 10
                          have p133 : 0 ≤ (x6_3 : Int) := of_decide_eq_true (by first | (with_reducible assumption) | assumption)
                          have q133 : x6_3 < (l1_9.length : Int) := of_decide_eq_true (by first | (with_reducible assumption) | assumption)
                          obtain ⟨ad133, e133, hx133_0, hx133_1⟩ := at_T163 HR1_9.out x6_3 p133 q133
                          cases e133
                          replace hx133_0 := (HB.out.cell (World.block_lt_of_cell? w _ hx133_0)).trans hx133_0
                          replace hx133_1 := (HB.out.cell (World.block_lt_of_cell? w _ hx133_1)).trans hx133_1
                          replace p133 := eq_true p133
                          replace q133 := eq_true q133
                          go_wp2
                          repeat (go_quiet (fail); try go_wp2)
                          go_roundg k3
                          case measure => have := HJ2.out; have := HK2.out; have := HK3.out; omega
                          case rel => exact ⟨(wrap64 (x6_3 + 1)), (by first | rfl | (simp; done) | (simp [*]; done)), H', ⟨by have := HJ2.out; have := HK2.out; have := HK3.out; omega⟩, ⟨by (with_reducible repeat (first | refine blk_drewN ?_ _ | refine blk_drew ?_ | refine blk_alloc ?_ _)); exact BK128.out⟩, ⟨by (with_reducible repeat (first | refine blk_drewN ?_ _ | refine blk_drew ?_ | refine blk_alloc ?_ _)); exact BK129.out⟩, ⟨by repeat (first | (with_reducible first | exact HB.out | apply below_alloc | apply pw_below_drewN | apply below_drew1 | refine below_set ?_ GE128.out | refine below_set ?_ GE129.out) | exact HB.out)⟩⟩
                      · rw [if_neg c52] at H
                        exact absurd H (by simp)
                    · rw [if_neg c51] at H
                      exact absurd H (by simp)
                  · rw [if_neg c50] at H
                    have c50b0 : decide (x6_3 < (l0_9.length : Int)) = false := decide_eq_false c50
                    clear c50
                    have H' := Aside0.mk H
                    clear H
                    have hnb60 := NB128_129.out
                    have hnc60 := NB129_128.out
                    have hcz61_0 : wr.cell? ⟨gb128, 0, none⟩ = some (.int .i64 a0_0) := (blk_cell BK128.out 0).trans rfl
                    have hcz61_1 : wr.cell? ⟨gb128, 1, none⟩ = some (.int .i64 a0_1) := (blk_cell BK128.out 1).trans rfl
                    have hcz61_2 : wr.cell? ⟨gb128, 2, none⟩ = some (.int .i64 a0_2) := (blk_cell BK128.out 2).trans rfl
                    have hcz61_3 : wr.cell? ⟨gb128, 3, none⟩ = some (.int .i64 a0_3) := (blk_cell BK128.out 3).trans rfl
                    have hcz61_4 : wr.cell? ⟨gb128, 4, none⟩ = some (.slice A0_4 l0_4.length c0_4) := (blk_cell BK128.out 4).trans rfl
                    have hcz61_5 : wr.cell? ⟨gb128, 5, none⟩ = some (.int .i64 a0_5) := (blk_cell BK128.out 5).trans rfl
                    have hcz61_6 : wr.cell? ⟨gb128, 6, none⟩ = some (.int .i64 a0_6) := (blk_cell BK128.out 6).trans rfl
                    have hcz61_7 : wr.cell? ⟨gb128, 7, none⟩ = some (.string a0_7) := (blk_cell BK128.out 7).trans rfl
                    have hcz61_8 : wr.cell? ⟨gb128, 8, none⟩ = some (.string a0_8) := (blk_cell BK128.out 8).trans rfl
                    have hcz61_9 : wr.cell? ⟨gb128, 9, none⟩ = some (.slice A0_9 l0_9.length c0_9) := (blk_cell BK128.out 9).trans rfl
                    have hcz61_10 : wr.cell? ⟨gb128, 10, none⟩ = some (.slice A0_10 l0_10.length c0_10) := (blk_cell BK128.out 10).trans rfl
                    have hfz61_0 := blk_frozen BK128.out 0
                    have hfz61_1 := blk_frozen BK128.out 1
                    have hfz61_2 := blk_frozen BK128.out 2
                    have hfz61_3 := blk_frozen BK128.out 3
                    have hfz61_4 := blk_frozen BK128.out 4
                    have hfz61_5 := blk_frozen BK128.out 5
                    have hfz61_6 := blk_frozen BK128.out 6
                    have hfz61_7 := blk_frozen BK128.out 7
                    have hfz61_8 := blk_frozen BK128.out 8
                    have hfz61_9 := blk_frozen BK128.out 9
                    have hfz61_10 := blk_frozen BK128.out 10
                    go_wp2
                    repeat (go_quiet (fail); try go_wp2)
                    go_loopg [7] k3 (fun kq v7 w' => ∃ (x7_4 : Int), v7 = .int .i64 x7_4 ∧ Aside0 (gaugerref06_Same.l2 kq x7_4 a0_0 a0_1 a0_2 a0_3 l0_4 a0_5 a0_6 a0_7 a0_8 l0_9 l0_10 a1_0 a1_1 a1_2 a1_3 l1_4 a1_5 a1_6 a1_7 a1_8 l1_9 l1_10 = some r) ∧ Aside0 (kq ≤ k3) ∧ Aside0 (w'.heap[gb128]? = some (.cells #[.int .i64 a0_0, .int .i64 a0_1, .int .i64 a0_2, .int .i64 a0_3, (.slice A0_4 l0_4.length c0_4), .int .i64 a0_5, .int .i64 a0_6, .string a0_7, .string a0_8, (.slice A0_9 l0_9.length c0_9), (.slice A0_10 l0_10.length c0_10)] 58 (0, 0))) ∧ Aside0 (w'.heap[gb129]? = some (.cells #[.int .i64 a1_0, .int .i64 a1_1, .int .i64 a1_2, .int .i64 a1_3, (.slice A1_4 l1_4.length c1_4), .int .i64 a1_5, .int .i64 a1_6, .string a1_7, .string a1_8, (.slice A1_9 l1_9.length c1_9), (.slice A1_10 l1_10.length c1_10)] 58 (0, 0))) ∧ Aside0 (Below w.heap.size w w'))
                    case atStart => exact ⟨(0), (by first | rfl | (simp; done) | (simp [*]; done)), H', ⟨Nat.le_refl _⟩, ⟨by (with_reducible repeat (first | refine blk_drewN ?_ _ | refine blk_drew ?_ | refine blk_alloc ?_ _)); exact BK128.out⟩, ⟨by (with_reducible repeat (first | refine blk_drewN ?_ _ | refine blk_drew ?_ | refine blk_alloc ?_ _)); exact BK129.out⟩, ⟨by repeat (first | (with_reducible first | exact HB.out | apply below_alloc | apply pw_below_drewN | apply below_drew1 | refine below_set ?_ GE128.out | refine below_set ?_ GE129.out) | exact HB.out)⟩⟩
                    case round =>
                      clear H'
                      try clear c1
                      try clear p1
                      try clear q1
                      try clear hx1
                      try clear p2
                      try clear c5
                      try clear c6
                      try clear p6
                      try clear p13
                      try clear q13
                      try clear hx13
                      try clear c50
                      try clear c50b0
                      try clear c51
                      try clear c51b0
                      try clear c52
                      try clear c52b0
                      try clear c53
                      try clear c53b0
                      try clear c54
                      try clear c57
                      try clear c60
                      try clear hcz23_5
                      try clear hcz23_6
                      try clear hcz23_7
                      try clear hcz23_8
                      try clear hcz23_9
                      try clear hcz24_0
                      try clear hcz24_1
                      try clear hcz24_10
                      try clear hcz24_2
                      try clear hcz24_3
                      try clear hcz24_4
                      try clear hcz24_5
                      try clear hcz24_6
                      try clear hcz24_7
                      try clear hcz24_8
                      try clear hcz24_9
                      try clear hcz26_0
                      try clear hcz26_1
                      try clear hcz26_10
                      try clear hcz26_2
                      try clear hcz26_3
                      try clear hcz26_4
                      try clear hcz26_5
                      try clear hcz26_6
                      try clear hcz26_7
                      try clear hcz26_8
                      try clear hcz26_9
                      try clear hcz27_0
                      try clear hcz27_1
                      try clear hcz27_10
                      try clear hcz27_2
                      try clear hcz27_3
                      try clear hcz27_4
                      try clear hcz27_5
                      try clear hcz27_6
                      try clear hcz27_7
                      try clear hcz27_8
                      try clear hcz27_9
                      try clear hcz29_0
                      try clear hcz29_1
                      try clear hcz29_10
                      try clear hcz29_2
                      try clear hcz29_3
                      try clear hcz29_4
                      try clear hcz29_5
                      try clear hcz29_6
                      try clear hcz29_7
                      try clear hcz29_8
                      try clear hcz29_9
                      try clear hcz30_0
                      try clear hcz30_1
                      try clear hcz30_10
                      try clear hcz30_2
                      try clear hcz30_3
                      try clear hcz30_4
                      try clear hcz30_5
                      try clear hcz30_6
                      try clear hcz30_7
                      try clear hcz30_8
                      try clear hcz30_9
                      try clear hcz32_0
                      try clear hcz32_1
                      try clear hcz32_10
                      try clear hcz32_2
                      try clear hcz32_3
                      try clear hcz32_4
                      try clear hcz32_5
                      try clear hcz32_6
                      try clear hcz32_7
                      try clear hcz32_8
                      try clear hcz32_9
                      try clear hcz33_0
                      try clear hcz33_1
                      try clear hcz33_10
                      try clear hcz33_2
                      try clear hcz33_3
                      try clear hcz33_4
                      try clear hcz33_5
                      try clear hcz33_6
                      try clear hcz33_7
                      try clear hcz33_8
                      try clear hcz33_9
                      try clear hcz35_0
                      try clear hcz35_1
                      try clear hcz35_10
                      try clear hcz35_2
                      try clear hcz35_3
                      try clear hcz35_4
                      try clear hcz35_5
                      try clear hcz35_6
                      try clear hcz35_7
                      try clear hcz35_8
                      try clear hcz35_9
                      try clear hcz36_0
                      try clear hcz36_1
                      try clear hcz36_10
                      try clear hcz36_2
                      try clear hcz36_3
                      try clear hcz36_4
                      try clear hcz36_5
                      try clear hcz36_6
                      try clear hcz36_7
                      try clear hcz36_8
                      try clear hcz36_9
                      try clear hcz43_0
                      try clear hcz43_1
                      try clear hcz43_10
                      try clear hcz43_2
                      try clear hcz43_3
                      try clear hcz43_4
                      try clear hcz43_5
                      try clear hcz43_6
                      try clear hcz43_7
                      try clear hcz43_8
                      try clear hcz43_9
                      try clear hcz44_0
                      try clear hcz44_1
                      try clear hcz44_10
                      try clear hcz44_2
                      try clear hcz44_3
                      try clear hcz44_4
                      try clear hcz44_5
                      try clear hcz44_6
                      try clear hcz44_7
                      try clear hcz44_8
                      try clear hcz44_9
                      try clear hcz46_0
                      try clear hcz46_1
                      try clear hcz46_10
                      try clear hcz46_2
                      try clear hcz46_3
                      try clear hcz46_4
                      try clear hcz46_5
                      try clear hcz46_6
                      try clear hcz46_7
                      try clear hcz46_8
                      try clear hcz46_9
                      try clear hcz47_0
                      try clear hcz47_1
                      try clear hcz47_10
                      try clear hcz47_2
                      try clear hcz47_3
                      try clear hcz47_4
                      try clear hcz47_5
                      try clear hcz47_6
                      try clear hcz47_7
                      try clear hcz47_8
                      try clear hcz47_9
                      try clear hcz49_0
                      try clear hcz49_1
                      try clear hcz49_10
                      try clear hcz49_2
                      try clear hcz49_3
                      try clear hcz49_4
                      try clear hcz49_5
                      try clear hcz49_6
                      try clear hcz49_7
                      try clear hcz49_8
                      try clear hcz49_9
                      try clear hcz55_0
                      try clear hcz55_1
                      try clear hcz55_10
                      try clear hcz55_2
                      try clear hcz55_3
                      try clear hcz55_4
                      try clear hcz55_5
                      try clear hcz55_6
                      try clear hcz55_7
                      try clear hcz55_8
                      try clear hcz55_9
                      try clear hcz56_0
                      try clear hcz56_1
                      try clear hcz56_10
                      try clear hcz56_2
                      try clear hcz56_3
                      try clear hcz56_4
                      try clear hcz56_5
                      try clear hcz56_6
                      try clear hcz56_7
                      try clear hcz56_8
                      try clear hcz56_9
                      try clear hcz58_0
                      try clear hcz58_1
                      try clear hcz58_10
                      try clear hcz58_2
                      try clear hcz58_3
                      try clear hcz58_4
                      try clear hcz58_5
                      try clear hcz58_6
                      try clear hcz58_7
                      try clear hcz58_8
                      try clear hcz58_9
                      try clear hcz59_0
                      try clear hcz59_1
                      try clear hcz59_10
                      try clear hcz59_2
                      try clear hcz59_3
                      try clear hcz59_4
                      try clear hcz59_5
                      try clear hcz59_6
                      try clear hcz59_7
                      try clear hcz59_8
                      try clear hcz59_9
                      try clear hcz61_0
                      try clear hcz61_1
                      try clear hcz61_10
                      try clear hcz61_2
                      try clear hcz61_3
                      try clear hcz61_4
                      try clear hcz61_5
                      try clear hcz61_6
                      try clear hcz61_7
                      try clear hcz61_8
                      try clear hcz61_9
                      try clear hfz12_0
                      try clear hfz12_1
                      try clear hfz12_10
                      try clear hfz12_2
                      try clear hfz12_3
                      try clear hfz12_4
                      try clear hfz12_5
                      try clear hfz12_6
                      try clear hfz12_7
                      try clear hfz12_8
                      try clear hfz12_9
                      try clear hfz13_0
                      try clear hfz13_1
                      try clear hfz13_10
                      try clear hfz13_2
                      try clear hfz13_3
                      try clear hfz13_4
                      try clear hfz13_5
                      try clear hfz13_6
                      try clear hfz13_7
                      try clear hfz13_8
                      try clear hfz13_9
                      try clear hfz17_0
                      try clear hfz17_1
                      try clear hfz17_10
                      try clear hfz17_2
                      try clear hfz17_3
                      try clear hfz17_4
                      try clear hfz17_5
                      try clear hfz17_6
                      try clear hfz17_7
                      try clear hfz17_8
                      try clear hfz17_9
                      try clear hfz18_0
                      try clear hfz18_1
                      try clear hfz18_10
                      try clear hfz18_2
                      try clear hfz18_3
                      try clear hfz18_4
                      try clear hfz18_5
                      try clear hfz18_6
                      try clear hfz18_7
                      try clear hfz18_8
                      try clear hfz18_9
                      try clear hfz20_0
                      try clear hfz20_1
                      try clear hfz20_10
                      try clear hfz20_2
                      try clear hfz20_3
                      try clear hfz20_4
                      try clear hfz20_5
                      try clear hfz20_6
                      try clear hfz20_7
                      try clear hfz20_8
                      try clear hfz20_9
                      try clear hfz21_0
                      try clear hfz21_1
                      try clear hfz21_10
                      try clear hfz21_2
                      try clear hfz21_3
                      try clear hfz21_4
                      try clear hfz21_5
                      try clear hfz21_6
                      try clear hfz21_7
                      try clear hfz21_8
                      try clear hfz21_9
                      try clear hfz23_0
                      try clear hfz23_1
                      try clear hfz23_10
                      try clear hfz23_2
                      try clear hfz23_3
                      try clear hfz23_4
                      try clear hfz23_5
                      try clear hfz23_6
                      try clear hfz23_7
                      try clear hfz23_8
                      try clear hfz23_9
                      try clear hfz24_0
                      try clear hfz24_1
                      try clear hfz24_10
                      try clear hfz24_2
                      try clear hfz24_3
                      try clear hfz24_4
                      try clear hfz24_5
                      try clear hfz24_6
                      try clear hfz24_7
                      try clear hfz24_8
                      try clear hfz24_9
                      try clear hfz26_0
                      try clear hfz26_1
                      try clear hfz26_10
                      try clear hfz26_2
                      try clear hfz26_3
                      try clear hfz26_4
                      try clear hfz26_5
                      try clear hfz26_6
                      try clear hfz26_7
                      try clear hfz26_8
                      try clear hfz26_9
                      try clear hfz27_0
                      try clear hfz27_1
                      try clear hfz27_10
                      try clear hfz27_2
                      try clear hfz27_3
                      try clear hfz27_4
                      try clear hfz27_5
                      try clear hfz27_6
                      try clear hfz27_7
                      try clear hfz27_8
                      try clear hfz27_9
                      try clear hfz29_0
                      try clear hfz29_1
                      try clear hfz29_10
                      try clear hfz29_2
                      try clear hfz29_3
                      try clear hfz29_4
                      try clear hfz29_5
                      try clear hfz29_6
                      try clear hfz29_7
                      try clear hfz29_8
                      try clear hfz29_9
                      try clear hfz30_0
                      try clear hfz30_1
                      try clear hfz30_10
                      try clear hfz30_2
                      try clear hfz30_3
                      try clear hfz30_4
                      try clear hfz30_5
                      try clear hfz30_6
                      try clear hfz30_7
                      try clear hfz30_8
                      try clear hfz30_9
                      try clear hfz32_0
                      try clear hfz32_1
                      try clear hfz32_10
                      try clear hfz32_2
                      try clear hfz32_3
                      try clear hfz32_4
                      try clear hfz32_5
                      try clear hfz32_6
                      try clear hfz32_7
                      try clear hfz32_8
                      try clear hfz32_9
                      try clear hfz33_0
                      try clear hfz33_1
                      try clear hfz33_10
                      try clear hfz33_2
                      try clear hfz33_3
                      try clear hfz33_4
                      try clear hfz33_5
                      try clear hfz33_6
                      try clear hfz33_7
                      try clear hfz33_8
                      try clear hfz33_9
                      try clear hfz35_0
                      try clear hfz35_1
                      try clear hfz35_10
                      try clear hfz35_2
                      try clear hfz35_3
                      try clear hfz35_4
                      try clear hfz35_5
                      try clear hfz35_6
                      try clear hfz35_7
                      try clear hfz35_8
                      try clear hfz35_9
                      try clear hfz36_0
                      try clear hfz36_1
                      try clear hfz36_10
                      try clear hfz36_2
                      try clear hfz36_3
                      try clear hfz36_4
                      try clear hfz36_5
                      try clear hfz36_6
                      try clear hfz36_7
                      try clear hfz36_8
                      try clear hfz36_9
                      try clear hfz43_0
                      try clear hfz43_1
                      try clear hfz43_10
                      try clear hfz43_2
                      try clear hfz43_3
                      try clear hfz43_4
                      try clear hfz43_5
                      try clear hfz43_6
                      try clear hfz43_7
                      try clear hfz43_8
                      try clear hfz43_9
                      try clear hfz44_0
                      try clear hfz44_1
                      try clear hfz44_10
                      try clear hfz44_2
                      try clear hfz44_3
                      try clear hfz44_4
                      try clear hfz44_5
                      try clear hfz44_6
                      try clear hfz44_7
                      try clear hfz44_8
                      try clear hfz44_9
                      try clear hfz46_0
                      try clear hfz46_1
                      try clear hfz46_10
                      try clear hfz46_2
                      try clear hfz46_3
                      try clear hfz46_4
                      try clear hfz46_5
                      try clear hfz46_6
                      try clear hfz46_7
                      try clear hfz46_8
                      try clear hfz46_9
                      try clear hfz47_0
                      try clear hfz47_1
                      try clear hfz47_10
                      try clear hfz47_2
                      try clear hfz47_3
                      try clear hfz47_4
                      try clear hfz47_5
                      try clear hfz47_6
                      try clear hfz47_7
                      try clear hfz47_8
                      try clear hfz47_9
                      try clear hfz49_0
                      try clear hfz49_1
                      try clear hfz49_10
                      try clear hfz49_2
                      try clear hfz49_3
                      try clear hfz49_4
                      try clear hfz49_5
                      try clear hfz49_6
                      try clear hfz49_7
                      try clear hfz49_8
                      try clear hfz49_9
                      try clear hfz55_0
                      try clear hfz55_1
                      try clear hfz55_10
                      try clear hfz55_2
                      try clear hfz55_3
                      try clear hfz55_4
                      try clear hfz55_5
                      try clear hfz55_6
                      try clear hfz55_7
                      try clear hfz55_8
                      try clear hfz55_9
                      try clear hfz56_0
                      try clear hfz56_1
                      try clear hfz56_10
                      try clear hfz56_2
                      try clear hfz56_3
                      try clear hfz56_4
                      try clear hfz56_5
                      try clear hfz56_6
                      try clear hfz56_7
                      try clear hfz56_8
                      try clear hfz56_9
                      try clear hfz58_0
                      try clear hfz58_1
                      try clear hfz58_10
                      try clear hfz58_2
                      try clear hfz58_3
                      try clear hfz58_4
                      try clear hfz58_5
                      try clear hfz58_6
                      try clear hfz58_7
                      try clear hfz58_8
                      try clear hfz58_9
                      try clear hfz59_0
                      try clear hfz59_1
                      try clear hfz59_10
                      try clear hfz59_2
                      try clear hfz59_3
                      try clear hfz59_4
                      try clear hfz59_5
                      try clear hfz59_6
                      try clear hfz59_7
                      try clear hfz59_8
                      try clear hfz59_9
                      try clear hfz61_0
                      try clear hfz61_1
                      try clear hfz61_10
                      try clear hfz61_2
                      try clear hfz61_3
                      try clear hfz61_4
                      try clear hfz61_5
                      try clear hfz61_6
                      try clear hfz61_7
                      try clear hfz61_8
                      try clear hfz61_9
                      try clear hx130_0
                      try clear hx130_1
                      try clear hx131_0
                      try clear hx131_1
                      try clear hx132_0
                      try clear hx132_1
                      try clear hx133_0
                      try clear hx133_1
                      try clear p130
                      try clear p131
                      try clear p132
                      try clear p133
                      try clear p2
                      try clear q130
                      try clear q131
                      try clear q132
                      try clear q133
                      obtain ⟨x7_4, rfl, HA, HK4, BK128, BK129, HB⟩ := hrel
                      cases gk with
                      | zero => exact absurd HA.out (by simp [gaugerref06_Same.l2])
                      | succ k4 =>
                        have H := HA.out
                        clear HA
                        simp only [gaugerref06_Same.l2] at H
                        by_cases c62 : x7_4 < (l0_10.length : Int)
                        · rw [if_pos c62] at H
                          have c62b0 : decide (x7_4 < (l0_10.length : Int)) = true := decide_eq_true c62
                          clear c62
                          by_cases c63 : 0 ≤ x7_4
                          · rw [if_pos c63] at H
                            have c63b0 : decide (0 ≤ x7_4) = true := decide_eq_true c63
                            clear c63
                            by_cases c64 : x7_4 < (l1_10.length : Int)
                            · rw [if_pos c64] at H
                              have c64b0 : decide (x7_4 < (l1_10.length : Int)) = true := decide_eq_true c64
                              clear c64
                              by_cases c65 : (!(((rd_T165 l0_10 x7_4).f0) == ((rd_T165 l1_10 x7_4).f0)) || (!(((rd_T165 l0_10 x7_4).f1) == ((rd_T165 l1_10 x7_4).f1)))) = true
                              · rw [if_pos c65] at H
                                have c65b0 : (!(((rd_T165 l0_10 x7_4).f0) == ((rd_T165 l1_10 x7_4).f0)) || (!(((rd_T165 l0_10 x7_4).f1) == ((rd_T165 l1_10 x7_4).f1)))) = true := c65
                                clear c65
                                obtain rfl := Option.some.inj H
                                have hnb66 := NB128_129.out
                                have hnc66 := NB129_128.out
                                have hcz67_0 : wr.cell? ⟨gb128, 0, none⟩ = some (.int .i64 a0_0) := (blk_cell BK128.out 0).trans rfl
                                have hcz67_1 : wr.cell? ⟨gb128, 1, none⟩ = some (.int .i64 a0_1) := (blk_cell BK128.out 1).trans rfl
                                have hcz67_2 : wr.cell? ⟨gb128, 2, none⟩ = some (.int .i64 a0_2) := (blk_cell BK128.out 2).trans rfl
                                have hcz67_3 : wr.cell? ⟨gb128, 3, none⟩ = some (.int .i64 a0_3) := (blk_cell BK128.out 3).trans rfl
                                have hcz67_4 : wr.cell? ⟨gb128, 4, none⟩ = some (.slice A0_4 l0_4.length c0_4) := (blk_cell BK128.out 4).trans rfl
                                have hcz67_5 : wr.cell? ⟨gb128, 5, none⟩ = some (.int .i64 a0_5) := (blk_cell BK128.out 5).trans rfl
                                have hcz67_6 : wr.cell? ⟨gb128, 6, none⟩ = some (.int .i64 a0_6) := (blk_cell BK128.out 6).trans rfl
                                have hcz67_7 : wr.cell? ⟨gb128, 7, none⟩ = some (.string a0_7) := (blk_cell BK128.out 7).trans rfl
                                have hcz67_8 : wr.cell? ⟨gb128, 8, none⟩ = some (.string a0_8) := (blk_cell BK128.out 8).trans rfl
                                have hcz67_9 : wr.cell? ⟨gb128, 9, none⟩ = some (.slice A0_9 l0_9.length c0_9) := (blk_cell BK128.out 9).trans rfl
                                have hcz67_10 : wr.cell? ⟨gb128, 10, none⟩ = some (.slice A0_10 l0_10.length c0_10) := (blk_cell BK128.out 10).trans rfl
                                have hfz67_0 := blk_frozen BK128.out 0
                                have hfz67_1 := blk_frozen BK128.out 1
                                have hfz67_2 := blk_frozen BK128.out 2
                                have hfz67_3 := blk_frozen BK128.out 3
                                have hfz67_4 := blk_frozen BK128.out 4
                                have hfz67_5 := blk_frozen BK128.out 5
                                have hfz67_6 := blk_frozen BK128.out 6
                                have hfz67_7 := blk_frozen BK128.out 7
                                have hfz67_8 := blk_frozen BK128.out 8
                                have hfz67_9 := blk_frozen BK128.out 9
                                have hfz67_10 := blk_frozen BK128.out 10
                                have p134 : 0 ≤ (x7_4 : Int) := of_decide_eq_true (by first | (with_reducible assumption) | assumption)
                                have q134 : x7_4 < (l0_10.length : Int) := of_decide_eq_true (by first | (with_reducible assumption) | assumption)
                                obtain ⟨ad134, e134, hx134_0, hx134_1⟩ := at_T165 HR0_10.out x7_4 p134 q134
                                cases e134
                                replace hx134_0 := (HB.out.cell (World.block_lt_of_cell? w _ hx134_0)).trans hx134_0
                                replace hx134_1 := (HB.out.cell (World.block_lt_of_cell? w _ hx134_1)).trans hx134_1
                                replace p134 := eq_true p134
                                replace q134 := eq_true q134
                                have hcz68_0 : wr.cell? ⟨gb129, 0, none⟩ = some (.int .i64 a1_0) := (blk_cell BK129.out 0).trans rfl
                                have hcz68_1 : wr.cell? ⟨gb129, 1, none⟩ = some (.int .i64 a1_1) := (blk_cell BK129.out 1).trans rfl
                                have hcz68_2 : wr.cell? ⟨gb129, 2, none⟩ = some (.int .i64 a1_2) := (blk_cell BK129.out 2).trans rfl
                                have hcz68_3 : wr.cell? ⟨gb129, 3, none⟩ = some (.int .i64 a1_3) := (blk_cell BK129.out 3).trans rfl
                                have hcz68_4 : wr.cell? ⟨gb129, 4, none⟩ = some (.slice A1_4 l1_4.length c1_4) := (blk_cell BK129.out 4).trans rfl
                                have hcz68_5 : wr.cell? ⟨gb129, 5, none⟩ = some (.int .i64 a1_5) := (blk_cell BK129.out 5).trans rfl
                                have hcz68_6 : wr.cell? ⟨gb129, 6, none⟩ = some (.int .i64 a1_6) := (blk_cell BK129.out 6).trans rfl
                                have hcz68_7 : wr.cell? ⟨gb129, 7, none⟩ = some (.string a1_7) := (blk_cell BK129.out 7).trans rfl
                                have hcz68_8 : wr.cell? ⟨gb129, 8, none⟩ = some (.string a1_8) := (blk_cell BK129.out 8).trans rfl
                                have hcz68_9 : wr.cell? ⟨gb129, 9, none⟩ = some (.slice A1_9 l1_9.length c1_9) := (blk_cell BK129.out 9).trans rfl
                                have hcz68_10 : wr.cell? ⟨gb129, 10, none⟩ = some (.slice A1_10 l1_10.length c1_10) := (blk_cell BK129.out 10).trans rfl
                                have hfz68_0 := blk_frozen BK129.out 0
                                have hfz68_1 := blk_frozen BK129.out 1
                                have hfz68_2 := blk_frozen BK129.out 2
                                have hfz68_3 := blk_frozen BK129.out 3
                                have hfz68_4 := blk_frozen BK129.out 4
                                have hfz68_5 := blk_frozen BK129.out 5
                                have hfz68_6 := blk_frozen BK129.out 6
                                have hfz68_7 := blk_frozen BK129.out 7
                                have hfz68_8 := blk_frozen BK129.out 8
                                have hfz68_9 := blk_frozen BK129.out 9
                                have hfz68_10 := blk_frozen BK129.out 10
                                have p135 : 0 ≤ (x7_4 : Int) := of_decide_eq_true (by first | (with_reducible assumption) | assumption)
                                have q135 : x7_4 < (l1_10.length : Int) := of_decide_eq_true (by first | (with_reducible assumption) | assumption)
                                obtain ⟨ad135, e135, hx135_0, hx135_1⟩ := at_T165 HR1_10.out x7_4 p135 q135
                                cases e135
                                replace hx135_0 := (HB.out.cell (World.block_lt_of_cell? w _ hx135_0)).trans hx135_0
                                replace hx135_1 := (HB.out.cell (World.block_lt_of_cell? w _ hx135_1)).trans hx135_1
                                replace p135 := eq_true p135
                                replace q135 := eq_true q135
                                go_wp2
                                repeat (go_quiet (fail); try go_wp2)
                                go_ret
                                exact ⟨by first | rfl | (simp [errW_none, errW_some] <;> rfl) | (simp [*, errW_none, errW_some] <;> rfl), by repeat (first | (with_reducible first | exact HB.out | apply below_alloc | apply pw_below_drewN | apply below_drew1 | refine below_set ?_ GE128.out | refine below_set ?_ GE129.out) | exact HB.out)⟩
                              · rw [if_neg c65] at H
                                have c65b0 : (!(((rd_T165 l0_10 x7_4).f0) == ((rd_T165 l1_10 x7_4).f0)) || (!(((rd_T165 l0_10 x7_4).f1) == ((rd_T165 l1_10 x7_4).f1)))) = false := by simpa using c65
                                clear c65
                                have H' := Aside0.mk H
                                clear H
                                have hnb69 := NB128_129.out
                                have hnc69 := NB129_128.out
                                have hcz70_0 : wr.cell? ⟨gb128, 0, none⟩ = some (.int .i64 a0_0) := (blk_cell BK128.out 0).trans rfl
                                have hcz70_1 : wr.cell? ⟨gb128, 1, none⟩ = some (.int .i64 a0_1) := (blk_cell BK128.out 1).trans rfl
                                have hcz70_2 : wr.cell? ⟨gb128, 2, none⟩ = some (.int .i64 a0_2) := (blk_cell BK128.out 2).trans rfl
                                have hcz70_3 : wr.cell? ⟨gb128, 3, none⟩ = some (.int .i64 a0_3) := (blk_cell BK128.out 3).trans rfl
                                have hcz70_4 : wr.cell? ⟨gb128, 4, none⟩ = some (.slice A0_4 l0_4.length c0_4) := (blk_cell BK128.out 4).trans rfl
                                have hcz70_5 : wr.cell? ⟨gb128, 5, none⟩ = some (.int .i64 a0_5) := (blk_cell BK128.out 5).trans rfl
                                have hcz70_6 : wr.cell? ⟨gb128, 6, none⟩ = some (.int .i64 a0_6) := (blk_cell BK128.out 6).trans rfl
                                have hcz70_7 : wr.cell? ⟨gb128, 7, none⟩ = some (.string a0_7) := (blk_cell BK128.out 7).trans rfl
                                have hcz70_8 : wr.cell? ⟨gb128, 8, none⟩ = some (.string a0_8) := (blk_cell BK128.out 8).trans rfl
                                have hcz70_9 : wr.cell? ⟨gb128, 9, none⟩ = some (.slice A0_9 l0_9.length c0_9) := (blk_cell BK128.out 9).trans rfl
                                have hcz70_10 : wr.cell? ⟨gb128, 10, none⟩ = some (.slice A0_10 l0_10.length c0_10) := (blk_cell BK128.out 10).trans rfl
                                have hfz70_0 := blk_frozen BK128.out 0
                                have hfz70_1 := blk_frozen BK128.out 1
                                have hfz70_2 := blk_frozen BK128.out 2
                                have hfz70_3 := blk_frozen BK128.out 3
                                have hfz70_4 := blk_frozen BK128.out 4
                                have hfz70_5 := blk_frozen BK128.out 5
                                have hfz70_6 := blk_frozen BK128.out 6
                                have hfz70_7 := blk_frozen BK128.out 7
                                have hfz70_8 := blk_frozen BK128.out 8
                                have hfz70_9 := blk_frozen BK128.out 9
                                have hfz70_10 := blk_frozen BK128.out 10
                                have p134 : 0 ≤ (x7_4 : Int) := of_decide_eq_true (by first | (with_reducible assumption) | assumption)
                                have q134 : x7_4 < (l0_10.length : Int) := of_decide_eq_true (by first | (with_reducible assumption) | assumption)
                                obtain ⟨ad134, e134, hx134_0, hx134_1⟩ := at_T165 HR0_10.out x7_4 p134 q134
                                cases e134
                                replace hx134_0 := (HB.out.cell (World.block_lt_of_cell? w _ hx134_0)).trans hx134_0
                                replace hx134_1 := (HB.out.cell (World.block_lt_of_cell? w _ hx134_1)).trans hx134_1
                                replace p134 := eq_true p134
                                replace q134 := eq_true q134
                                have hcz71_0 : wr.cell? ⟨gb129, 0, none⟩ = some (.int .i64 a1_0) := (blk_cell BK129.out 0).trans rfl
                                have hcz71_1 : wr.cell? ⟨gb129, 1, none⟩ = some (.int .i64 a1_1) := (blk_cell BK129.out 1).trans rfl
                                have hcz71_2 : wr.cell? ⟨gb129, 2, none⟩ = some (.int .i64 a1_2) := (blk_cell BK129.out 2).trans rfl
                                have hcz71_3 : wr.cell? ⟨gb129, 3, none⟩ = some (.int .i64 a1_3) := (blk_cell BK129.out 3).trans rfl
                                have hcz71_4 : wr.cell? ⟨gb129, 4, none⟩ = some (.slice A1_4 l1_4.length c1_4) := (blk_cell BK129.out 4).trans rfl
                                have hcz71_5 : wr.cell? ⟨gb129, 5, none⟩ = some (.int .i64 a1_5) := (blk_cell BK129.out 5).trans rfl
                                have hcz71_6 : wr.cell? ⟨gb129, 6, none⟩ = some (.int .i64 a1_6) := (blk_cell BK129.out 6).trans rfl
                                have hcz71_7 : wr.cell? ⟨gb129, 7, none⟩ = some (.string a1_7) := (blk_cell BK129.out 7).trans rfl
                                have hcz71_8 : wr.cell? ⟨gb129, 8, none⟩ = some (.string a1_8) := (blk_cell BK129.out 8).trans rfl
                                have hcz71_9 : wr.cell? ⟨gb129, 9, none⟩ = some (.slice A1_9 l1_9.length c1_9) := (blk_cell BK129.out 9).trans rfl
                                have hcz71_10 : wr.cell? ⟨gb129, 10, none⟩ = some (.slice A1_10 l1_10.length c1_10) := (blk_cell BK129.out 10).trans rfl
                                have hfz71_0 := blk_frozen BK129.out 0
                                have hfz71_1 := blk_frozen BK129.out 1
                                have hfz71_2 := blk_frozen BK129.out 2
                                have hfz71_3 := blk_frozen BK129.out 3
                                have hfz71_4 := blk_frozen BK129.out 4
                                have hfz71_5 := blk_frozen BK129.out 5
                                have hfz71_6 := blk_frozen BK129.out 6
                                have hfz71_7 := blk_frozen BK129.out 7
                                have hfz71_8 := blk_frozen BK129.out 8
                                have hfz71_9 := blk_frozen BK129.out 9
                                have hfz71_10 := blk_frozen BK129.out 10
                                have p135 : 0 ≤ (x7_4 : Int) := of_decide_eq_true (by first | (with_reducible assumption) | assumption)
                                have q135 : x7_4 < (l1_10.length : Int) := of_decide_eq_true (by first | (with_reducible assumption) | assumption)
                                obtain ⟨ad135, e135, hx135_0, hx135_1⟩ := at_T165 HR1_10.out x7_4 p135 q135
                                cases e135
                                replace hx135_0 := (HB.out.cell (World.block_lt_of_cell? w _ hx135_0)).trans hx135_0
                                replace hx135_1 := (HB.out.cell (World.block_lt_of_cell? w _ hx135_1)).trans hx135_1
                                replace p135 := eq_true p135
                                replace q135 := eq_true q135
                                go_wp2
                                repeat (go_quiet (fail); try go_wp2)
                                go_roundg k4
                                case measure => have := HJ2.out; have := HK2.out; have := HK3.out; have := HK4.out; omega
                                case rel => exact ⟨(wrap64 (x7_4 + 1)), (by first | rfl | (simp; done) | (simp [*]; done)), H', ⟨by have := HJ2.out; have := HK2.out; have := HK3.out; have := HK4.out; omega⟩, ⟨by (with_reducible repeat (first | refine blk_drewN ?_ _ | refine blk_drew ?_ | refine blk_alloc ?_ _)); exact BK128.out⟩, ⟨by (with_reducible repeat (first | refine blk_drewN ?_ _ | refine blk_drew ?_ | refine blk_alloc ?_ _)); exact BK129.out⟩, ⟨by repeat (first | (with_reducible first | exact HB.out | apply below_alloc | apply pw_below_drewN | apply below_drew1 | refine below_set ?_ GE128.out | refine below_set ?_ GE129.out) | exact HB.out)⟩⟩
                            · rw [if_neg c64] at H
                              exact absurd H (by simp)
                          · rw [if_neg c63] at H
                            exact absurd H (by simp)
                        · rw [if_neg c62] at H
                          have c62b0 : decide (x7_4 < (l0_10.length : Int)) = false := decide_eq_false c62
                          clear c62
                          obtain rfl := Option.some.inj H
                          have hnb72 := NB128_129.out
                          have hnc72 := NB129_128.out
                          have hcz73_0 : wr.cell? ⟨gb128, 0, none⟩ = some (.int .i64 a0_0) := (blk_cell BK128.out 0).trans rfl
                          have hcz73_1 : wr.cell? ⟨gb128, 1, none⟩ = some (.int .i64 a0_1) := (blk_cell BK128.out 1).trans rfl
                          have hcz73_2 : wr.cell? ⟨gb128, 2, none⟩ = some (.int .i64 a0_2) := (blk_cell BK128.out 2).trans rfl
                          have hcz73_3 : wr.cell? ⟨gb128, 3, none⟩ = some (.int .i64 a0_3) := (blk_cell BK128.out 3).trans rfl
                          have hcz73_4 : wr.cell? ⟨gb128, 4, none⟩ = some (.slice A0_4 l0_4.length c0_4) := (blk_cell BK128.out 4).trans rfl
                          have hcz73_5 : wr.cell? ⟨gb128, 5, none⟩ = some (.int .i64 a0_5) := (blk_cell BK128.out 5).trans rfl
                          have hcz73_6 : wr.cell? ⟨gb128, 6, none⟩ = some (.int .i64 a0_6) := (blk_cell BK128.out 6).trans rfl
                          have hcz73_7 : wr.cell? ⟨gb128, 7, none⟩ = some (.string a0_7) := (blk_cell BK128.out 7).trans rfl
                          have hcz73_8 : wr.cell? ⟨gb128, 8, none⟩ = some (.string a0_8) := (blk_cell BK128.out 8).trans rfl
                          have hcz73_9 : wr.cell? ⟨gb128, 9, none⟩ = some (.slice A0_9 l0_9.length c0_9) := (blk_cell BK128.out 9).trans rfl
                          have hcz73_10 : wr.cell? ⟨gb128, 10, none⟩ = some (.slice A0_10 l0_10.length c0_10) := (blk_cell BK128.out 10).trans rfl
                          have hfz73_0 := blk_frozen BK128.out 0
                          have hfz73_1 := blk_frozen BK128.out 1
                          have hfz73_2 := blk_frozen BK128.out 2
                          have hfz73_3 := blk_frozen BK128.out 3
                          have hfz73_4 := blk_frozen BK128.out 4
                          have hfz73_5 := blk_frozen BK128.out 5
                          have hfz73_6 := blk_frozen BK128.out 6
                          have hfz73_7 := blk_frozen BK128.out 7
                          have hfz73_8 := blk_frozen BK128.out 8
                          have hfz73_9 := blk_frozen BK128.out 9
                          have hfz73_10 := blk_frozen BK128.out 10
                          go_wp2
                          repeat (go_quiet (fail); try go_wp2)
                          go_ret
                          exact ⟨by first | rfl | (simp [errW_none, errW_some] <;> rfl) | (simp [*, errW_none, errW_some] <;> rfl), by repeat (first | (with_reducible first | exact HB.out | apply below_alloc | apply pw_below_drewN | apply below_drew1 | refine below_set ?_ GE128.out | refine below_set ?_ GE129.out) | exact HB.out)⟩

end Go.Proofs.Ytcfjooeagfollaa.PDiaryExact
