-- PRINTED BY print.sh 35421559b90ae4d0a3588c463048766b98c2df88dd9212a6774a882060cdf62d: not written by this session
import Derived.Test.YtcfjooeagfollaaPDiaryExactx0
import Derived.Test.YtcfjooeagfollaaPDiaryExactx9
namespace Go.Proofs.Ytcfjooeagfollaa.PDiaryExact
open Go.RowKit Go.Proofs.YtcfjooeagfollaaW.PrintWords Go.Proofs.YtcfjooeagfollaaW.PrintLast Go.Proofs.YtcfjooeagfollaaW.PrintMore
attribute [local go_sem] max2_int min2_int max_two min_two max_three min_three max_four min_four   -- for this text's walks alone
set_option linter.unusedVariables false
set_option linter.unusedSimpArgs false

/-! ### gaugerref06_Good: function 53 -/
mutual
def gaugerref06_Good.j0 : Nat → Int → Bool → Int → Int → Int → Int → List (S161) → Int → Int → ByteArray → ByteArray → List (S163) → List (S165) → Option (Bool)
  | 0, _, _, _, _, _, _, _, _, _, _, _, _, _ => none
  | k + 1, x3, x53, x174000, x174001, x174002, x174003, x174004, x174005, x174006, x174007, x174008, x174009, x174010 => if x53 = true then (some false) else ((gaugerref06_in.f x174005 4).bind fun t177 => (if t177 = true then ((gaugerref06_in.f x174006 255).bind fun t178 => (if t178 = true then (if (x174007.size : Int) > 255 then (gaugerref06_Good.j1 k x3 true x174000 x174001 x174002 x174003 x174004 x174005 x174006 x174007 x174008 x174009 x174010) else (gaugerref06_Good.j1 k x3 (decide ((x174008.size : Int) > 255)) x174000 x174001 x174002 x174003 x174004 x174005 x174006 x174007 x174008 x174009 x174010)) else (gaugerref06_Good.j1 k x3 true x174000 x174001 x174002 x174003 x174004 x174005 x174006 x174007 x174008 x174009 x174010))) else (gaugerref06_Good.j1 k x3 true x174000 x174001 x174002 x174003 x174004 x174005 x174006 x174007 x174008 x174009 x174010)))
def gaugerref06_Good.j1 : Nat → Int → Bool → Int → Int → Int → Int → List (S161) → Int → Int → ByteArray → ByteArray → List (S163) → List (S165) → Option (Bool)
  | 0, _, _, _, _, _, _, _, _, _, _, _, _, _ => none
  | k + 1, x3, x79, x174000, x174001, x174002, x174003, x174004, x174005, x174006, x174007, x174008, x174009, x174010 => if x79 = true then (some false) else (gaugerref06_Good.l0 k x3 0 x174000 x174001 x174002 x174003 x174004 x174005 x174006 x174007 x174008 x174009 x174010)
def gaugerref06_Good.l0 : Nat → Int → Int → Int → Int → Int → Int → List (S161) → Int → Int → ByteArray → ByteArray → List (S163) → List (S165) → Option (Bool)
  | 0, _, _, _, _, _, _, _, _, _, _, _, _, _ => none
  | k + 1, x3, x4, x174000, x174001, x174002, x174003, x174004, x174005, x174006, x174007, x174008, x174009, x174010 => if x4 < (x174004.length : Int) then (if 0 ≤ x4 then ((gaugerref06_in.f ((rd_T161 x174004 x4).f0) 255).bind fun t180 => (if t180 = true then (if (((rd_T161 x174004 x4).f1).size : Int) = 256 then (gaugerref06_Good.l0 k x3 (wrap64 (x4 + 1)) x174000 x174001 x174002 x174003 x174004 x174005 x174006 x174007 x174008 x174009 x174010) else (some false)) else (some false))) else (none)) else (gaugerref06_Good.l1 k x3 0 x174000 x174001 x174002 x174003 x174004 x174005 x174006 x174007 x174008 x174009 x174010)
def gaugerref06_Good.l1 : Nat → Int → Int → Int → Int → Int → Int → List (S161) → Int → Int → ByteArray → ByteArray → List (S163) → List (S165) → Option (Bool)
  | 0, _, _, _, _, _, _, _, _, _, _, _, _, _ => none
  | k + 1, x3, x5, x174000, x174001, x174002, x174003, x174004, x174005, x174006, x174007, x174008, x174009, x174010 => if x5 < (x174009.length : Int) then (if 0 ≤ x5 then ((gaugerref06_in.f ((rd_T163 x174009 x5).f0) x3).bind fun t183 => (if t183 = true then ((gaugerref06_in.f ((rd_T163 x174009 x5).f1) x3).bind fun t185 => (if t185 = true then (gaugerref06_Good.l1 k x3 (wrap64 (x5 + 1)) x174000 x174001 x174002 x174003 x174004 x174005 x174006 x174007 x174008 x174009 x174010) else (some false))) else (some false))) else (none)) else (gaugerref06_Good.l2 k x3 0 x174000 x174001 x174002 x174003 x174004 x174005 x174006 x174007 x174008 x174009 x174010)
def gaugerref06_Good.l2 : Nat → Int → Int → Int → Int → Int → Int → List (S161) → Int → Int → ByteArray → ByteArray → List (S163) → List (S165) → Option (Bool)
  | 0, _, _, _, _, _, _, _, _, _, _, _, _, _ => none
  | k + 1, x3, x6, x174000, x174001, x174002, x174003, x174004, x174005, x174006, x174007, x174008, x174009, x174010 => if x6 < (x174010.length : Int) then (if 0 ≤ x6 then ((gaugerref06_in.f ((rd_T165 x174010 x6).f0) 255).bind fun t187 => (if t187 = true then ((gaugerref06_in.f ((rd_T165 x174010 x6).f1) x3).bind fun t189 => (if t189 = true then (gaugerref06_Good.l2 k x3 (wrap64 (x6 + 1)) x174000 x174001 x174002 x174003 x174004 x174005 x174006 x174007 x174008 x174009 x174010) else (some false))) else (some false))) else (none)) else (some true)
end
def gaugerref06_Good.f (k : Nat) (a0_0 : Int) (a0_1 : Int) (a0_2 : Int) (a0_3 : Int) (l0_4 : List (S161)) (a0_5 : Int) (a0_6 : Int) (a0_7 : ByteArray) (a0_8 : ByteArray) (l0_9 : List (S163)) (l0_10 : List (S165)) : Option (Bool) := if a0_0 < 1 then (gaugerref06_Good.j0 k 2147483647 true a0_0 a0_1 a0_2 a0_3 l0_4 a0_5 a0_6 a0_7 a0_8 l0_9 l0_10) else (if a0_0 > 6 then (gaugerref06_Good.j0 k 2147483647 true a0_0 a0_1 a0_2 a0_3 l0_4 a0_5 a0_6 a0_7 a0_8 l0_9 l0_10) else ((gaugerref06_in.f a0_1 2147483647).bind fun t174 => (if t174 = true then ((gaugerref06_in.f a0_2 2147483647).bind fun t175 => (if t175 = true then ((gaugerref06_in.f a0_3 2147483647).bind fun t176 => (if t176 = true then (if (l0_4.length : Int) > 8 then (gaugerref06_Good.j0 k 2147483647 true a0_0 a0_1 a0_2 a0_3 l0_4 a0_5 a0_6 a0_7 a0_8 l0_9 l0_10) else (if (l0_9.length : Int) > 16 then (gaugerref06_Good.j0 k 2147483647 true a0_0 a0_1 a0_2 a0_3 l0_4 a0_5 a0_6 a0_7 a0_8 l0_9 l0_10) else (gaugerref06_Good.j0 k 2147483647 (decide ((l0_10.length : Int) > 256)) a0_0 a0_1 a0_2 a0_3 l0_4 a0_5 a0_6 a0_7 a0_8 l0_9 l0_10))) else (gaugerref06_Good.j0 k 2147483647 true a0_0 a0_1 a0_2 a0_3 l0_4 a0_5 a0_6 a0_7 a0_8 l0_9 l0_10))) else (gaugerref06_Good.j0 k 2147483647 true a0_0 a0_1 a0_2 a0_3 l0_4 a0_5 a0_6 a0_7 a0_8 l0_9 l0_10))) else (gaugerref06_Good.j0 k 2147483647 true a0_0 a0_1 a0_2 a0_3 l0_4 a0_5 a0_6 a0_7 a0_8 l0_9 l0_10))))
theorem gaugerref06_Good.mono_l : ∀ k, (∀ y0 y1 y2 y3 y4 y5 y6 y7 y8 y9 y10 y11 y12, LeO (gaugerref06_Good.j0 k y0 y1 y2 y3 y4 y5 y6 y7 y8 y9 y10 y11 y12) (gaugerref06_Good.j0 (k + 1) y0 y1 y2 y3 y4 y5 y6 y7 y8 y9 y10 y11 y12)) ∧ (∀ y0 y1 y2 y3 y4 y5 y6 y7 y8 y9 y10 y11 y12, LeO (gaugerref06_Good.j1 k y0 y1 y2 y3 y4 y5 y6 y7 y8 y9 y10 y11 y12) (gaugerref06_Good.j1 (k + 1) y0 y1 y2 y3 y4 y5 y6 y7 y8 y9 y10 y11 y12)) ∧ (∀ y0 y1 y2 y3 y4 y5 y6 y7 y8 y9 y10 y11 y12, LeO (gaugerref06_Good.l0 k y0 y1 y2 y3 y4 y5 y6 y7 y8 y9 y10 y11 y12) (gaugerref06_Good.l0 (k + 1) y0 y1 y2 y3 y4 y5 y6 y7 y8 y9 y10 y11 y12)) ∧ (∀ y0 y1 y2 y3 y4 y5 y6 y7 y8 y9 y10 y11 y12, LeO (gaugerref06_Good.l1 k y0 y1 y2 y3 y4 y5 y6 y7 y8 y9 y10 y11 y12) (gaugerref06_Good.l1 (k + 1) y0 y1 y2 y3 y4 y5 y6 y7 y8 y9 y10 y11 y12)) ∧ (∀ y0 y1 y2 y3 y4 y5 y6 y7 y8 y9 y10 y11 y12, LeO (gaugerref06_Good.l2 k y0 y1 y2 y3 y4 y5 y6 y7 y8 y9 y10 y11 y12) (gaugerref06_Good.l2 (k + 1) y0 y1 y2 y3 y4 y5 y6 y7 y8 y9 y10 y11 y12))
  | 0 => ⟨fun _ _ _ _ _ _ _ _ _ _ _ _ _ r h => by simp [gaugerref06_Good.j0] at h, fun _ _ _ _ _ _ _ _ _ _ _ _ _ r h => by simp [gaugerref06_Good.j1] at h, fun _ _ _ _ _ _ _ _ _ _ _ _ _ r h => by simp [gaugerref06_Good.l0] at h, fun _ _ _ _ _ _ _ _ _ _ _ _ _ r h => by simp [gaugerref06_Good.l1] at h, fun _ _ _ _ _ _ _ _ _ _ _ _ _ r h => by simp [gaugerref06_Good.l2] at h⟩
  | k + 1 => by
    obtain ⟨ih0, ih1, ih2, ih3, ih4⟩ := gaugerref06_Good.mono_l k
    refine ⟨?_, ?_, ?_, ?_, ?_⟩
    · intro y0 y1 y2 y3 y4 y5 y6 y7 y8 y9 y10 y11 y12
      unfold gaugerref06_Good.j0
      repeat' first
      | (with_reducible exact ih0 _ _ _ _ _ _ _ _ _ _ _ _ _)
      | (with_reducible exact ih1 _ _ _ _ _ _ _ _ _ _ _ _ _)
      | (with_reducible exact ih2 _ _ _ _ _ _ _ _ _ _ _ _ _)
      | (with_reducible exact ih3 _ _ _ _ _ _ _ _ _ _ _ _ _)
      | (with_reducible exact ih4 _ _ _ _ _ _ _ _ _ _ _ _ _)
      | (with_reducible exact LeO.refl _)
      | (with_reducible exact LeO.none _)
      | (with_reducible refine LeO.ite ?_ ?_)
      | (with_reducible refine LeO.bind ?_ (fun _ => ?_))
      | exact ih0 _ _ _ _ _ _ _ _ _ _ _ _ _
      | exact ih1 _ _ _ _ _ _ _ _ _ _ _ _ _
      | exact ih2 _ _ _ _ _ _ _ _ _ _ _ _ _
      | exact ih3 _ _ _ _ _ _ _ _ _ _ _ _ _
      | exact ih4 _ _ _ _ _ _ _ _ _ _ _ _ _
      | exact LeO.none _
      | refine LeO.ite ?_ ?_
      | refine LeO.bind ?_ (fun _ => ?_)
    · intro y0 y1 y2 y3 y4 y5 y6 y7 y8 y9 y10 y11 y12
      unfold gaugerref06_Good.j1
      repeat' first
      | (with_reducible exact ih0 _ _ _ _ _ _ _ _ _ _ _ _ _)
      | (with_reducible exact ih1 _ _ _ _ _ _ _ _ _ _ _ _ _)
      | (with_reducible exact ih2 _ _ _ _ _ _ _ _ _ _ _ _ _)
      | (with_reducible exact ih3 _ _ _ _ _ _ _ _ _ _ _ _ _)
      | (with_reducible exact ih4 _ _ _ _ _ _ _ _ _ _ _ _ _)
      | (with_reducible exact LeO.refl _)
      | (with_reducible exact LeO.none _)
      | (with_reducible refine LeO.ite ?_ ?_)
      | (with_reducible refine LeO.bind ?_ (fun _ => ?_))
      | exact ih0 _ _ _ _ _ _ _ _ _ _ _ _ _
      | exact ih1 _ _ _ _ _ _ _ _ _ _ _ _ _
      | exact ih2 _ _ _ _ _ _ _ _ _ _ _ _ _
      | exact ih3 _ _ _ _ _ _ _ _ _ _ _ _ _
      | exact ih4 _ _ _ _ _ _ _ _ _ _ _ _ _
      | exact LeO.none _
      | refine LeO.ite ?_ ?_
      | refine LeO.bind ?_ (fun _ => ?_)
    · intro y0 y1 y2 y3 y4 y5 y6 y7 y8 y9 y10 y11 y12
      unfold gaugerref06_Good.l0
      repeat' first
      | (with_reducible exact ih0 _ _ _ _ _ _ _ _ _ _ _ _ _)
      | (with_reducible exact ih1 _ _ _ _ _ _ _ _ _ _ _ _ _)
      | (with_reducible exact ih2 _ _ _ _ _ _ _ _ _ _ _ _ _)
      | (with_reducible exact ih3 _ _ _ _ _ _ _ _ _ _ _ _ _)
      | (with_reducible exact ih4 _ _ _ _ _ _ _ _ _ _ _ _ _)
      | (with_reducible exact LeO.refl _)
      | (with_reducible exact LeO.none _)
      | (with_reducible refine LeO.ite ?_ ?_)
      | (with_reducible refine LeO.bind ?_ (fun _ => ?_))
      | exact ih0 _ _ _ _ _ _ _ _ _ _ _ _ _
      | exact ih1 _ _ _ _ _ _ _ _ _ _ _ _ _
      | exact ih2 _ _ _ _ _ _ _ _ _ _ _ _ _
      | exact ih3 _ _ _ _ _ _ _ _ _ _ _ _ _
      | exact ih4 _ _ _ _ _ _ _ _ _ _ _ _ _
      | exact LeO.none _
      | refine LeO.ite ?_ ?_
      | refine LeO.bind ?_ (fun _ => ?_)
    · intro y0 y1 y2 y3 y4 y5 y6 y7 y8 y9 y10 y11 y12
      unfold gaugerref06_Good.l1
      repeat' first
      | (with_reducible exact ih0 _ _ _ _ _ _ _ _ _ _ _ _ _)
      | (with_reducible exact ih1 _ _ _ _ _ _ _ _ _ _ _ _ _)
      | (with_reducible exact ih2 _ _ _ _ _ _ _ _ _ _ _ _ _)
      | (with_reducible exact ih3 _ _ _ _ _ _ _ _ _ _ _ _ _)
      | (with_reducible exact ih4 _ _ _ _ _ _ _ _ _ _ _ _ _)
      | (with_reducible exact LeO.refl _)
      | (with_reducible exact LeO.none _)
      | (with_reducible refine LeO.ite ?_ ?_)
      | (with_reducible refine LeO.bind ?_ (fun _ => ?_))
      | exact ih0 _ _ _ _ _ _ _ _ _ _ _ _ _
      | exact ih1 _ _ _ _ _ _ _ _ _ _ _ _ _
      | exact ih2 _ _ _ _ _ _ _ _ _ _ _ _ _
      | exact ih3 _ _ _ _ _ _ _ _ _ _ _ _ _
      | exact ih4 _ _ _ _ _ _ _ _ _ _ _ _ _
      | exact LeO.none _
      | refine LeO.ite ?_ ?_
      | refine LeO.bind ?_ (fun _ => ?_)
    · intro y0 y1 y2 y3 y4 y5 y6 y7 y8 y9 y10 y11 y12
      unfold gaugerref06_Good.l2
      repeat' first
      | (with_reducible exact ih0 _ _ _ _ _ _ _ _ _ _ _ _ _)
      | (with_reducible exact ih1 _ _ _ _ _ _ _ _ _ _ _ _ _)
      | (with_reducible exact ih2 _ _ _ _ _ _ _ _ _ _ _ _ _)
      | (with_reducible exact ih3 _ _ _ _ _ _ _ _ _ _ _ _ _)
      | (with_reducible exact ih4 _ _ _ _ _ _ _ _ _ _ _ _ _)
      | (with_reducible exact LeO.refl _)
      | (with_reducible exact LeO.none _)
      | (with_reducible refine LeO.ite ?_ ?_)
      | (with_reducible refine LeO.bind ?_ (fun _ => ?_))
      | exact ih0 _ _ _ _ _ _ _ _ _ _ _ _ _
      | exact ih1 _ _ _ _ _ _ _ _ _ _ _ _ _
      | exact ih2 _ _ _ _ _ _ _ _ _ _ _ _ _
      | exact ih3 _ _ _ _ _ _ _ _ _ _ _ _ _
      | exact ih4 _ _ _ _ _ _ _ _ _ _ _ _ _
      | exact LeO.none _
      | refine LeO.ite ?_ ?_
      | refine LeO.bind ?_ (fun _ => ?_)
theorem gaugerref06_Good.mono : ∀ a0 a1 a2 a3 a4 a5 a6 a7 a8 a9 a10 k, LeO (gaugerref06_Good.f k a0 a1 a2 a3 a4 a5 a6 a7 a8 a9 a10) (gaugerref06_Good.f (k + 1) a0 a1 a2 a3 a4 a5 a6 a7 a8 a9 a10) := by
  intro a0 a1 a2 a3 a4 a5 a6 a7 a8 a9 a10 k
  obtain ⟨ih0, ih1, ih2, ih3, ih4⟩ := gaugerref06_Good.mono_l k
  unfold gaugerref06_Good.f
  repeat' first
      | (with_reducible exact ih0 _ _ _ _ _ _ _ _ _ _ _ _ _)
      | (with_reducible exact ih1 _ _ _ _ _ _ _ _ _ _ _ _ _)
      | (with_reducible exact ih2 _ _ _ _ _ _ _ _ _ _ _ _ _)
      | (with_reducible exact ih3 _ _ _ _ _ _ _ _ _ _ _ _ _)
      | (with_reducible exact ih4 _ _ _ _ _ _ _ _ _ _ _ _ _)
      | (with_reducible exact LeO.refl _)
      | (with_reducible exact LeO.none _)
      | (with_reducible refine LeO.ite ?_ ?_)
      | (with_reducible refine LeO.bind ?_ (fun _ => ?_))
      | exact ih0 _ _ _ _ _ _ _ _ _ _ _ _ _
      | exact ih1 _ _ _ _ _ _ _ _ _ _ _ _ _
      | exact ih2 _ _ _ _ _ _ _ _ _ _ _ _ _
      | exact ih3 _ _ _ _ _ _ _ _ _ _ _ _ _
      | exact ih4 _ _ _ _ _ _ _ _ _ _ _ _ _
      | exact LeO.none _
      | refine LeO.ite ?_ ?_
      | refine LeO.bind ?_ (fun _ => ?_)
set_option maxHeartbeats 8000000 in
set_option maxRecDepth 100000 in
theorem gaugerref06_Good.calls (k : Nat) (a0_0 : Int) (a0_1 : Int) (a0_2 : Int) (a0_3 : Int) (A0_4 : Option Addr) (c0_4 : Nat) (l0_4 : List (S161)) (a0_5 : Int) (a0_6 : Int) (a0_7 : ByteArray) (a0_8 : ByteArray) (A0_9 : Option Addr) (c0_9 : Nat) (l0_9 : List (S163)) (A0_10 : Option Addr) (c0_10 : Nat) (l0_10 : List (S165)) (r : Bool) (w : World) (hr0_4 : Kd.C k161 w A0_4 l0_4.length l0_4) (hc0_4 : l0_4.length ≤ c0_4) (hr0_9 : Kd.C k163 w A0_9 l0_9.length l0_9) (hc0_9 : l0_9.length ≤ c0_9) (hr0_10 : Kd.C k165 w A0_10 l0_10.length l0_10) (hc0_10 : l0_10.length ≤ c0_10) (h : gaugerref06_Good.f k a0_0 a0_1 a0_2 a0_3 l0_4 a0_5 a0_6 a0_7 a0_8 l0_9 l0_10 = some r) :
    Calls Try.prog 53 #[.agg #[.int .i64 a0_0, .int .i64 a0_1, .int .i64 a0_2, .int .i64 a0_3, .slice A0_4 l0_4.length c0_4, .int .i64 a0_5, .int .i64 a0_6, .string a0_7, .string a0_8, .slice A0_9 l0_9.length c0_9, .slice A0_10 l0_10.length c0_10]] w fun e w' => e = .returned (.bool r) ∧ Below w.heap.size w w' := by
  have hu58 := Try.underlying58
  have HR0_4 := Aside0.mk hr0_4
  have HC0_4 := Aside0.mk hc0_4
  clear hr0_4 hc0_4
  have HR0_9 := Aside0.mk hr0_9
  have HC0_9 := Aside0.mk hc0_9
  clear hr0_9 hc0_9
  have HR0_10 := Aside0.mk hr0_10
  have HC0_10 := Aside0.mk hc0_10
  clear hr0_10 hc0_10
  have HB := Aside0.mk (Below.refl w.heap.size w)
  have H : (if a0_0 < 1 then (gaugerref06_Good.j0 k 2147483647 true a0_0 a0_1 a0_2 a0_3 l0_4 a0_5 a0_6 a0_7 a0_8 l0_9 l0_10) else (if a0_0 > 6 then (gaugerref06_Good.j0 k 2147483647 true a0_0 a0_1 a0_2 a0_3 l0_4 a0_5 a0_6 a0_7 a0_8 l0_9 l0_10) else ((gaugerref06_in.f a0_1 2147483647).bind fun t174 => (if t174 = true then ((gaugerref06_in.f a0_2 2147483647).bind fun t175 => (if t175 = true then ((gaugerref06_in.f a0_3 2147483647).bind fun t176 => (if t176 = true then (if (l0_4.length : Int) > 8 then (gaugerref06_Good.j0 k 2147483647 true a0_0 a0_1 a0_2 a0_3 l0_4 a0_5 a0_6 a0_7 a0_8 l0_9 l0_10) else (if (l0_9.length : Int) > 16 then (gaugerref06_Good.j0 k 2147483647 true a0_0 a0_1 a0_2 a0_3 l0_4 a0_5 a0_6 a0_7 a0_8 l0_9 l0_10) else (gaugerref06_Good.j0 k 2147483647 (decide ((l0_10.length : Int) > 256)) a0_0 a0_1 a0_2 a0_3 l0_4 a0_5 a0_6 a0_7 a0_8 l0_9 l0_10))) else (gaugerref06_Good.j0 k 2147483647 true a0_0 a0_1 a0_2 a0_3 l0_4 a0_5 a0_6 a0_7 a0_8 l0_9 l0_10))) else (gaugerref06_Good.j0 k 2147483647 true a0_0 a0_1 a0_2 a0_3 l0_4 a0_5 a0_6 a0_7 a0_8 l0_9 l0_10))) else (gaugerref06_Good.j0 k 2147483647 true a0_0 a0_1 a0_2 a0_3 l0_4 a0_5 a0_6 a0_7 a0_8 l0_9 l0_10))))) = some r := h
  clear h
  have HC2 := Aside0.mk H
  clear H
  go_enter Try.func53, Try.ntmps53
  go_upto_region 2 with (first | ((with_reducible refine gate_dst (N := 1) rfl ?_); (try (refine gate_guard (by rfl) ?_; dsimp only)); refine box_event ?hg (N := 1) ?hd (cs := #[.int .i64 a0_0, .int .i64 a0_1, .int .i64 a0_2, .int .i64 a0_3, .slice A0_4 l0_4.length c0_4, .int .i64 a0_5, .int .i64 a0_6, .string a0_7, .string a0_8, .slice A0_9 l0_9.length c0_9, .slice A0_10 l0_10.length c0_10]) (t := 58) ?hr ?_; (case hd => rfl); (case hg => rfl); (case hr => first | (go_simp; done) | (go_simp; rfl)); intro gb173 hg w3 hbox hb; have n0_ := Aside0.mk (below_step (by repeat (first | (with_reducible first | exact HB.out | apply below_alloc | apply pw_below_drewN | apply below_drew1) | exact HB.out)) hb); have n1_ := Aside0.mk (hbox); have n2_ := Aside0.mk ((by rw [hg]; exact (below_size (by repeat (first | (with_reducible first | exact HB.out | apply below_alloc | apply pw_below_drewN | apply below_drew1) | exact HB.out))) : w.heap.size ≤ gb173)); have n3_ := Aside0.mk ((by rw [hg]; exact (below_size (by repeat (first | (with_reducible first | exact HB.out | apply below_alloc | apply pw_below_drewN | apply below_drew1) | exact HB.out))) : w.heap.size ≤ gb173)); clear HB; have HB := n0_; have BK173 := n1_; have GW173 := n2_; have GE173 := n3_; clear n0_ n1_ n2_ n3_; clear hb hbox hg))
  (try simp only [Act.put, List.setIfInBounds_toArray, List.set_cons_zero, List.set_cons_succ])
  go_cut [53] (fun v53 wc => ∃ (kq : Nat) (x53_1 : Bool), v53 = .bool x53_1 ∧ Aside0 (gaugerref06_Good.j0 kq 2147483647 x53_1 a0_0 a0_1 a0_2 a0_3 l0_4 a0_5 a0_6 a0_7 a0_8 l0_9 l0_10 = some r) ∧ Aside0 (kq ≤ k) ∧ Aside0 (wc.heap[gb173]? = some (.cells #[.int .i64 a0_0, .int .i64 a0_1, .int .i64 a0_2, .int .i64 a0_3, (.slice A0_4 l0_4.length c0_4), .int .i64 a0_5, .int .i64 a0_6, .string a0_7, .string a0_8, (.slice A0_9 l0_9.length c0_9), (.slice A0_10 l0_10.length c0_10)] 58 (0, 0))) ∧ Aside0 (Below w.heap.size w wc))
  case first =>
    have H := HC2.out
    clear HC2
    by_cases c4 : a0_0 < 1
    · rw [if_pos c4] at H
      have c4b0 : decide (a0_0 < 1) = true := decide_eq_true c4
      clear c4
      (first | rw [c4b0] | (simp only [i64_w, i32_w]; rw [c4b0]) | skip)
      have H' := Aside0.mk H
      clear H
      have hcz5_0 : w3.cell? ⟨gb173, 0, none⟩ = some (.int .i64 a0_0) := (blk_cell BK173.out 0).trans rfl
      have hcz5_1 : w3.cell? ⟨gb173, 1, none⟩ = some (.int .i64 a0_1) := (blk_cell BK173.out 1).trans rfl
      have hcz5_2 : w3.cell? ⟨gb173, 2, none⟩ = some (.int .i64 a0_2) := (blk_cell BK173.out 2).trans rfl
      have hcz5_3 : w3.cell? ⟨gb173, 3, none⟩ = some (.int .i64 a0_3) := (blk_cell BK173.out 3).trans rfl
      have hcz5_4 : w3.cell? ⟨gb173, 4, none⟩ = some (.slice A0_4 l0_4.length c0_4) := (blk_cell BK173.out 4).trans rfl
      have hcz5_5 : w3.cell? ⟨gb173, 5, none⟩ = some (.int .i64 a0_5) := (blk_cell BK173.out 5).trans rfl
      have hcz5_6 : w3.cell? ⟨gb173, 6, none⟩ = some (.int .i64 a0_6) := (blk_cell BK173.out 6).trans rfl
      have hcz5_7 : w3.cell? ⟨gb173, 7, none⟩ = some (.string a0_7) := (blk_cell BK173.out 7).trans rfl
      have hcz5_8 : w3.cell? ⟨gb173, 8, none⟩ = some (.string a0_8) := (blk_cell BK173.out 8).trans rfl
      have hcz5_9 : w3.cell? ⟨gb173, 9, none⟩ = some (.slice A0_9 l0_9.length c0_9) := (blk_cell BK173.out 9).trans rfl
      have hcz5_10 : w3.cell? ⟨gb173, 10, none⟩ = some (.slice A0_10 l0_10.length c0_10) := (blk_cell BK173.out 10).trans rfl
      have hfz5_0 := blk_frozen BK173.out 0
      have hfz5_1 := blk_frozen BK173.out 1
      have hfz5_2 := blk_frozen BK173.out 2
      have hfz5_3 := blk_frozen BK173.out 3
      have hfz5_4 := blk_frozen BK173.out 4
      have hfz5_5 := blk_frozen BK173.out 5
      have hfz5_6 := blk_frozen BK173.out 6
      have hfz5_7 := blk_frozen BK173.out 7
      have hfz5_8 := blk_frozen BK173.out 8
      have hfz5_9 := blk_frozen BK173.out 9
      have hfz5_10 := blk_frozen BK173.out 10
      go_wp2
      go_meet
      case rel => exact ⟨_, (true), (by first | rfl | (simp; done) | (simp [*]; done)), H', ⟨by first | omega | exact Nat.le_refl _⟩, ⟨by (with_reducible repeat (first | refine blk_drewN ?_ _ | refine blk_drew ?_ | refine blk_alloc ?_ _)); exact BK173.out⟩, ⟨by repeat (first | (with_reducible first | exact HB.out | apply below_alloc | apply pw_below_drewN | apply below_drew1 | refine below_set ?_ GE173.out) | exact HB.out)⟩⟩
    · rw [if_neg c4] at H
      have c4b0 : decide (a0_0 < 1) = false := decide_eq_false c4
      clear c4
      (first | rw [c4b0] | (simp only [i64_w, i32_w]; rw [c4b0]) | skip)
      by_cases c6 : a0_0 > 6
      · rw [if_pos c6] at H
        have c6b0 : decide (6 < a0_0) = true := decide_eq_true c6
        clear c6
        have H' := Aside0.mk H
        clear H
        have hcz7_0 : w3.cell? ⟨gb173, 0, none⟩ = some (.int .i64 a0_0) := (blk_cell BK173.out 0).trans rfl
        have hcz7_1 : w3.cell? ⟨gb173, 1, none⟩ = some (.int .i64 a0_1) := (blk_cell BK173.out 1).trans rfl
        have hcz7_2 : w3.cell? ⟨gb173, 2, none⟩ = some (.int .i64 a0_2) := (blk_cell BK173.out 2).trans rfl
        have hcz7_3 : w3.cell? ⟨gb173, 3, none⟩ = some (.int .i64 a0_3) := (blk_cell BK173.out 3).trans rfl
        have hcz7_4 : w3.cell? ⟨gb173, 4, none⟩ = some (.slice A0_4 l0_4.length c0_4) := (blk_cell BK173.out 4).trans rfl
        have hcz7_5 : w3.cell? ⟨gb173, 5, none⟩ = some (.int .i64 a0_5) := (blk_cell BK173.out 5).trans rfl
        have hcz7_6 : w3.cell? ⟨gb173, 6, none⟩ = some (.int .i64 a0_6) := (blk_cell BK173.out 6).trans rfl
        have hcz7_7 : w3.cell? ⟨gb173, 7, none⟩ = some (.string a0_7) := (blk_cell BK173.out 7).trans rfl
        have hcz7_8 : w3.cell? ⟨gb173, 8, none⟩ = some (.string a0_8) := (blk_cell BK173.out 8).trans rfl
        have hcz7_9 : w3.cell? ⟨gb173, 9, none⟩ = some (.slice A0_9 l0_9.length c0_9) := (blk_cell BK173.out 9).trans rfl
        have hcz7_10 : w3.cell? ⟨gb173, 10, none⟩ = some (.slice A0_10 l0_10.length c0_10) := (blk_cell BK173.out 10).trans rfl
        have hfz7_0 := blk_frozen BK173.out 0
        have hfz7_1 := blk_frozen BK173.out 1
        have hfz7_2 := blk_frozen BK173.out 2
        have hfz7_3 := blk_frozen BK173.out 3
        have hfz7_4 := blk_frozen BK173.out 4
        have hfz7_5 := blk_frozen BK173.out 5
        have hfz7_6 := blk_frozen BK173.out 6
        have hfz7_7 := blk_frozen BK173.out 7
        have hfz7_8 := blk_frozen BK173.out 8
        have hfz7_9 := blk_frozen BK173.out 9
        have hfz7_10 := blk_frozen BK173.out 10
        go_wp2
        go_meet
        case rel => exact ⟨_, (true), (by first | rfl | (simp; done) | (simp [*]; done)), H', ⟨by first | omega | exact Nat.le_refl _⟩, ⟨by (with_reducible repeat (first | refine blk_drewN ?_ _ | refine blk_drew ?_ | refine blk_alloc ?_ _)); exact BK173.out⟩, ⟨by repeat (first | (with_reducible first | exact HB.out | apply below_alloc | apply pw_below_drewN | apply below_drew1 | refine below_set ?_ GE173.out) | exact HB.out)⟩⟩
      · rw [if_neg c6] at H
        have c6b0 : decide (6 < a0_0) = false := decide_eq_false c6
        clear c6
        replace H := Option.bind_eq_some_iff.mp H
        obtain ⟨t174, A80, H⟩ := H
        replace H : (if t174 = true then ((gaugerref06_in.f a0_2 2147483647).bind fun t175 => (if t175 = true then ((gaugerref06_in.f a0_3 2147483647).bind fun t176 => (if t176 = true then (if (l0_4.length : Int) > 8 then (gaugerref06_Good.j0 k 2147483647 true a0_0 a0_1 a0_2 a0_3 l0_4 a0_5 a0_6 a0_7 a0_8 l0_9 l0_10) else (if (l0_9.length : Int) > 16 then (gaugerref06_Good.j0 k 2147483647 true a0_0 a0_1 a0_2 a0_3 l0_4 a0_5 a0_6 a0_7 a0_8 l0_9 l0_10) else (gaugerref06_Good.j0 k 2147483647 (decide ((l0_10.length : Int) > 256)) a0_0 a0_1 a0_2 a0_3 l0_4 a0_5 a0_6 a0_7 a0_8 l0_9 l0_10))) else (gaugerref06_Good.j0 k 2147483647 true a0_0 a0_1 a0_2 a0_3 l0_4 a0_5 a0_6 a0_7 a0_8 l0_9 l0_10))) else (gaugerref06_Good.j0 k 2147483647 true a0_0 a0_1 a0_2 a0_3 l0_4 a0_5 a0_6 a0_7 a0_8 l0_9 l0_10))) else (gaugerref06_Good.j0 k 2147483647 true a0_0 a0_1 a0_2 a0_3 l0_4 a0_5 a0_6 a0_7 a0_8 l0_9 l0_10)) = some r := H
        have A8 := Aside0.mk A80
        clear A80
        by_cases c9 : t174 = true
        · subst c9
          have H1 : ((gaugerref06_in.f a0_2 2147483647).bind fun t175 => (if t175 = true then ((gaugerref06_in.f a0_3 2147483647).bind fun t176 => (if t176 = true then (if (l0_4.length : Int) > 8 then (gaugerref06_Good.j0 k 2147483647 true a0_0 a0_1 a0_2 a0_3 l0_4 a0_5 a0_6 a0_7 a0_8 l0_9 l0_10) else (if (l0_9.length : Int) > 16 then (gaugerref06_Good.j0 k 2147483647 true a0_0 a0_1 a0_2 a0_3 l0_4 a0_5 a0_6 a0_7 a0_8 l0_9 l0_10) else (gaugerref06_Good.j0 k 2147483647 (decide ((l0_10.length : Int) > 256)) a0_0 a0_1 a0_2 a0_3 l0_4 a0_5 a0_6 a0_7 a0_8 l0_9 l0_10))) else (gaugerref06_Good.j0 k 2147483647 true a0_0 a0_1 a0_2 a0_3 l0_4 a0_5 a0_6 a0_7 a0_8 l0_9 l0_10))) else (gaugerref06_Good.j0 k 2147483647 true a0_0 a0_1 a0_2 a0_3 l0_4 a0_5 a0_6 a0_7 a0_8 l0_9 l0_10))) = some r := by rw [if_pos rfl] at H; exact H
          clear H
          have H := H1
          clear H1
          replace H := Option.bind_eq_some_iff.mp H
          obtain ⟨t175, A100, H⟩ := H
          replace H : (if t175 = true then ((gaugerref06_in.f a0_3 2147483647).bind fun t176 => (if t176 = true then (if (l0_4.length : Int) > 8 then (gaugerref06_Good.j0 k 2147483647 true a0_0 a0_1 a0_2 a0_3 l0_4 a0_5 a0_6 a0_7 a0_8 l0_9 l0_10) else (if (l0_9.length : Int) > 16 then (gaugerref06_Good.j0 k 2147483647 true a0_0 a0_1 a0_2 a0_3 l0_4 a0_5 a0_6 a0_7 a0_8 l0_9 l0_10) else (gaugerref06_Good.j0 k 2147483647 (decide ((l0_10.length : Int) > 256)) a0_0 a0_1 a0_2 a0_3 l0_4 a0_5 a0_6 a0_7 a0_8 l0_9 l0_10))) else (gaugerref06_Good.j0 k 2147483647 true a0_0 a0_1 a0_2 a0_3 l0_4 a0_5 a0_6 a0_7 a0_8 l0_9 l0_10))) else (gaugerref06_Good.j0 k 2147483647 true a0_0 a0_1 a0_2 a0_3 l0_4 a0_5 a0_6 a0_7 a0_8 l0_9 l0_10)) = some r := H
          have A10 := Aside0.mk A100
          clear A100
          by_cases c11 : t175 = true
          · subst c11
            have H1 : ((gaugerref06_in.f a0_3 2147483647).bind fun t176 => (if t176 = true then (if (l0_4.length : Int) > 8 then (gaugerref06_Good.j0 k 2147483647 true a0_0 a0_1 a0_2 a0_3 l0_4 a0_5 a0_6 a0_7 a0_8 l0_9 l0_10) else (if (l0_9.length : Int) > 16 then (gaugerref06_Good.j0 k 2147483647 true a0_0 a0_1 a0_2 a0_3 l0_4 a0_5 a0_6 a0_7 a0_8 l0_9 l0_10) else (gaugerref06_Good.j0 k 2147483647 (decide ((l0_10.length : Int) > 256)) a0_0 a0_1 a0_2 a0_3 l0_4 a0_5 a0_6 a0_7 a0_8 l0_9 l0_10))) else (gaugerref06_Good.j0 k 2147483647 true a0_0 a0_1 a0_2 a0_3 l0_4 a0_5 a0_6 a0_7 a0_8 l0_9 l0_10))) = some r := by rw [if_pos rfl] at H; exact H
            clear H
            have H := H1
            clear H1
            replace H := Option.bind_eq_some_iff.mp H
            obtain ⟨t176, A120, H⟩ := H
            replace H : (if t176 = true then (if (l0_4.length : Int) > 8 then (gaugerref06_Good.j0 k 2147483647 true a0_0 a0_1 a0_2 a0_3 l0_4 a0_5 a0_6 a0_7 a0_8 l0_9 l0_10) else (if (l0_9.length : Int) > 16 then (gaugerref06_Good.j0 k 2147483647 true a0_0 a0_1 a0_2 a0_3 l0_4 a0_5 a0_6 a0_7 a0_8 l0_9 l0_10) else (gaugerref06_Good.j0 k 2147483647 (decide ((l0_10.length : Int) > 256)) a0_0 a0_1 a0_2 a0_3 l0_4 a0_5 a0_6 a0_7 a0_8 l0_9 l0_10))) else (gaugerref06_Good.j0 k 2147483647 true a0_0 a0_1 a0_2 a0_3 l0_4 a0_5 a0_6 a0_7 a0_8 l0_9 l0_10)) = some r := H
            have A12 := Aside0.mk A120
            clear A120
            by_cases c13 : t176 = true
            · subst c13
              have H1 : (if (l0_4.length : Int) > 8 then (gaugerref06_Good.j0 k 2147483647 true a0_0 a0_1 a0_2 a0_3 l0_4 a0_5 a0_6 a0_7 a0_8 l0_9 l0_10) else (if (l0_9.length : Int) > 16 then (gaugerref06_Good.j0 k 2147483647 true a0_0 a0_1 a0_2 a0_3 l0_4 a0_5 a0_6 a0_7 a0_8 l0_9 l0_10) else (gaugerref06_Good.j0 k 2147483647 (decide ((l0_10.length : Int) > 256)) a0_0 a0_1 a0_2 a0_3 l0_4 a0_5 a0_6 a0_7 a0_8 l0_9 l0_10))) = some r := by rw [if_pos rfl] at H; exact H
              clear H
              have H := H1
              clear H1
              by_cases c14 : (l0_4.length : Int) > 8
              · rw [if_pos c14] at H
                have c14b0 : decide (8 < (l0_4.length : Int)) = true := decide_eq_true c14
                have c14b1 : decide (8 < l0_4.length) = true := decide_eq_true (by omega)
                clear c14
                have H' := Aside0.mk H
                clear H
                have hcz15_0 : w3.cell? ⟨gb173, 0, none⟩ = some (.int .i64 a0_0) := (blk_cell BK173.out 0).trans rfl
                have hcz15_1 : w3.cell? ⟨gb173, 1, none⟩ = some (.int .i64 a0_1) := (blk_cell BK173.out 1).trans rfl
                have hcz15_2 : w3.cell? ⟨gb173, 2, none⟩ = some (.int .i64 a0_2) := (blk_cell BK173.out 2).trans rfl
                have hcz15_3 : w3.cell? ⟨gb173, 3, none⟩ = some (.int .i64 a0_3) := (blk_cell BK173.out 3).trans rfl
                have hcz15_4 : w3.cell? ⟨gb173, 4, none⟩ = some (.slice A0_4 l0_4.length c0_4) := (blk_cell BK173.out 4).trans rfl
                have hcz15_5 : w3.cell? ⟨gb173, 5, none⟩ = some (.int .i64 a0_5) := (blk_cell BK173.out 5).trans rfl
                have hcz15_6 : w3.cell? ⟨gb173, 6, none⟩ = some (.int .i64 a0_6) := (blk_cell BK173.out 6).trans rfl
                have hcz15_7 : w3.cell? ⟨gb173, 7, none⟩ = some (.string a0_7) := (blk_cell BK173.out 7).trans rfl
                have hcz15_8 : w3.cell? ⟨gb173, 8, none⟩ = some (.string a0_8) := (blk_cell BK173.out 8).trans rfl
                have hcz15_9 : w3.cell? ⟨gb173, 9, none⟩ = some (.slice A0_9 l0_9.length c0_9) := (blk_cell BK173.out 9).trans rfl
                have hcz15_10 : w3.cell? ⟨gb173, 10, none⟩ = some (.slice A0_10 l0_10.length c0_10) := (blk_cell BK173.out 10).trans rfl
                have hfz15_0 := blk_frozen BK173.out 0
                have hfz15_1 := blk_frozen BK173.out 1
                have hfz15_2 := blk_frozen BK173.out 2
                have hfz15_3 := blk_frozen BK173.out 3
                have hfz15_4 := blk_frozen BK173.out 4
                have hfz15_5 := blk_frozen BK173.out 5
                have hfz15_6 := blk_frozen BK173.out 6
                have hfz15_7 := blk_frozen BK173.out 7
                have hfz15_8 := blk_frozen BK173.out 8
                have hfz15_9 := blk_frozen BK173.out 9
                have hfz15_10 := blk_frozen BK173.out 10
                go_wp2_with (first | (go_at_call 114; (with_reducible refine (gaugerref06_in.calls a0_1 2147483647 true _ A8.out).mono ?_); rintro e w' ⟨rfl, ⟨nd, rfl⟩⟩) | (go_at_call 114; (with_reducible refine (gaugerref06_in.calls a0_2 2147483647 true _ A10.out).mono ?_); rintro e w' ⟨rfl, ⟨nd, rfl⟩⟩) | (go_at_call 114; (with_reducible refine (gaugerref06_in.calls a0_3 2147483647 true _ A12.out).mono ?_); rintro e w' ⟨rfl, ⟨nd, rfl⟩⟩))
                go_meet
                case rel => exact ⟨_, (true), (by first | rfl | (simp; done) | (simp [*]; done)), H', ⟨by first | omega | exact Nat.le_refl _⟩, ⟨by (with_reducible repeat (first | refine blk_drewN ?_ _ | refine blk_drew ?_ | refine blk_alloc ?_ _)); exact BK173.out⟩, ⟨by repeat (first | (with_reducible first | exact HB.out | apply below_alloc | apply pw_below_drewN | apply below_drew1 | refine below_set ?_ GE173.out) | exact HB.out)⟩⟩
              · rw [if_neg c14] at H
                have c14b0 : decide (8 < (l0_4.length : Int)) = false := decide_eq_false c14
                have c14b1 : decide (8 < l0_4.length) = false := decide_eq_false (by omega)
                clear c14
                by_cases c16 : (l0_9.length : Int) > 16
                · rw [if_pos c16] at H
                  have c16b0 : decide (16 < (l0_9.length : Int)) = true := decide_eq_true c16
                  have c16b1 : decide (16 < l0_9.length) = true := decide_eq_true (by omega)
                  clear c16
                  have H' := Aside0.mk H
                  clear H
                  have hcz17_0 : w3.cell? ⟨gb173, 0, none⟩ = some (.int .i64 a0_0) := (blk_cell BK173.out 0).trans rfl
                  have hcz17_1 : w3.cell? ⟨gb173, 1, none⟩ = some (.int .i64 a0_1) := (blk_cell BK173.out 1).trans rfl
                  have hcz17_2 : w3.cell? ⟨gb173, 2, none⟩ = some (.int .i64 a0_2) := (blk_cell BK173.out 2).trans rfl
                  have hcz17_3 : w3.cell? ⟨gb173, 3, none⟩ = some (.int .i64 a0_3) := (blk_cell BK173.out 3).trans rfl
                  have hcz17_4 : w3.cell? ⟨gb173, 4, none⟩ = some (.slice A0_4 l0_4.length c0_4) := (blk_cell BK173.out 4).trans rfl
                  have hcz17_5 : w3.cell? ⟨gb173, 5, none⟩ = some (.int .i64 a0_5) := (blk_cell BK173.out 5).trans rfl
                  have hcz17_6 : w3.cell? ⟨gb173, 6, none⟩ = some (.int .i64 a0_6) := (blk_cell BK173.out 6).trans rfl
                  have hcz17_7 : w3.cell? ⟨gb173, 7, none⟩ = some (.string a0_7) := (blk_cell BK173.out 7).trans rfl
                  have hcz17_8 : w3.cell? ⟨gb173, 8, none⟩ = some (.string a0_8) := (blk_cell BK173.out 8).trans rfl
                  have hcz17_9 : w3.cell? ⟨gb173, 9, none⟩ = some (.slice A0_9 l0_9.length c0_9) := (blk_cell BK173.out 9).trans rfl
                  have hcz17_10 : w3.cell? ⟨gb173, 10, none⟩ = some (.slice A0_10 l0_10.length c0_10) := (blk_cell BK173.out 10).trans rfl
                  have hfz17_0 := blk_frozen BK173.out 0
                  have hfz17_1 := blk_frozen BK173.out 1
                  have hfz17_2 := blk_frozen BK173.out 2
                  have hfz17_3 := blk_frozen BK173.out 3
                  have hfz17_4 := blk_frozen BK173.out 4
                  have hfz17_5 := blk_frozen BK173.out 5
                  have hfz17_6 := blk_frozen BK173.out 6
                  have hfz17_7 := blk_frozen BK173.out 7
                  have hfz17_8 := blk_frozen BK173.out 8
                  have hfz17_9 := blk_frozen BK173.out 9
                  have hfz17_10 := blk_frozen BK173.out 10
                  go_wp2_with (first | (go_at_call 114; (with_reducible refine (gaugerref06_in.calls a0_1 2147483647 true _ A8.out).mono ?_); rintro e w' ⟨rfl, ⟨nd, rfl⟩⟩) | (go_at_call 114; (with_reducible refine (gaugerref06_in.calls a0_2 2147483647 true _ A10.out).mono ?_); rintro e w' ⟨rfl, ⟨nd, rfl⟩⟩) | (go_at_call 114; (with_reducible refine (gaugerref06_in.calls a0_3 2147483647 true _ A12.out).mono ?_); rintro e w' ⟨rfl, ⟨nd, rfl⟩⟩))
                  go_meet
                  case rel => exact ⟨_, (true), (by first | rfl | (simp; done) | (simp [*]; done)), H', ⟨by first | omega | exact Nat.le_refl _⟩, ⟨by (with_reducible repeat (first | refine blk_drewN ?_ _ | refine blk_drew ?_ | refine blk_alloc ?_ _)); exact BK173.out⟩, ⟨by repeat (first | (with_reducible first | exact HB.out | apply below_alloc | apply pw_below_drewN | apply below_drew1 | refine below_set ?_ GE173.out) | exact HB.out)⟩⟩
                · rw [if_neg c16] at H
                  have c16b0 : decide (16 < (l0_9.length : Int)) = false := decide_eq_false c16
                  have c16b1 : decide (16 < l0_9.length) = false := decide_eq_false (by omega)
                  clear c16
                  have H' := Aside0.mk H
                  clear H
                  have hcz18_0 : w3.cell? ⟨gb173, 0, none⟩ = some (.int .i64 a0_0) := (blk_cell BK173.out 0).trans rfl
                  have hcz18_1 : w3.cell? ⟨gb173, 1, none⟩ = some (.int .i64 a0_1) := (blk_cell BK173.out 1).trans rfl
                  have hcz18_2 : w3.cell? ⟨gb173, 2, none⟩ = some (.int .i64 a0_2) := (blk_cell BK173.out 2).trans rfl
                  have hcz18_3 : w3.cell? ⟨gb173, 3, none⟩ = some (.int .i64 a0_3) := (blk_cell BK173.out 3).trans rfl
                  have hcz18_4 : w3.cell? ⟨gb173, 4, none⟩ = some (.slice A0_4 l0_4.length c0_4) := (blk_cell BK173.out 4).trans rfl
                  have hcz18_5 : w3.cell? ⟨gb173, 5, none⟩ = some (.int .i64 a0_5) := (blk_cell BK173.out 5).trans rfl
                  have hcz18_6 : w3.cell? ⟨gb173, 6, none⟩ = some (.int .i64 a0_6) := (blk_cell BK173.out 6).trans rfl
                  have hcz18_7 : w3.cell? ⟨gb173, 7, none⟩ = some (.string a0_7) := (blk_cell BK173.out 7).trans rfl
                  have hcz18_8 : w3.cell? ⟨gb173, 8, none⟩ = some (.string a0_8) := (blk_cell BK173.out 8).trans rfl
                  have hcz18_9 : w3.cell? ⟨gb173, 9, none⟩ = some (.slice A0_9 l0_9.length c0_9) := (blk_cell BK173.out 9).trans rfl
                  have hcz18_10 : w3.cell? ⟨gb173, 10, none⟩ = some (.slice A0_10 l0_10.length c0_10) := (blk_cell BK173.out 10).trans rfl
                  have hfz18_0 := blk_frozen BK173.out 0
                  have hfz18_1 := blk_frozen BK173.out 1
                  have hfz18_2 := blk_frozen BK173.out 2
                  have hfz18_3 := blk_frozen BK173.out 3
                  have hfz18_4 := blk_frozen BK173.out 4
                  have hfz18_5 := blk_frozen BK173.out 5
                  have hfz18_6 := blk_frozen BK173.out 6
                  have hfz18_7 := blk_frozen BK173.out 7
                  have hfz18_8 := blk_frozen BK173.out 8
                  have hfz18_9 := blk_frozen BK173.out 9
                  have hfz18_10 := blk_frozen BK173.out 10
                  go_wp2_with (first | (go_at_call 114; (with_reducible refine (gaugerref06_in.calls a0_1 2147483647 true _ A8.out).mono ?_); rintro e w' ⟨rfl, ⟨nd, rfl⟩⟩) | (go_at_call 114; (with_reducible refine (gaugerref06_in.calls a0_2 2147483647 true _ A10.out).mono ?_); rintro e w' ⟨rfl, ⟨nd, rfl⟩⟩) | (go_at_call 114; (with_reducible refine (gaugerref06_in.calls a0_3 2147483647 true _ A12.out).mono ?_); rintro e w' ⟨rfl, ⟨nd, rfl⟩⟩))
                  go_meet
                  case rel => exact ⟨_, (decide ((l0_10.length : Int) > 256)), (by first | rfl | (simp; done) | (simp [*]; done)), H', ⟨by first | omega | exact Nat.le_refl _⟩, ⟨by (with_reducible repeat (first | refine blk_drewN ?_ _ | refine blk_drew ?_ | refine blk_alloc ?_ _)); exact BK173.out⟩, ⟨by repeat (first | (with_reducible first | exact HB.out | apply below_alloc | apply pw_below_drewN | apply below_drew1 | refine below_set ?_ GE173.out) | exact HB.out)⟩⟩
            · replace c13 := Bool.eq_false_iff.mpr c13
              subst c13
              have H1 : (gaugerref06_Good.j0 k 2147483647 true a0_0 a0_1 a0_2 a0_3 l0_4 a0_5 a0_6 a0_7 a0_8 l0_9 l0_10) = some r := by rw [if_neg (show ¬ (false = true) by decide)] at H; exact H
              clear H
              have H := H1
              clear H1
              have H' := Aside0.mk H
              clear H
              have hcz19_0 : w3.cell? ⟨gb173, 0, none⟩ = some (.int .i64 a0_0) := (blk_cell BK173.out 0).trans rfl
              have hcz19_1 : w3.cell? ⟨gb173, 1, none⟩ = some (.int .i64 a0_1) := (blk_cell BK173.out 1).trans rfl
              have hcz19_2 : w3.cell? ⟨gb173, 2, none⟩ = some (.int .i64 a0_2) := (blk_cell BK173.out 2).trans rfl
              have hcz19_3 : w3.cell? ⟨gb173, 3, none⟩ = some (.int .i64 a0_3) := (blk_cell BK173.out 3).trans rfl
              have hcz19_4 : w3.cell? ⟨gb173, 4, none⟩ = some (.slice A0_4 l0_4.length c0_4) := (blk_cell BK173.out 4).trans rfl
              have hcz19_5 : w3.cell? ⟨gb173, 5, none⟩ = some (.int .i64 a0_5) := (blk_cell BK173.out 5).trans rfl
              have hcz19_6 : w3.cell? ⟨gb173, 6, none⟩ = some (.int .i64 a0_6) := (blk_cell BK173.out 6).trans rfl
              have hcz19_7 : w3.cell? ⟨gb173, 7, none⟩ = some (.string a0_7) := (blk_cell BK173.out 7).trans rfl
              have hcz19_8 : w3.cell? ⟨gb173, 8, none⟩ = some (.string a0_8) := (blk_cell BK173.out 8).trans rfl
              have hcz19_9 : w3.cell? ⟨gb173, 9, none⟩ = some (.slice A0_9 l0_9.length c0_9) := (blk_cell BK173.out 9).trans rfl
              have hcz19_10 : w3.cell? ⟨gb173, 10, none⟩ = some (.slice A0_10 l0_10.length c0_10) := (blk_cell BK173.out 10).trans rfl
              have hfz19_0 := blk_frozen BK173.out 0
              have hfz19_1 := blk_frozen BK173.out 1
              have hfz19_2 := blk_frozen BK173.out 2
              have hfz19_3 := blk_frozen BK173.out 3
              have hfz19_4 := blk_frozen BK173.out 4
              have hfz19_5 := blk_frozen BK173.out 5
              have hfz19_6 := blk_frozen BK173.out 6
              have hfz19_7 := blk_frozen BK173.out 7
              have hfz19_8 := blk_frozen BK173.out 8
              have hfz19_9 := blk_frozen BK173.out 9
              have hfz19_10 := blk_frozen BK173.out 10
              go_wp2_with (first | (go_at_call 114; (with_reducible refine (gaugerref06_in.calls a0_1 2147483647 true _ A8.out).mono ?_); rintro e w' ⟨rfl, ⟨nd, rfl⟩⟩) | (go_at_call 114; (with_reducible refine (gaugerref06_in.calls a0_2 2147483647 true _ A10.out).mono ?_); rintro e w' ⟨rfl, ⟨nd, rfl⟩⟩) | (go_at_call 114; (with_reducible refine (gaugerref06_in.calls a0_3 2147483647 false _ A12.out).mono ?_); rintro e w' ⟨rfl, ⟨nd, rfl⟩⟩))
              go_meet
              case rel => exact ⟨_, (true), (by first | rfl | (simp; done) | (simp [*]; done)), H', ⟨by first | omega | exact Nat.le_refl _⟩, ⟨by (with_reducible repeat (first | refine blk_drewN ?_ _ | refine blk_drew ?_ | refine blk_alloc ?_ _)); exact BK173.out⟩, ⟨by repeat (first | (with_reducible first | exact HB.out | apply below_alloc | apply pw_below_drewN | apply below_drew1 | refine below_set ?_ GE173.out) | exact HB.out)⟩⟩
          · replace c11 := Bool.eq_false_iff.mpr c11
            subst c11
            have H1 : (gaugerref06_Good.j0 k 2147483647 true a0_0 a0_1 a0_2 a0_3 l0_4 a0_5 a0_6 a0_7 a0_8 l0_9 l0_10) = some r := by rw [if_neg (show ¬ (false = true) by decide)] at H; exact H
            clear H
            have H := H1
            clear H1
            have H' := Aside0.mk H
            clear H
            have hcz20_0 : w3.cell? ⟨gb173, 0, none⟩ = some (.int .i64 a0_0) := (blk_cell BK173.out 0).trans rfl
            have hcz20_1 : w3.cell? ⟨gb173, 1, none⟩ = some (.int .i64 a0_1) := (blk_cell BK173.out 1).trans rfl
            have hcz20_2 : w3.cell? ⟨gb173, 2, none⟩ = some (.int .i64 a0_2) := (blk_cell BK173.out 2).trans rfl
            have hcz20_3 : w3.cell? ⟨gb173, 3, none⟩ = some (.int .i64 a0_3) := (blk_cell BK173.out 3).trans rfl
            have hcz20_4 : w3.cell? ⟨gb173, 4, none⟩ = some (.slice A0_4 l0_4.length c0_4) := (blk_cell BK173.out 4).trans rfl
            have hcz20_5 : w3.cell? ⟨gb173, 5, none⟩ = some (.int .i64 a0_5) := (blk_cell BK173.out 5).trans rfl
            have hcz20_6 : w3.cell? ⟨gb173, 6, none⟩ = some (.int .i64 a0_6) := (blk_cell BK173.out 6).trans rfl
            have hcz20_7 : w3.cell? ⟨gb173, 7, none⟩ = some (.string a0_7) := (blk_cell BK173.out 7).trans rfl
            have hcz20_8 : w3.cell? ⟨gb173, 8, none⟩ = some (.string a0_8) := (blk_cell BK173.out 8).trans rfl
            have hcz20_9 : w3.cell? ⟨gb173, 9, none⟩ = some (.slice A0_9 l0_9.length c0_9) := (blk_cell BK173.out 9).trans rfl
            have hcz20_10 : w3.cell? ⟨gb173, 10, none⟩ = some (.slice A0_10 l0_10.length c0_10) := (blk_cell BK173.out 10).trans rfl
            have hfz20_0 := blk_frozen BK173.out 0
            have hfz20_1 := blk_frozen BK173.out 1
            have hfz20_2 := blk_frozen BK173.out 2
            have hfz20_3 := blk_frozen BK173.out 3
            have hfz20_4 := blk_frozen BK173.out 4
            have hfz20_5 := blk_frozen BK173.out 5
            have hfz20_6 := blk_frozen BK173.out 6
            have hfz20_7 := blk_frozen BK173.out 7
            have hfz20_8 := blk_frozen BK173.out 8
            have hfz20_9 := blk_frozen BK173.out 9
            have hfz20_10 := blk_frozen BK173.out 10
            go_wp2_with (first | (go_at_call 114; (with_reducible refine (gaugerref06_in.calls a0_1 2147483647 true _ A8.out).mono ?_); rintro e w' ⟨rfl, ⟨nd, rfl⟩⟩) | (go_at_call 114; (with_reducible refine (gaugerref06_in.calls a0_2 2147483647 false _ A10.out).mono ?_); rintro e w' ⟨rfl, ⟨nd, rfl⟩⟩))
            go_meet
            case rel => exact ⟨_, (true), (by first | rfl | (simp; done) | (simp [*]; done)), H', ⟨by first | omega | exact Nat.le_refl _⟩, ⟨by (with_reducible repeat (first | refine blk_drewN ?_ _ | refine blk_drew ?_ | refine blk_alloc ?_ _)); exact BK173.out⟩, ⟨by repeat (first | (with_reducible first | exact HB.out | apply below_alloc | apply pw_below_drewN | apply below_drew1 | refine below_set ?_ GE173.out) | exact HB.out)⟩⟩
        · replace c9 := Bool.eq_false_iff.mpr c9
          subst c9
          have H1 : (gaugerref06_Good.j0 k 2147483647 true a0_0 a0_1 a0_2 a0_3 l0_4 a0_5 a0_6 a0_7 a0_8 l0_9 l0_10) = some r := by rw [if_neg (show ¬ (false = true) by decide)] at H; exact H
          clear H
          have H := H1
          clear H1
          have H' := Aside0.mk H
          clear H
          have hcz21_0 : w3.cell? ⟨gb173, 0, none⟩ = some (.int .i64 a0_0) := (blk_cell BK173.out 0).trans rfl
          have hcz21_1 : w3.cell? ⟨gb173, 1, none⟩ = some (.int .i64 a0_1) := (blk_cell BK173.out 1).trans rfl
          have hcz21_2 : w3.cell? ⟨gb173, 2, none⟩ = some (.int .i64 a0_2) := (blk_cell BK173.out 2).trans rfl
          have hcz21_3 : w3.cell? ⟨gb173, 3, none⟩ = some (.int .i64 a0_3) := (blk_cell BK173.out 3).trans rfl
          have hcz21_4 : w3.cell? ⟨gb173, 4, none⟩ = some (.slice A0_4 l0_4.length c0_4) := (blk_cell BK173.out 4).trans rfl
          have hcz21_5 : w3.cell? ⟨gb173, 5, none⟩ = some (.int .i64 a0_5) := (blk_cell BK173.out 5).trans rfl
          have hcz21_6 : w3.cell? ⟨gb173, 6, none⟩ = some (.int .i64 a0_6) := (blk_cell BK173.out 6).trans rfl
          have hcz21_7 : w3.cell? ⟨gb173, 7, none⟩ = some (.string a0_7) := (blk_cell BK173.out 7).trans rfl
          have hcz21_8 : w3.cell? ⟨gb173, 8, none⟩ = some (.string a0_8) := (blk_cell BK173.out 8).trans rfl
          have hcz21_9 : w3.cell? ⟨gb173, 9, none⟩ = some (.slice A0_9 l0_9.length c0_9) := (blk_cell BK173.out 9).trans rfl
          have hcz21_10 : w3.cell? ⟨gb173, 10, none⟩ = some (.slice A0_10 l0_10.length c0_10) := (blk_cell BK173.out 10).trans rfl
          have hfz21_0 := blk_frozen BK173.out 0
          have hfz21_1 := blk_frozen BK173.out 1
          have hfz21_2 := blk_frozen BK173.out 2
          have hfz21_3 := blk_frozen BK173.out 3
          have hfz21_4 := blk_frozen BK173.out 4
          have hfz21_5 := blk_frozen BK173.out 5
          have hfz21_6 := blk_frozen BK173.out 6
          have hfz21_7 := blk_frozen BK173.out 7
          have hfz21_8 := blk_frozen BK173.out 8
          have hfz21_9 := blk_frozen BK173.out 9
          have hfz21_10 := blk_frozen BK173.out 10
          go_wp2_with (first | (go_at_call 114; (with_reducible refine (gaugerref06_in.calls a0_1 2147483647 false _ A8.out).mono ?_); rintro e w' ⟨rfl, ⟨nd, rfl⟩⟩))
          go_meet
          case rel => exact ⟨_, (true), (by first | rfl | (simp; done) | (simp [*]; done)), H', ⟨by first | omega | exact Nat.le_refl _⟩, ⟨by (with_reducible repeat (first | refine blk_drewN ?_ _ | refine blk_drew ?_ | refine blk_alloc ?_ _)); exact BK173.out⟩, ⟨by repeat (first | (with_reducible first | exact HB.out | apply below_alloc | apply pw_below_drewN | apply below_drew1 | refine below_set ?_ GE173.out) | exact HB.out)⟩⟩
  case rest =>
    clear HC2
    try clear c1
    try clear p2
    try clear c4
    try clear c4b0
    try clear c5
    try clear c6
    try clear c6b0
    try clear c9
    try clear c11
    try clear c13
    try clear c14
    try clear c14b0
    try clear c14b1
    try clear c16
    try clear c16b0
    try clear c16b1
    try clear hcz15_0
    try clear hcz15_1
    try clear hcz15_10
    try clear hcz15_2
    try clear hcz15_3
    try clear hcz15_4
    try clear hcz15_5
    try clear hcz15_6
    try clear hcz15_7
    try clear hcz15_8
    try clear hcz15_9
    try clear hcz17_0
    try clear hcz17_1
    try clear hcz17_10
    try clear hcz17_2
    try clear hcz17_3
    try clear hcz17_4
    try clear hcz17_5
    try clear hcz17_6
    try clear hcz17_7
    try clear hcz17_8
    try clear hcz17_9
    try clear hcz18_0
    try clear hcz18_1
    try clear hcz18_10
    try clear hcz18_2
    try clear hcz18_3
    try clear hcz18_4
    try clear hcz18_5
    try clear hcz18_6
    try clear hcz18_7
    try clear hcz18_8
    try clear hcz18_9
    try clear hcz19_0
    try clear hcz19_1
    try clear hcz19_10
    try clear hcz19_2
    try clear hcz19_3
    try clear hcz19_4
    try clear hcz19_5
    try clear hcz19_6
    try clear hcz19_7
    try clear hcz19_8
    try clear hcz19_9
    try clear hcz20_0
    try clear hcz20_1
    try clear hcz20_10
    try clear hcz20_2
    try clear hcz20_3
    try clear hcz20_4
    try clear hcz20_5
    try clear hcz20_6
    try clear hcz20_7
    try clear hcz20_8
    try clear hcz20_9
    try clear hcz21_0
    try clear hcz21_1
    try clear hcz21_10
    try clear hcz21_2
    try clear hcz21_3
    try clear hcz21_4
    try clear hcz21_5
    try clear hcz21_6
    try clear hcz21_7
    try clear hcz21_8
    try clear hcz21_9
    try clear hcz5_0
    try clear hcz5_1
    try clear hcz5_10
    try clear hcz5_2
    try clear hcz5_3
    try clear hcz5_4
    try clear hcz5_5
    try clear hcz5_6
    try clear hcz5_7
    try clear hcz5_8
    try clear hcz5_9
    try clear hcz7_0
    try clear hcz7_1
    try clear hcz7_10
    try clear hcz7_2
    try clear hcz7_3
    try clear hcz7_4
    try clear hcz7_5
    try clear hcz7_6
    try clear hcz7_7
    try clear hcz7_8
    try clear hcz7_9
    try clear hfz15_0
    try clear hfz15_1
    try clear hfz15_10
    try clear hfz15_2
    try clear hfz15_3
    try clear hfz15_4
    try clear hfz15_5
    try clear hfz15_6
    try clear hfz15_7
    try clear hfz15_8
    try clear hfz15_9
    try clear hfz17_0
    try clear hfz17_1
    try clear hfz17_10
    try clear hfz17_2
    try clear hfz17_3
    try clear hfz17_4
    try clear hfz17_5
    try clear hfz17_6
    try clear hfz17_7
    try clear hfz17_8
    try clear hfz17_9
    try clear hfz18_0
    try clear hfz18_1
    try clear hfz18_10
    try clear hfz18_2
    try clear hfz18_3
    try clear hfz18_4
    try clear hfz18_5
    try clear hfz18_6
    try clear hfz18_7
    try clear hfz18_8
    try clear hfz18_9
    try clear hfz19_0
    try clear hfz19_1
    try clear hfz19_10
    try clear hfz19_2
    try clear hfz19_3
    try clear hfz19_4
    try clear hfz19_5
    try clear hfz19_6
    try clear hfz19_7
    try clear hfz19_8
    try clear hfz19_9
    try clear hfz20_0
    try clear hfz20_1
    try clear hfz20_10
    try clear hfz20_2
    try clear hfz20_3
    try clear hfz20_4
    try clear hfz20_5
    try clear hfz20_6
    try clear hfz20_7
    try clear hfz20_8
    try clear hfz20_9
    try clear hfz21_0
    try clear hfz21_1
    try clear hfz21_10
    try clear hfz21_2
    try clear hfz21_3
    try clear hfz21_4
    try clear hfz21_5
    try clear hfz21_6
    try clear hfz21_7
    try clear hfz21_8
    try clear hfz21_9
    try clear hfz5_0
    try clear hfz5_1
    try clear hfz5_10
    try clear hfz5_2
    try clear hfz5_3
    try clear hfz5_4
    try clear hfz5_5
    try clear hfz5_6
    try clear hfz5_7
    try clear hfz5_8
    try clear hfz5_9
    try clear hfz7_0
    try clear hfz7_1
    try clear hfz7_10
    try clear hfz7_2
    try clear hfz7_3
    try clear hfz7_4
    try clear hfz7_5
    try clear hfz7_6
    try clear hfz7_7
    try clear hfz7_8
    try clear hfz7_9
    obtain ⟨kq, x53_1, rfl, HA, HJ1, BK173, HB⟩ := hcut
    cases kq with
    | zero => exact absurd HA.out (by simp [gaugerref06_Good.j0])
    | succ kj1 =>
      have H := HA.out
      clear HA
      simp only [gaugerref06_Good.j0] at H
      by_cases c22 : x53_1 = true
      · subst c22
        have H1 : (some false) = some r := by rw [if_pos rfl] at H; exact H
        clear H
        have H := H1
        clear H1
        obtain rfl := Option.some.inj H
        go_wp2
        go_ret
        exact ⟨by first | rfl | (simp [errW_none, errW_some] <;> rfl) | (simp [*, errW_none, errW_some] <;> rfl), by repeat (first | (with_reducible first | exact HB.out | apply below_alloc | apply pw_below_drewN | apply below_drew1 | refine below_set ?_ GE173.out) | exact HB.out)⟩
      · replace c22 := Bool.eq_false_iff.mpr c22
        subst c22
        have H1 : ((gaugerref06_in.f a0_5 4).bind fun t177 => (if t177 = true then ((gaugerref06_in.f a0_6 255).bind fun t178 => (if t178 = true then (if (a0_7.size : Int) > 255 then (gaugerref06_Good.j1 kj1 2147483647 true a0_0 a0_1 a0_2 a0_3 l0_4 a0_5 a0_6 a0_7 a0_8 l0_9 l0_10) else (gaugerref06_Good.j1 kj1 2147483647 (decide ((a0_8.size : Int) > 255)) a0_0 a0_1 a0_2 a0_3 l0_4 a0_5 a0_6 a0_7 a0_8 l0_9 l0_10)) else (gaugerref06_Good.j1 kj1 2147483647 true a0_0 a0_1 a0_2 a0_3 l0_4 a0_5 a0_6 a0_7 a0_8 l0_9 l0_10))) else (gaugerref06_Good.j1 kj1 2147483647 true a0_0 a0_1 a0_2 a0_3 l0_4 a0_5 a0_6 a0_7 a0_8 l0_9 l0_10))) = some r := by rw [if_neg (show ¬ (false = true) by decide)] at H; exact H
        clear H
        have H := H1
        clear H1
        have HC23 := Aside0.mk H
        clear H
        go_upto_region 4 with (fail)
        go_cut [79] (fun v79 wc => ∃ (kq : Nat) (x79_22 : Bool), v79 = .bool x79_22 ∧ Aside0 (gaugerref06_Good.j1 kq 2147483647 x79_22 a0_0 a0_1 a0_2 a0_3 l0_4 a0_5 a0_6 a0_7 a0_8 l0_9 l0_10 = some r) ∧ Aside0 (kq ≤ kj1) ∧ Aside0 (wc.heap[gb173]? = some (.cells #[.int .i64 a0_0, .int .i64 a0_1, .int .i64 a0_2, .int .i64 a0_3, (.slice A0_4 l0_4.length c0_4), .int .i64 a0_5, .int .i64 a0_6, .string a0_7, .string a0_8, (.slice A0_9 l0_9.length c0_9), (.slice A0_10 l0_10.length c0_10)] 58 (0, 0))) ∧ Aside0 (Below w.heap.size w wc))
        case first =>
          have H := HC23.out
          clear HC23
          replace H := Option.bind_eq_some_iff.mp H
          obtain ⟨t177, A240, H⟩ := H
          replace H : (if t177 = true then ((gaugerref06_in.f a0_6 255).bind fun t178 => (if t178 = true then (if (a0_7.size : Int) > 255 then (gaugerref06_Good.j1 kj1 2147483647 true a0_0 a0_1 a0_2 a0_3 l0_4 a0_5 a0_6 a0_7 a0_8 l0_9 l0_10) else (gaugerref06_Good.j1 kj1 2147483647 (decide ((a0_8.size : Int) > 255)) a0_0 a0_1 a0_2 a0_3 l0_4 a0_5 a0_6 a0_7 a0_8 l0_9 l0_10)) else (gaugerref06_Good.j1 kj1 2147483647 true a0_0 a0_1 a0_2 a0_3 l0_4 a0_5 a0_6 a0_7 a0_8 l0_9 l0_10))) else (gaugerref06_Good.j1 kj1 2147483647 true a0_0 a0_1 a0_2 a0_3 l0_4 a0_5 a0_6 a0_7 a0_8 l0_9 l0_10)) = some r := H
          have A24 := Aside0.mk A240
          clear A240
          by_cases c25 : t177 = true
          · subst c25
            have H1 : ((gaugerref06_in.f a0_6 255).bind fun t178 => (if t178 = true then (if (a0_7.size : Int) > 255 then (gaugerref06_Good.j1 kj1 2147483647 true a0_0 a0_1 a0_2 a0_3 l0_4 a0_5 a0_6 a0_7 a0_8 l0_9 l0_10) else (gaugerref06_Good.j1 kj1 2147483647 (decide ((a0_8.size : Int) > 255)) a0_0 a0_1 a0_2 a0_3 l0_4 a0_5 a0_6 a0_7 a0_8 l0_9 l0_10)) else (gaugerref06_Good.j1 kj1 2147483647 true a0_0 a0_1 a0_2 a0_3 l0_4 a0_5 a0_6 a0_7 a0_8 l0_9 l0_10))) = some r := by rw [if_pos rfl] at H; exact H
            clear H
            have H := H1
            clear H1
            replace H := Option.bind_eq_some_iff.mp H
            obtain ⟨t178, A260, H⟩ := H
            replace H : (if t178 = true then (if (a0_7.size : Int) > 255 then (gaugerref06_Good.j1 kj1 2147483647 true a0_0 a0_1 a0_2 a0_3 l0_4 a0_5 a0_6 a0_7 a0_8 l0_9 l0_10) else (gaugerref06_Good.j1 kj1 2147483647 (decide ((a0_8.size : Int) > 255)) a0_0 a0_1 a0_2 a0_3 l0_4 a0_5 a0_6 a0_7 a0_8 l0_9 l0_10)) else (gaugerref06_Good.j1 kj1 2147483647 true a0_0 a0_1 a0_2 a0_3 l0_4 a0_5 a0_6 a0_7 a0_8 l0_9 l0_10)) = some r := H
            have A26 := Aside0.mk A260
            clear A260
            by_cases c27 : t178 = true
            · subst c27
              have H1 : (if (a0_7.size : Int) > 255 then (gaugerref06_Good.j1 kj1 2147483647 true a0_0 a0_1 a0_2 a0_3 l0_4 a0_5 a0_6 a0_7 a0_8 l0_9 l0_10) else (gaugerref06_Good.j1 kj1 2147483647 (decide ((a0_8.size : Int) > 255)) a0_0 a0_1 a0_2 a0_3 l0_4 a0_5 a0_6 a0_7 a0_8 l0_9 l0_10)) = some r := by rw [if_pos rfl] at H; exact H
              clear H
              have H := H1
              clear H1
              by_cases c28 : (a0_7.size : Int) > 255
              · rw [if_pos c28] at H
                have c28b0 : decide (255 < (a0_7.size : Int)) = true := decide_eq_true c28
                have c28b1 : decide (255 < a0_7.size) = true := decide_eq_true (by omega)
                clear c28
                (first | rw [c28b0] | (simp only [i64_w, i32_w]; rw [c28b0]) | skip)
                have H' := Aside0.mk H
                clear H
                have hcz29_0 : wc.cell? ⟨gb173, 0, none⟩ = some (.int .i64 a0_0) := (blk_cell BK173.out 0).trans rfl
                have hcz29_1 : wc.cell? ⟨gb173, 1, none⟩ = some (.int .i64 a0_1) := (blk_cell BK173.out 1).trans rfl
                have hcz29_2 : wc.cell? ⟨gb173, 2, none⟩ = some (.int .i64 a0_2) := (blk_cell BK173.out 2).trans rfl
                have hcz29_3 : wc.cell? ⟨gb173, 3, none⟩ = some (.int .i64 a0_3) := (blk_cell BK173.out 3).trans rfl
                have hcz29_4 : wc.cell? ⟨gb173, 4, none⟩ = some (.slice A0_4 l0_4.length c0_4) := (blk_cell BK173.out 4).trans rfl
                have hcz29_5 : wc.cell? ⟨gb173, 5, none⟩ = some (.int .i64 a0_5) := (blk_cell BK173.out 5).trans rfl
                have hcz29_6 : wc.cell? ⟨gb173, 6, none⟩ = some (.int .i64 a0_6) := (blk_cell BK173.out 6).trans rfl
                have hcz29_7 : wc.cell? ⟨gb173, 7, none⟩ = some (.string a0_7) := (blk_cell BK173.out 7).trans rfl
                have hcz29_8 : wc.cell? ⟨gb173, 8, none⟩ = some (.string a0_8) := (blk_cell BK173.out 8).trans rfl
                have hcz29_9 : wc.cell? ⟨gb173, 9, none⟩ = some (.slice A0_9 l0_9.length c0_9) := (blk_cell BK173.out 9).trans rfl
                have hcz29_10 : wc.cell? ⟨gb173, 10, none⟩ = some (.slice A0_10 l0_10.length c0_10) := (blk_cell BK173.out 10).trans rfl
                have hfz29_0 := blk_frozen BK173.out 0
                have hfz29_1 := blk_frozen BK173.out 1
                have hfz29_2 := blk_frozen BK173.out 2
                have hfz29_3 := blk_frozen BK173.out 3
                have hfz29_4 := blk_frozen BK173.out 4
                have hfz29_5 := blk_frozen BK173.out 5
                have hfz29_6 := blk_frozen BK173.out 6
                have hfz29_7 := blk_frozen BK173.out 7
                have hfz29_8 := blk_frozen BK173.out 8
                have hfz29_9 := blk_frozen BK173.out 9
                have hfz29_10 := blk_frozen BK173.out 10
                go_wp2_with (first | ((with_reducible refine gate_callee (f := 114) rfl ?_); refine goesL_ (some 57) rfl rfl Try.func114 (by kernel_rfl) rfl #[.int .i64 a0_5, .int .i64 4] rfl (by (try simp only [List.map_toArray, List.map_cons, List.map_nil]); first | done | rfl | (simp only [List.length_drop, List.length_take]; rfl)) ?_; (with_reducible refine (gaugerref06_in.calls a0_5 4 true _ A24.out).mono ?_); rintro e w' ⟨rfl, ⟨nd, rfl⟩⟩; refine ⟨_, rfl, ?_⟩) | (go_at_call 114; (with_reducible refine (gaugerref06_in.calls a0_6 255 true _ A26.out).mono ?_); rintro e w' ⟨rfl, ⟨nd, rfl⟩⟩))
                go_meet
                case rel => exact ⟨_, (true), (by first | rfl | (simp; done) | (simp [*]; done)), H', ⟨by have := HJ1.out; first | omega | exact Nat.le_refl _⟩, ⟨by (with_reducible repeat (first | refine blk_drewN ?_ _ | refine blk_drew ?_ | refine blk_alloc ?_ _)); exact BK173.out⟩, ⟨by repeat (first | (with_reducible first | exact HB.out | apply below_alloc | apply pw_below_drewN | apply below_drew1 | refine below_set ?_ GE173.out) | exact HB.out)⟩⟩
              · rw [if_neg c28] at H
                have c28b0 : decide (255 < (a0_7.size : Int)) = false := decide_eq_false c28
                have c28b1 : decide (255 < a0_7.size) = false := decide_eq_false (by omega)
                clear c28
                (first | rw [c28b0] | (simp only [i64_w, i32_w]; rw [c28b0]) | skip)
                have H' := Aside0.mk H
                clear H
                have hcz30_0 : wc.cell? ⟨gb173, 0, none⟩ = some (.int .i64 a0_0) := (blk_cell BK173.out 0).trans rfl
                have hcz30_1 : wc.cell? ⟨gb173, 1, none⟩ = some (.int .i64 a0_1) := (blk_cell BK173.out 1).trans rfl
                have hcz30_2 : wc.cell? ⟨gb173, 2, none⟩ = some (.int .i64 a0_2) := (blk_cell BK173.out 2).trans rfl
                have hcz30_3 : wc.cell? ⟨gb173, 3, none⟩ = some (.int .i64 a0_3) := (blk_cell BK173.out 3).trans rfl
                have hcz30_4 : wc.cell? ⟨gb173, 4, none⟩ = some (.slice A0_4 l0_4.length c0_4) := (blk_cell BK173.out 4).trans rfl
                have hcz30_5 : wc.cell? ⟨gb173, 5, none⟩ = some (.int .i64 a0_5) := (blk_cell BK173.out 5).trans rfl
                have hcz30_6 : wc.cell? ⟨gb173, 6, none⟩ = some (.int .i64 a0_6) := (blk_cell BK173.out 6).trans rfl
                have hcz30_7 : wc.cell? ⟨gb173, 7, none⟩ = some (.string a0_7) := (blk_cell BK173.out 7).trans rfl
                have hcz30_8 : wc.cell? ⟨gb173, 8, none⟩ = some (.string a0_8) := (blk_cell BK173.out 8).trans rfl
                have hcz30_9 : wc.cell? ⟨gb173, 9, none⟩ = some (.slice A0_9 l0_9.length c0_9) := (blk_cell BK173.out 9).trans rfl
                have hcz30_10 : wc.cell? ⟨gb173, 10, none⟩ = some (.slice A0_10 l0_10.length c0_10) := (blk_cell BK173.out 10).trans rfl
                have hfz30_0 := blk_frozen BK173.out 0
                have hfz30_1 := blk_frozen BK173.out 1
                have hfz30_2 := blk_frozen BK173.out 2
                have hfz30_3 := blk_frozen BK173.out 3
                have hfz30_4 := blk_frozen BK173.out 4
                have hfz30_5 := blk_frozen BK173.out 5
                have hfz30_6 := blk_frozen BK173.out 6
                have hfz30_7 := blk_frozen BK173.out 7
                have hfz30_8 := blk_frozen BK173.out 8
                have hfz30_9 := blk_frozen BK173.out 9
                have hfz30_10 := blk_frozen BK173.out 10
                go_wp2_with (first | ((with_reducible refine gate_callee (f := 114) rfl ?_); refine goesL_ (some 57) rfl rfl Try.func114 (by kernel_rfl) rfl #[.int .i64 a0_5, .int .i64 4] rfl (by (try simp only [List.map_toArray, List.map_cons, List.map_nil]); first | done | rfl | (simp only [List.length_drop, List.length_take]; rfl)) ?_; (with_reducible refine (gaugerref06_in.calls a0_5 4 true _ A24.out).mono ?_); rintro e w' ⟨rfl, ⟨nd, rfl⟩⟩; refine ⟨_, rfl, ?_⟩) | (go_at_call 114; (with_reducible refine (gaugerref06_in.calls a0_6 255 true _ A26.out).mono ?_); rintro e w' ⟨rfl, ⟨nd, rfl⟩⟩))
                go_meet
                case rel => exact ⟨_, (decide ((a0_8.size : Int) > 255)), (by first | rfl | (simp; done) | (simp [*]; done)), H', ⟨by have := HJ1.out; first | omega | exact Nat.le_refl _⟩, ⟨by (with_reducible repeat (first | refine blk_drewN ?_ _ | refine blk_drew ?_ | refine blk_alloc ?_ _)); exact BK173.out⟩, ⟨by repeat (first | (with_reducible first | exact HB.out | apply below_alloc | apply pw_below_drewN | apply below_drew1 | refine below_set ?_ GE173.out) | exact HB.out)⟩⟩
            · replace c27 := Bool.eq_false_iff.mpr c27
              subst c27
              have H1 : (gaugerref06_Good.j1 kj1 2147483647 true a0_0 a0_1 a0_2 a0_3 l0_4 a0_5 a0_6 a0_7 a0_8 l0_9 l0_10) = some r := by rw [if_neg (show ¬ (false = true) by decide)] at H; exact H
              clear H
              have H := H1
              clear H1
              have H' := Aside0.mk H
              clear H
              have hcz31_0 : wc.cell? ⟨gb173, 0, none⟩ = some (.int .i64 a0_0) := (blk_cell BK173.out 0).trans rfl
              have hcz31_1 : wc.cell? ⟨gb173, 1, none⟩ = some (.int .i64 a0_1) := (blk_cell BK173.out 1).trans rfl
              have hcz31_2 : wc.cell? ⟨gb173, 2, none⟩ = some (.int .i64 a0_2) := (blk_cell BK173.out 2).trans rfl
              have hcz31_3 : wc.cell? ⟨gb173, 3, none⟩ = some (.int .i64 a0_3) := (blk_cell BK173.out 3).trans rfl
              have hcz31_4 : wc.cell? ⟨gb173, 4, none⟩ = some (.slice A0_4 l0_4.length c0_4) := (blk_cell BK173.out 4).trans rfl
              have hcz31_5 : wc.cell? ⟨gb173, 5, none⟩ = some (.int .i64 a0_5) := (blk_cell BK173.out 5).trans rfl
              have hcz31_6 : wc.cell? ⟨gb173, 6, none⟩ = some (.int .i64 a0_6) := (blk_cell BK173.out 6).trans rfl
              have hcz31_7 : wc.cell? ⟨gb173, 7, none⟩ = some (.string a0_7) := (blk_cell BK173.out 7).trans rfl
              have hcz31_8 : wc.cell? ⟨gb173, 8, none⟩ = some (.string a0_8) := (blk_cell BK173.out 8).trans rfl
              have hcz31_9 : wc.cell? ⟨gb173, 9, none⟩ = some (.slice A0_9 l0_9.length c0_9) := (blk_cell BK173.out 9).trans rfl
              have hcz31_10 : wc.cell? ⟨gb173, 10, none⟩ = some (.slice A0_10 l0_10.length c0_10) := (blk_cell BK173.out 10).trans rfl
              have hfz31_0 := blk_frozen BK173.out 0
              have hfz31_1 := blk_frozen BK173.out 1
              have hfz31_2 := blk_frozen BK173.out 2
              have hfz31_3 := blk_frozen BK173.out 3
              have hfz31_4 := blk_frozen BK173.out 4
              have hfz31_5 := blk_frozen BK173.out 5
              have hfz31_6 := blk_frozen BK173.out 6
              have hfz31_7 := blk_frozen BK173.out 7
              have hfz31_8 := blk_frozen BK173.out 8
              have hfz31_9 := blk_frozen BK173.out 9
              have hfz31_10 := blk_frozen BK173.out 10
              go_wp2_with (first | ((with_reducible refine gate_callee (f := 114) rfl ?_); refine goesL_ (some 57) rfl rfl Try.func114 (by kernel_rfl) rfl #[.int .i64 a0_5, .int .i64 4] rfl (by (try simp only [List.map_toArray, List.map_cons, List.map_nil]); first | done | rfl | (simp only [List.length_drop, List.length_take]; rfl)) ?_; (with_reducible refine (gaugerref06_in.calls a0_5 4 true _ A24.out).mono ?_); rintro e w' ⟨rfl, ⟨nd, rfl⟩⟩; refine ⟨_, rfl, ?_⟩) | (go_at_call 114; (with_reducible refine (gaugerref06_in.calls a0_6 255 false _ A26.out).mono ?_); rintro e w' ⟨rfl, ⟨nd, rfl⟩⟩))
              go_meet
              case rel => exact ⟨_, (true), (by first | rfl | (simp; done) | (simp [*]; done)), H', ⟨by have := HJ1.out; first | omega | exact Nat.le_refl _⟩, ⟨by (with_reducible repeat (first | refine blk_drewN ?_ _ | refine blk_drew ?_ | refine blk_alloc ?_ _)); exact BK173.out⟩, ⟨by repeat (first | (with_reducible first | exact HB.out | apply below_alloc | apply pw_below_drewN | apply below_drew1 | refine below_set ?_ GE173.out) | exact HB.out)⟩⟩
          · replace c25 := Bool.eq_false_iff.mpr c25
            subst c25
            have H1 : (gaugerref06_Good.j1 kj1 2147483647 true a0_0 a0_1 a0_2 a0_3 l0_4 a0_5 a0_6 a0_7 a0_8 l0_9 l0_10) = some r := by rw [if_neg (show ¬ (false = true) by decide)] at H; exact H
            clear H
            have H := H1
            clear H1
            have H' := Aside0.mk H
            clear H
            have hcz32_0 : wc.cell? ⟨gb173, 0, none⟩ = some (.int .i64 a0_0) := (blk_cell BK173.out 0).trans rfl
            have hcz32_1 : wc.cell? ⟨gb173, 1, none⟩ = some (.int .i64 a0_1) := (blk_cell BK173.out 1).trans rfl
            have hcz32_2 : wc.cell? ⟨gb173, 2, none⟩ = some (.int .i64 a0_2) := (blk_cell BK173.out 2).trans rfl
            have hcz32_3 : wc.cell? ⟨gb173, 3, none⟩ = some (.int .i64 a0_3) := (blk_cell BK173.out 3).trans rfl
            have hcz32_4 : wc.cell? ⟨gb173, 4, none⟩ = some (.slice A0_4 l0_4.length c0_4) := (blk_cell BK173.out 4).trans rfl
            have hcz32_5 : wc.cell? ⟨gb173, 5, none⟩ = some (.int .i64 a0_5) := (blk_cell BK173.out 5).trans rfl
            have hcz32_6 : wc.cell? ⟨gb173, 6, none⟩ = some (.int .i64 a0_6) := (blk_cell BK173.out 6).trans rfl
            have hcz32_7 : wc.cell? ⟨gb173, 7, none⟩ = some (.string a0_7) := (blk_cell BK173.out 7).trans rfl
            have hcz32_8 : wc.cell? ⟨gb173, 8, none⟩ = some (.string a0_8) := (blk_cell BK173.out 8).trans rfl
            have hcz32_9 : wc.cell? ⟨gb173, 9, none⟩ = some (.slice A0_9 l0_9.length c0_9) := (blk_cell BK173.out 9).trans rfl
            have hcz32_10 : wc.cell? ⟨gb173, 10, none⟩ = some (.slice A0_10 l0_10.length c0_10) := (blk_cell BK173.out 10).trans rfl
            have hfz32_0 := blk_frozen BK173.out 0
            have hfz32_1 := blk_frozen BK173.out 1
            have hfz32_2 := blk_frozen BK173.out 2
            have hfz32_3 := blk_frozen BK173.out 3
            have hfz32_4 := blk_frozen BK173.out 4
            have hfz32_5 := blk_frozen BK173.out 5
            have hfz32_6 := blk_frozen BK173.out 6
            have hfz32_7 := blk_frozen BK173.out 7
            have hfz32_8 := blk_frozen BK173.out 8
            have hfz32_9 := blk_frozen BK173.out 9
            have hfz32_10 := blk_frozen BK173.out 10
            go_wp2_with (first | ((with_reducible refine gate_callee (f := 114) rfl ?_); refine goesL_ (some 57) rfl rfl Try.func114 (by kernel_rfl) rfl #[.int .i64 a0_5, .int .i64 4] rfl (by (try simp only [List.map_toArray, List.map_cons, List.map_nil]); first | done | rfl | (simp only [List.length_drop, List.length_take]; rfl)) ?_; (with_reducible refine (gaugerref06_in.calls a0_5 4 false _ A24.out).mono ?_); rintro e w' ⟨rfl, ⟨nd, rfl⟩⟩; refine ⟨_, rfl, ?_⟩))
            go_meet
            case rel => exact ⟨_, (true), (by first | rfl | (simp; done) | (simp [*]; done)), H', ⟨by have := HJ1.out; first | omega | exact Nat.le_refl _⟩, ⟨by (with_reducible repeat (first | refine blk_drewN ?_ _ | refine blk_drew ?_ | refine blk_alloc ?_ _)); exact BK173.out⟩, ⟨by repeat (first | (with_reducible first | exact HB.out | apply below_alloc | apply pw_below_drewN | apply below_drew1 | refine below_set ?_ GE173.out) | exact HB.out)⟩⟩
        case rest =>
          clear HC23
          try clear c1
          try clear c2
          try clear p2
          try clear c4
          try clear c4b0
          try clear c5
          try clear c6
          try clear c6b0
          try clear c9
          try clear c11
          try clear c13
          try clear c14
          try clear c14b0
          try clear c14b1
          try clear c16
          try clear c16b0
          try clear c16b1
          try clear c22
          try clear c25
          try clear c27
          try clear c28
          try clear c28b0
          try clear c28b1
          try clear hcz15_0
          try clear hcz15_1
          try clear hcz15_10
          try clear hcz15_2
          try clear hcz15_3
          try clear hcz15_4
          try clear hcz15_5
          try clear hcz15_6
          try clear hcz15_7
          try clear hcz15_8
          try clear hcz15_9
          try clear hcz17_0
          try clear hcz17_1
          try clear hcz17_10
          try clear hcz17_2
          try clear hcz17_3
          try clear hcz17_4
          try clear hcz17_5
          try clear hcz17_6
          try clear hcz17_7
          try clear hcz17_8
          try clear hcz17_9
          try clear hcz18_0
          try clear hcz18_1
          try clear hcz18_10
          try clear hcz18_2
          try clear hcz18_3
          try clear hcz18_4
          try clear hcz18_5
          try clear hcz18_6
          try clear hcz18_7
          try clear hcz18_8
          try clear hcz18_9
          try clear hcz19_0
          try clear hcz19_1
          try clear hcz19_10
          try clear hcz19_2
          try clear hcz19_3
          try clear hcz19_4
          try clear hcz19_5
          try clear hcz19_6
          try clear hcz19_7
          try clear hcz19_8
          try clear hcz19_9
          try clear hcz20_0
          try clear hcz20_1
          try clear hcz20_10
          try clear hcz20_2
          try clear hcz20_3
          try clear hcz20_4
          try clear hcz20_5
          try clear hcz20_6
          try clear hcz20_7
          try clear hcz20_8
          try clear hcz20_9
          try clear hcz21_0
          try clear hcz21_1
          try clear hcz21_10
          try clear hcz21_2
          try clear hcz21_3
          try clear hcz21_4
          try clear hcz21_5
          try clear hcz21_6
          try clear hcz21_7
          try clear hcz21_8
          try clear hcz21_9
          try clear hcz29_0
          try clear hcz29_1
          try clear hcz29_10
          try clear hcz29_2
          try clear hcz29_3
          try clear hcz29_4
          try clear hcz29_5
          try clear hcz29_6
          try clear hcz29_7
          try clear hcz29_8
          try clear hcz29_9
          try clear hcz30_0
          try clear hcz30_1
          try clear hcz30_10
          try clear hcz30_2
          try clear hcz30_3
          try clear hcz30_4
          try clear hcz30_5
          try clear hcz30_6
          try clear hcz30_7
          try clear hcz30_8
          try clear hcz30_9
          try clear hcz31_0
          try clear hcz31_1
          try clear hcz31_10
          try clear hcz31_2
          try clear hcz31_3
          try clear hcz31_4
          try clear hcz31_5
          try clear hcz31_6
          try clear hcz31_7
          try clear hcz31_8
          try clear hcz31_9
          try clear hcz32_0
          try clear hcz32_1
          try clear hcz32_10
          try clear hcz32_2
          try clear hcz32_3
          try clear hcz32_4
          try clear hcz32_5
          try clear hcz32_6
          try clear hcz32_7
          try clear hcz32_8
          try clear hcz32_9
          try clear hcz5_0
          try clear hcz5_1
          try clear hcz5_10
          try clear hcz5_2
          try clear hcz5_3
          try clear hcz5_4
          try clear hcz5_5
          try clear hcz5_6
          try clear hcz5_7
          try clear hcz5_8
          try clear hcz5_9
          try clear hcz7_0
          try clear hcz7_1
          try clear hcz7_10
          try clear hcz7_2
          try clear hcz7_3
          try clear hcz7_4
          try clear hcz7_5
          try clear hcz7_6
          try clear hcz7_7
          try clear hcz7_8
          try clear hcz7_9
          try clear hfz15_0
          try clear hfz15_1
          try clear hfz15_10
          try clear hfz15_2
          try clear hfz15_3
          try clear hfz15_4
          try clear hfz15_5
          try clear hfz15_6
          try clear hfz15_7
          try clear hfz15_8
          try clear hfz15_9
          try clear hfz17_0
          try clear hfz17_1
          try clear hfz17_10
          try clear hfz17_2
          try clear hfz17_3
          try clear hfz17_4
          try clear hfz17_5
          try clear hfz17_6
          try clear hfz17_7
          try clear hfz17_8
          try clear hfz17_9
          try clear hfz18_0
          try clear hfz18_1
          try clear hfz18_10
          try clear hfz18_2
          try clear hfz18_3
          try clear hfz18_4
          try clear hfz18_5
          try clear hfz18_6
          try clear hfz18_7
          try clear hfz18_8
          try clear hfz18_9
          try clear hfz19_0
          try clear hfz19_1
          try clear hfz19_10
          try clear hfz19_2
          try clear hfz19_3
          try clear hfz19_4
          try clear hfz19_5
          try clear hfz19_6
          try clear hfz19_7
          try clear hfz19_8
          try clear hfz19_9
          try clear hfz20_0
          try clear hfz20_1
          try clear hfz20_10
          try clear hfz20_2
          try clear hfz20_3
          try clear hfz20_4
          try clear hfz20_5
          try clear hfz20_6
          try clear hfz20_7
          try clear hfz20_8
          try clear hfz20_9
          try clear hfz21_0
          try clear hfz21_1
          try clear hfz21_10
          try clear hfz21_2
          try clear hfz21_3
          try clear hfz21_4
          try clear hfz21_5
          try clear hfz21_6
          try clear hfz21_7
          try clear hfz21_8
          try clear hfz21_9
          try clear hfz29_0
          try clear hfz29_1
          try clear hfz29_10
          try clear hfz29_2
          try clear hfz29_3
          try clear hfz29_4
          try clear hfz29_5
          try clear hfz29_6
          try clear hfz29_7
          try clear hfz29_8
          try clear hfz29_9
          try clear hfz30_0
          try clear hfz30_1
          try clear hfz30_10
          try clear hfz30_2
          try clear hfz30_3
          try clear hfz30_4
          try clear hfz30_5
          try clear hfz30_6
          try clear hfz30_7
          try clear hfz30_8
          try clear hfz30_9
          try clear hfz31_0
          try clear hfz31_1
          try clear hfz31_10
          try clear hfz31_2
          try clear hfz31_3
          try clear hfz31_4
          try clear hfz31_5
          try clear hfz31_6
          try clear hfz31_7
          try clear hfz31_8
          try clear hfz31_9
          try clear hfz32_0
          try clear hfz32_1
          try clear hfz32_10
          try clear hfz32_2
          try clear hfz32_3
          try clear hfz32_4
          try clear hfz32_5
          try clear hfz32_6
          try clear hfz32_7
          try clear hfz32_8
          try clear hfz32_9
          try clear hfz5_0
          try clear hfz5_1
          try clear hfz5_10
          try clear hfz5_2
          try clear hfz5_3
          try clear hfz5_4
          try clear hfz5_5
          try clear hfz5_6
          try clear hfz5_7
          try clear hfz5_8
          try clear hfz5_9
          try clear hfz7_0
          try clear hfz7_1
          try clear hfz7_10
          try clear hfz7_2
          try clear hfz7_3
          try clear hfz7_4
          try clear hfz7_5
          try clear hfz7_6
          try clear hfz7_7
          try clear hfz7_8
          try clear hfz7_9
          try clear p2
          obtain ⟨kq, x79_22, rfl, HA, HJ22, BK173, HB⟩ := hcut
          cases kq with
          | zero => exact absurd HA.out (by simp [gaugerref06_Good.j1])
          | succ kj22 =>
            have H := HA.out
            clear HA
            simp only [gaugerref06_Good.j1] at H
            by_cases c33 : x79_22 = true
            · subst c33
              have H1 : (some false) = some r := by rw [if_pos rfl] at H; exact H
              clear H
              have H := H1
              clear H1
              obtain rfl := Option.some.inj H
              go_wp2
              go_ret
              exact ⟨by first | rfl | (simp [errW_none, errW_some] <;> rfl) | (simp [*, errW_none, errW_some] <;> rfl), by repeat (first | (with_reducible first | exact HB.out | apply below_alloc | apply pw_below_drewN | apply below_drew1 | refine below_set ?_ GE173.out) | exact HB.out)⟩
            · replace c33 := Bool.eq_false_iff.mpr c33
              subst c33
              have H1 : (gaugerref06_Good.l0 kj22 2147483647 0 a0_0 a0_1 a0_2 a0_3 l0_4 a0_5 a0_6 a0_7 a0_8 l0_9 l0_10) = some r := by rw [if_neg (show ¬ (false = true) by decide)] at H; exact H
              clear H
              have H := H1
              clear H1
              have H' := Aside0.mk H
              clear H
              go_wp2
              go_loopg [4] kj22 (fun kq v4 w' => ∃ (x4_3 : Int), v4 = .int .i64 x4_3 ∧ Aside0 (gaugerref06_Good.l0 kq 2147483647 x4_3 a0_0 a0_1 a0_2 a0_3 l0_4 a0_5 a0_6 a0_7 a0_8 l0_9 l0_10 = some r) ∧ Aside0 (kq ≤ kj22) ∧ Aside0 (w'.heap[gb173]? = some (.cells #[.int .i64 a0_0, .int .i64 a0_1, .int .i64 a0_2, .int .i64 a0_3, (.slice A0_4 l0_4.length c0_4), .int .i64 a0_5, .int .i64 a0_6, .string a0_7, .string a0_8, (.slice A0_9 l0_9.length c0_9), (.slice A0_10 l0_10.length c0_10)] 58 (0, 0))) ∧ Aside0 (Below w.heap.size w w'))
              case atStart => exact ⟨(0), (by first | rfl | (simp; done) | (simp [*]; done)), H', ⟨Nat.le_refl _⟩, ⟨by (with_reducible repeat (first | refine blk_drewN ?_ _ | refine blk_drew ?_ | refine blk_alloc ?_ _)); exact BK173.out⟩, ⟨by repeat (first | (with_reducible first | exact HB.out | apply below_alloc | apply pw_below_drewN | apply below_drew1 | refine below_set ?_ GE173.out) | exact HB.out)⟩⟩
              case round =>
                clear H'
                try clear c1
                try clear c2
                try clear p2
                try clear c3
                try clear c4
                try clear c4b0
                try clear c5
                try clear c6
                try clear c6b0
                try clear c9
                try clear c11
                try clear c13
                try clear c14
                try clear c14b0
                try clear c14b1
                try clear c16
                try clear c16b0
                try clear c16b1
                try clear c22
                try clear c25
                try clear c27
                try clear c28
                try clear c28b0
                try clear c28b1
                try clear c33
                try clear hcz15_0
                try clear hcz15_1
                try clear hcz15_10
                try clear hcz15_2
                try clear hcz15_3
                try clear hcz15_4
                try clear hcz15_5
                try clear hcz15_6
                try clear hcz15_7
                try clear hcz15_8
                try clear hcz15_9
                try clear hcz17_0
                try clear hcz17_1
                try clear hcz17_10
                try clear hcz17_2
                try clear hcz17_3
                try clear hcz17_4
                try clear hcz17_5
                try clear hcz17_6
                try clear hcz17_7
                try clear hcz17_8
                try clear hcz17_9
                try clear hcz18_0
                try clear hcz18_1
                try clear hcz18_10
                try clear hcz18_2
                try clear hcz18_3
                try clear hcz18_4
                try clear hcz18_5
                try clear hcz18_6
                try clear hcz18_7
                try clear hcz18_8
                try clear hcz18_9
                try clear hcz19_0
                try clear hcz19_1
                try clear hcz19_10
                try clear hcz19_2
                try clear hcz19_3
                try clear hcz19_4
                try clear hcz19_5
                try clear hcz19_6
                try clear hcz19_7
                try clear hcz19_8
                try clear hcz19_9
                try clear hcz20_0
                try clear hcz20_1
                try clear hcz20_10
                try clear hcz20_2
                try clear hcz20_3
                try clear hcz20_4
                try clear hcz20_5
                try clear hcz20_6
                try clear hcz20_7
                try clear hcz20_8
                try clear hcz20_9
                try clear hcz21_0
                try clear hcz21_1
                try clear hcz21_10
                try clear hcz21_2
                try clear hcz21_3
                try clear hcz21_4
                try clear hcz21_5
                try clear hcz21_6
                try clear hcz21_7
                try clear hcz21_8
                try clear hcz21_9
                try clear hcz29_0
                try clear hcz29_1
                try clear hcz29_10
                try clear hcz29_2
                try clear hcz29_3
                try clear hcz29_4
                try clear hcz29_5
                try clear hcz29_6
                try clear hcz29_7
                try clear hcz29_8
                try clear hcz29_9
                try clear hcz30_0
                try clear hcz30_1
                try clear hcz30_10
                try clear hcz30_2
                try clear hcz30_3
                try clear hcz30_4
                try clear hcz30_5
                try clear hcz30_6
                try clear hcz30_7
                try clear hcz30_8
                try clear hcz30_9
                try clear hcz31_0
                try clear hcz31_1
                try clear hcz31_10
                try clear hcz31_2
                try clear hcz31_3
                try clear hcz31_4
                try clear hcz31_5
                try clear hcz31_6
                try clear hcz31_7
                try clear hcz31_8
                try clear hcz31_9
                try clear hcz32_0
                try clear hcz32_1
                try clear hcz32_10
                try clear hcz32_2
                try clear hcz32_3
                try clear hcz32_4
                try clear hcz32_5
                try clear hcz32_6
                try clear hcz32_7
                try clear hcz32_8
                try clear hcz32_9
                try clear hcz5_0
                try clear hcz5_1
                try clear hcz5_10
                try clear hcz5_2
                try clear hcz5_3
                try clear hcz5_4
                try clear hcz5_5
                try clear hcz5_6
                try clear hcz5_7
                try clear hcz5_8
                try clear hcz5_9
                try clear hcz7_0
                try clear hcz7_1
                try clear hcz7_10
                try clear hcz7_2
                try clear hcz7_3
                try clear hcz7_4
                try clear hcz7_5
                try clear hcz7_6
                try clear hcz7_7
                try clear hcz7_8
                try clear hcz7_9
                try clear hfz15_0
                try clear hfz15_1
                try clear hfz15_10
                try clear hfz15_2
                try clear hfz15_3
                try clear hfz15_4
                try clear hfz15_5
                try clear hfz15_6
                try clear hfz15_7
                try clear hfz15_8
                try clear hfz15_9
                try clear hfz17_0
                try clear hfz17_1
                try clear hfz17_10
                try clear hfz17_2
                try clear hfz17_3
                try clear hfz17_4
                try clear hfz17_5
                try clear hfz17_6
                try clear hfz17_7
                try clear hfz17_8
                try clear hfz17_9
                try clear hfz18_0
                try clear hfz18_1
                try clear hfz18_10
                try clear hfz18_2
                try clear hfz18_3
                try clear hfz18_4
                try clear hfz18_5
                try clear hfz18_6
                try clear hfz18_7
                try clear hfz18_8
                try clear hfz18_9
                try clear hfz19_0
                try clear hfz19_1
                try clear hfz19_10
                try clear hfz19_2
                try clear hfz19_3
                try clear hfz19_4
                try clear hfz19_5
                try clear hfz19_6
                try clear hfz19_7
                try clear hfz19_8
                try clear hfz19_9
                try clear hfz20_0
                try clear hfz20_1
                try clear hfz20_10
                try clear hfz20_2
                try clear hfz20_3
                try clear hfz20_4
                try clear hfz20_5
                try clear hfz20_6
                try clear hfz20_7
                try clear hfz20_8
                try clear hfz20_9
                try clear hfz21_0
                try clear hfz21_1
                try clear hfz21_10
                try clear hfz21_2
                try clear hfz21_3
                try clear hfz21_4
                try clear hfz21_5
                try clear hfz21_6
                try clear hfz21_7
                try clear hfz21_8
                try clear hfz21_9
                try clear hfz29_0
                try clear hfz29_1
                try clear hfz29_10
                try clear hfz29_2
                try clear hfz29_3
                try clear hfz29_4
                try clear hfz29_5
                try clear hfz29_6
                try clear hfz29_7
                try clear hfz29_8
                try clear hfz29_9
                try clear hfz30_0
                try clear hfz30_1
                try clear hfz30_10
                try clear hfz30_2
                try clear hfz30_3
                try clear hfz30_4
                try clear hfz30_5
                try clear hfz30_6
                try clear hfz30_7
                try clear hfz30_8
                try clear hfz30_9
                try clear hfz31_0
                try clear hfz31_1
                try clear hfz31_10
                try clear hfz31_2
                try clear hfz31_3
                try clear hfz31_4
                try clear hfz31_5
                try clear hfz31_6
                try clear hfz31_7
                try clear hfz31_8
                try clear hfz31_9
                try clear hfz32_0
                try clear hfz32_1
                try clear hfz32_10
                try clear hfz32_2
                try clear hfz32_3
                try clear hfz32_4
                try clear hfz32_5
                try clear hfz32_6
                try clear hfz32_7
                try clear hfz32_8
                try clear hfz32_9
                try clear hfz5_0
                try clear hfz5_1
                try clear hfz5_10
                try clear hfz5_2
                try clear hfz5_3
                try clear hfz5_4
                try clear hfz5_5
                try clear hfz5_6
                try clear hfz5_7
                try clear hfz5_8
                try clear hfz5_9
                try clear hfz7_0
                try clear hfz7_1
                try clear hfz7_10
                try clear hfz7_2
                try clear hfz7_3
                try clear hfz7_4
                try clear hfz7_5
                try clear hfz7_6
                try clear hfz7_7
                try clear hfz7_8
                try clear hfz7_9
                try clear p2
                obtain ⟨x4_3, rfl, HA, HK3, BK173, HB⟩ := hrel
                cases gk with
                | zero => exact absurd HA.out (by simp [gaugerref06_Good.l0])
                | succ k3 =>
                  have H := HA.out
                  clear HA
                  simp only [gaugerref06_Good.l0] at H
                  by_cases c34 : x4_3 < (l0_4.length : Int)
                  · rw [if_pos c34] at H
                    have c34b0 : decide (x4_3 < (l0_4.length : Int)) = true := decide_eq_true c34
                    clear c34
                    by_cases c35 : 0 ≤ x4_3
                    · rw [if_pos c35] at H
                      have c35b0 : decide (0 ≤ x4_3) = true := decide_eq_true c35
                      clear c35
                      replace H := Option.bind_eq_some_iff.mp H
                      obtain ⟨t180, A360, H⟩ := H
                      replace H : (if t180 = true then (if (((rd_T161 l0_4 x4_3).f1).size : Int) = 256 then (gaugerref06_Good.l0 k3 2147483647 (wrap64 (x4_3 + 1)) a0_0 a0_1 a0_2 a0_3 l0_4 a0_5 a0_6 a0_7 a0_8 l0_9 l0_10) else (some false)) else (some false)) = some r := H
                      have A36 := Aside0.mk A360
                      clear A360
                      by_cases c37 : t180 = true
                      · subst c37
                        have H1 : (if (((rd_T161 l0_4 x4_3).f1).size : Int) = 256 then (gaugerref06_Good.l0 k3 2147483647 (wrap64 (x4_3 + 1)) a0_0 a0_1 a0_2 a0_3 l0_4 a0_5 a0_6 a0_7 a0_8 l0_9 l0_10) else (some false)) = some r := by rw [if_pos rfl] at H; exact H
                        clear H
                        have H := H1
                        clear H1
                        by_cases c38 : (((rd_T161 l0_4 x4_3).f1).size : Int) = 256
                        · rw [if_pos c38] at H
                          have c38b0 : ((((rd_T161 l0_4 x4_3).f1).size : Int) == 256) = true := beq_iff_eq.mpr c38
                          have c38b1 : ((((rd_T161 l0_4 x4_3).f1).size : Int) != 256) = false := bne_eq_false_iff_eq.mpr c38
                          clear c38
                          have H' := Aside0.mk H
                          clear H
                          have hcz39_0 : wr.cell? ⟨gb173, 0, none⟩ = some (.int .i64 a0_0) := (blk_cell BK173.out 0).trans rfl
                          have hcz39_1 : wr.cell? ⟨gb173, 1, none⟩ = some (.int .i64 a0_1) := (blk_cell BK173.out 1).trans rfl
                          have hcz39_2 : wr.cell? ⟨gb173, 2, none⟩ = some (.int .i64 a0_2) := (blk_cell BK173.out 2).trans rfl
                          have hcz39_3 : wr.cell? ⟨gb173, 3, none⟩ = some (.int .i64 a0_3) := (blk_cell BK173.out 3).trans rfl
                          have hcz39_4 : wr.cell? ⟨gb173, 4, none⟩ = some (.slice A0_4 l0_4.length c0_4) := (blk_cell BK173.out 4).trans rfl
                          have hcz39_5 : wr.cell? ⟨gb173, 5, none⟩ = some (.int .i64 a0_5) := (blk_cell BK173.out 5).trans rfl
                          have hcz39_6 : wr.cell? ⟨gb173, 6, none⟩ = some (.int .i64 a0_6) := (blk_cell BK173.out 6).trans rfl
                          have hcz39_7 : wr.cell? ⟨gb173, 7, none⟩ = some (.string a0_7) := (blk_cell BK173.out 7).trans rfl
                          have hcz39_8 : wr.cell? ⟨gb173, 8, none⟩ = some (.string a0_8) := (blk_cell BK173.out 8).trans rfl
                          have hcz39_9 : wr.cell? ⟨gb173, 9, none⟩ = some (.slice A0_9 l0_9.length c0_9) := (blk_cell BK173.out 9).trans rfl
                          have hcz39_10 : wr.cell? ⟨gb173, 10, none⟩ = some (.slice A0_10 l0_10.length c0_10) := (blk_cell BK173.out 10).trans rfl
                          have hfz39_0 := blk_frozen BK173.out 0
                          have hfz39_1 := blk_frozen BK173.out 1
                          have hfz39_2 := blk_frozen BK173.out 2
                          have hfz39_3 := blk_frozen BK173.out 3
                          have hfz39_4 := blk_frozen BK173.out 4
                          have hfz39_5 := blk_frozen BK173.out 5
                          have hfz39_6 := blk_frozen BK173.out 6
                          have hfz39_7 := blk_frozen BK173.out 7
                          have hfz39_8 := blk_frozen BK173.out 8
                          have hfz39_9 := blk_frozen BK173.out 9
                          have hfz39_10 := blk_frozen BK173.out 10
                          have p179 : 0 ≤ (x4_3 : Int) := of_decide_eq_true (by first | (with_reducible assumption) | assumption)
                          have q179 : x4_3 < (l0_4.length : Int) := of_decide_eq_true (by first | (with_reducible assumption) | assumption)
                          obtain ⟨ad179, e179, hx179_0, hx179_1⟩ := at_T161 HR0_4.out x4_3 p179 q179
                          cases e179
                          replace hx179_0 := (HB.out.cell (World.block_lt_of_cell? w _ hx179_0)).trans hx179_0
                          replace hx179_1 := (HB.out.cell (World.block_lt_of_cell? w _ hx179_1)).trans hx179_1
                          replace p179 := eq_true p179
                          replace q179 := eq_true q179
                          go_wp2_with (first | ((with_reducible refine gate_callee (f := 114) rfl ?_); refine goesL_ (some 93) rfl rfl Try.func114 (by kernel_rfl) rfl #[.int .i64 ((rd_T161 l0_4 x4_3).f0), .int .i64 255] rfl (by (try simp only [List.map_toArray, List.map_cons, List.map_nil]); first | done | rfl | (simp only [List.length_drop, List.length_take]; rfl)) ?_; (with_reducible refine (gaugerref06_in.calls ((rd_T161 l0_4 x4_3).f0) 255 true _ A36.out).mono ?_); rintro e w' ⟨rfl, ⟨nd, rfl⟩⟩; refine ⟨_, rfl, ?_⟩; have p181 : 0 ≤ (x4_3 : Int) := of_decide_eq_true (by first | (with_reducible assumption) | assumption); have q181 : x4_3 < (l0_4.length : Int) := of_decide_eq_true (by first | (with_reducible assumption) | assumption); obtain ⟨ad181, e181, hx181_0, hx181_1⟩ := at_T161 HR0_4.out x4_3 p181 q181; obtain rfl : ad179 = ad181 := (by injection e181); replace hx181_0 := (HB.out.cell (World.block_lt_of_cell? w _ hx181_0)).trans hx181_0; replace hx181_1 := (HB.out.cell (World.block_lt_of_cell? w _ hx181_1)).trans hx181_1; replace p181 := eq_true p181; replace q181 := eq_true q181))
                          go_roundg k3
                          case measure => have := HJ1.out; have := HJ22.out; have := HK3.out; omega
                          case rel => exact ⟨(wrap64 (x4_3 + 1)), (by first | rfl | (simp; done) | (simp [*]; done)), H', ⟨by have := HJ1.out; have := HJ22.out; have := HK3.out; omega⟩, ⟨by (with_reducible repeat (first | refine blk_drewN ?_ _ | refine blk_drew ?_ | refine blk_alloc ?_ _)); exact BK173.out⟩, ⟨by repeat (first | (with_reducible first | exact HB.out | apply below_alloc | apply pw_below_drewN | apply below_drew1 | refine below_set ?_ GE173.out) | exact HB.out)⟩⟩
                        · rw [if_neg c38] at H
                          have c38b0 : ((((rd_T161 l0_4 x4_3).f1).size : Int) == 256) = false := beq_eq_false_iff_ne.mpr c38
                          have c38b1 : ((((rd_T161 l0_4 x4_3).f1).size : Int) != 256) = true := bne_iff_ne.mpr c38
                          obtain rfl := Option.some.inj H
                          have hcz40_0 : wr.cell? ⟨gb173, 0, none⟩ = some (.int .i64 a0_0) := (blk_cell BK173.out 0).trans rfl
                          have hcz40_1 : wr.cell? ⟨gb173, 1, none⟩ = some (.int .i64 a0_1) := (blk_cell BK173.out 1).trans rfl
                          have hcz40_2 : wr.cell? ⟨gb173, 2, none⟩ = some (.int .i64 a0_2) := (blk_cell BK173.out 2).trans rfl
                          have hcz40_3 : wr.cell? ⟨gb173, 3, none⟩ = some (.int .i64 a0_3) := (blk_cell BK173.out 3).trans rfl
                          have hcz40_4 : wr.cell? ⟨gb173, 4, none⟩ = some (.slice A0_4 l0_4.length c0_4) := (blk_cell BK173.out 4).trans rfl
                          have hcz40_5 : wr.cell? ⟨gb173, 5, none⟩ = some (.int .i64 a0_5) := (blk_cell BK173.out 5).trans rfl
                          have hcz40_6 : wr.cell? ⟨gb173, 6, none⟩ = some (.int .i64 a0_6) := (blk_cell BK173.out 6).trans rfl
                          have hcz40_7 : wr.cell? ⟨gb173, 7, none⟩ = some (.string a0_7) := (blk_cell BK173.out 7).trans rfl
                          have hcz40_8 : wr.cell? ⟨gb173, 8, none⟩ = some (.string a0_8) := (blk_cell BK173.out 8).trans rfl
                          have hcz40_9 : wr.cell? ⟨gb173, 9, none⟩ = some (.slice A0_9 l0_9.length c0_9) := (blk_cell BK173.out 9).trans rfl
                          have hcz40_10 : wr.cell? ⟨gb173, 10, none⟩ = some (.slice A0_10 l0_10.length c0_10) := (blk_cell BK173.out 10).trans rfl
                          have hfz40_0 := blk_frozen BK173.out 0
                          have hfz40_1 := blk_frozen BK173.out 1
                          have hfz40_2 := blk_frozen BK173.out 2
                          have hfz40_3 := blk_frozen BK173.out 3
                          have hfz40_4 := blk_frozen BK173.out 4
                          have hfz40_5 := blk_frozen BK173.out 5
                          have hfz40_6 := blk_frozen BK173.out 6
                          have hfz40_7 := blk_frozen BK173.out 7
                          have hfz40_8 := blk_frozen BK173.out 8
                          have hfz40_9 := blk_frozen BK173.out 9
                          have hfz40_10 := blk_frozen BK173.out 10
                          have p179 : 0 ≤ (x4_3 : Int) := of_decide_eq_true (by first | (with_reducible assumption) | assumption)
                          have q179 : x4_3 < (l0_4.length : Int) := of_decide_eq_true (by first | (with_reducible assumption) | assumption)
                          obtain ⟨ad179, e179, hx179_0, hx179_1⟩ := at_T161 HR0_4.out x4_3 p179 q179
                          cases e179
                          replace hx179_0 := (HB.out.cell (World.block_lt_of_cell? w _ hx179_0)).trans hx179_0
                          replace hx179_1 := (HB.out.cell (World.block_lt_of_cell? w _ hx179_1)).trans hx179_1
                          replace p179 := eq_true p179
                          replace q179 := eq_true q179
                          go_wp2_with (first | ((with_reducible refine gate_callee (f := 114) rfl ?_); refine goesL_ (some 93) rfl rfl Try.func114 (by kernel_rfl) rfl #[.int .i64 ((rd_T161 l0_4 x4_3).f0), .int .i64 255] rfl (by (try simp only [List.map_toArray, List.map_cons, List.map_nil]); first | done | rfl | (simp only [List.length_drop, List.length_take]; rfl)) ?_; (with_reducible refine (gaugerref06_in.calls ((rd_T161 l0_4 x4_3).f0) 255 true _ A36.out).mono ?_); rintro e w' ⟨rfl, ⟨nd, rfl⟩⟩; refine ⟨_, rfl, ?_⟩; have p181 : 0 ≤ (x4_3 : Int) := of_decide_eq_true (by first | (with_reducible assumption) | assumption); have q181 : x4_3 < (l0_4.length : Int) := of_decide_eq_true (by first | (with_reducible assumption) | assumption); obtain ⟨ad181, e181, hx181_0, hx181_1⟩ := at_T161 HR0_4.out x4_3 p181 q181; obtain rfl : ad179 = ad181 := (by injection e181); replace hx181_0 := (HB.out.cell (World.block_lt_of_cell? w _ hx181_0)).trans hx181_0; replace hx181_1 := (HB.out.cell (World.block_lt_of_cell? w _ hx181_1)).trans hx181_1; replace p181 := eq_true p181; replace q181 := eq_true q181))
                          go_ret
                          exact ⟨by first | rfl | (simp [errW_none, errW_some] <;> rfl) | (simp [*, errW_none, errW_some] <;> rfl), by repeat (first | (with_reducible first | exact HB.out | apply below_alloc | apply pw_below_drewN | apply below_drew1 | refine below_set ?_ GE173.out) | exact HB.out)⟩
                      · replace c37 := Bool.eq_false_iff.mpr c37
                        subst c37
                        have H1 : (some false) = some r := by rw [if_neg (show ¬ (false = true) by decide)] at H; exact H
                        clear H
                        have H := H1
                        clear H1
                        obtain rfl := Option.some.inj H
                        have hcz41_0 : wr.cell? ⟨gb173, 0, none⟩ = some (.int .i64 a0_0) := (blk_cell BK173.out 0).trans rfl
                        have hcz41_1 : wr.cell? ⟨gb173, 1, none⟩ = some (.int .i64 a0_1) := (blk_cell BK173.out 1).trans rfl
                        have hcz41_2 : wr.cell? ⟨gb173, 2, none⟩ = some (.int .i64 a0_2) := (blk_cell BK173.out 2).trans rfl
                        have hcz41_3 : wr.cell? ⟨gb173, 3, none⟩ = some (.int .i64 a0_3) := (blk_cell BK173.out 3).trans rfl
                        have hcz41_4 : wr.cell? ⟨gb173, 4, none⟩ = some (.slice A0_4 l0_4.length c0_4) := (blk_cell BK173.out 4).trans rfl
                        have hcz41_5 : wr.cell? ⟨gb173, 5, none⟩ = some (.int .i64 a0_5) := (blk_cell BK173.out 5).trans rfl
                        have hcz41_6 : wr.cell? ⟨gb173, 6, none⟩ = some (.int .i64 a0_6) := (blk_cell BK173.out 6).trans rfl
                        have hcz41_7 : wr.cell? ⟨gb173, 7, none⟩ = some (.string a0_7) := (blk_cell BK173.out 7).trans rfl
                        have hcz41_8 : wr.cell? ⟨gb173, 8, none⟩ = some (.string a0_8) := (blk_cell BK173.out 8).trans rfl
                        have hcz41_9 : wr.cell? ⟨gb173, 9, none⟩ = some (.slice A0_9 l0_9.length c0_9) := (blk_cell BK173.out 9).trans rfl
                        have hcz41_10 : wr.cell? ⟨gb173, 10, none⟩ = some (.slice A0_10 l0_10.length c0_10) := (blk_cell BK173.out 10).trans rfl
                        have hfz41_0 := blk_frozen BK173.out 0
                        have hfz41_1 := blk_frozen BK173.out 1
                        have hfz41_2 := blk_frozen BK173.out 2
                        have hfz41_3 := blk_frozen BK173.out 3
                        have hfz41_4 := blk_frozen BK173.out 4
                        have hfz41_5 := blk_frozen BK173.out 5
                        have hfz41_6 := blk_frozen BK173.out 6
                        have hfz41_7 := blk_frozen BK173.out 7
                        have hfz41_8 := blk_frozen BK173.out 8
                        have hfz41_9 := blk_frozen BK173.out 9
                        have hfz41_10 := blk_frozen BK173.out 10
                        have p179 : 0 ≤ (x4_3 : Int) := of_decide_eq_true (by first | (with_reducible assumption) | assumption)
                        have q179 : x4_3 < (l0_4.length : Int) := of_decide_eq_true (by first | (with_reducible assumption) | assumption)
                        obtain ⟨ad179, e179, hx179_0, hx179_1⟩ := at_T161 HR0_4.out x4_3 p179 q179
                        cases e179
                        replace hx179_0 := (HB.out.cell (World.block_lt_of_cell? w _ hx179_0)).trans hx179_0
                        replace hx179_1 := (HB.out.cell (World.block_lt_of_cell? w _ hx179_1)).trans hx179_1
                        replace p179 := eq_true p179
                        replace q179 := eq_true q179
                        go_wp2_with (first | ((with_reducible refine gate_callee (f := 114) rfl ?_); refine goesL_ (some 93) rfl rfl Try.func114 (by kernel_rfl) rfl #[.int .i64 ((rd_T161 l0_4 x4_3).f0), .int .i64 255] rfl (by (try simp only [List.map_toArray, List.map_cons, List.map_nil]); first | done | rfl | (simp only [List.length_drop, List.length_take]; rfl)) ?_; (with_reducible refine (gaugerref06_in.calls ((rd_T161 l0_4 x4_3).f0) 255 false _ A36.out).mono ?_); rintro e w' ⟨rfl, ⟨nd, rfl⟩⟩; refine ⟨_, rfl, ?_⟩))
                        go_ret
                        exact ⟨by first | rfl | (simp [errW_none, errW_some] <;> rfl) | (simp [*, errW_none, errW_some] <;> rfl), by repeat (first | (with_reducible first | exact HB.out | apply below_alloc | apply pw_below_drewN | apply below_drew1 | refine below_set ?_ GE173.out) | exact HB.out)⟩
                    · rw [if_neg c35] at H
                      exact absurd H (by simp)
                  · rw [if_neg c34] at H
                    have c34b0 : decide (x4_3 < (l0_4.length : Int)) = false := decide_eq_false c34
                    clear c34
                    have H' := Aside0.mk H
                    clear H
                    have hcz42_0 : wr.cell? ⟨gb173, 0, none⟩ = some (.int .i64 a0_0) := (blk_cell BK173.out 0).trans rfl
                    have hcz42_1 : wr.cell? ⟨gb173, 1, none⟩ = some (.int .i64 a0_1) := (blk_cell BK173.out 1).trans rfl
                    have hcz42_2 : wr.cell? ⟨gb173, 2, none⟩ = some (.int .i64 a0_2) := (blk_cell BK173.out 2).trans rfl
                    have hcz42_3 : wr.cell? ⟨gb173, 3, none⟩ = some (.int .i64 a0_3) := (blk_cell BK173.out 3).trans rfl
                    have hcz42_4 : wr.cell? ⟨gb173, 4, none⟩ = some (.slice A0_4 l0_4.length c0_4) := (blk_cell BK173.out 4).trans rfl
                    have hcz42_5 : wr.cell? ⟨gb173, 5, none⟩ = some (.int .i64 a0_5) := (blk_cell BK173.out 5).trans rfl
                    have hcz42_6 : wr.cell? ⟨gb173, 6, none⟩ = some (.int .i64 a0_6) := (blk_cell BK173.out 6).trans rfl
                    have hcz42_7 : wr.cell? ⟨gb173, 7, none⟩ = some (.string a0_7) := (blk_cell BK173.out 7).trans rfl
                    have hcz42_8 : wr.cell? ⟨gb173, 8, none⟩ = some (.string a0_8) := (blk_cell BK173.out 8).trans rfl
                    have hcz42_9 : wr.cell? ⟨gb173, 9, none⟩ = some (.slice A0_9 l0_9.length c0_9) := (blk_cell BK173.out 9).trans rfl
                    have hcz42_10 : wr.cell? ⟨gb173, 10, none⟩ = some (.slice A0_10 l0_10.length c0_10) := (blk_cell BK173.out 10).trans rfl
                    have hfz42_0 := blk_frozen BK173.out 0
                    have hfz42_1 := blk_frozen BK173.out 1
                    have hfz42_2 := blk_frozen BK173.out 2
                    have hfz42_3 := blk_frozen BK173.out 3
                    have hfz42_4 := blk_frozen BK173.out 4
                    have hfz42_5 := blk_frozen BK173.out 5
                    have hfz42_6 := blk_frozen BK173.out 6
                    have hfz42_7 := blk_frozen BK173.out 7
                    have hfz42_8 := blk_frozen BK173.out 8
                    have hfz42_9 := blk_frozen BK173.out 9
                    have hfz42_10 := blk_frozen BK173.out 10
                    go_wp2
                    go_loopg [5] k3 (fun kq v5 w' => ∃ (x5_4 : Int), v5 = .int .i64 x5_4 ∧ Aside0 (gaugerref06_Good.l1 kq 2147483647 x5_4 a0_0 a0_1 a0_2 a0_3 l0_4 a0_5 a0_6 a0_7 a0_8 l0_9 l0_10 = some r) ∧ Aside0 (kq ≤ k3) ∧ Aside0 (w'.heap[gb173]? = some (.cells #[.int .i64 a0_0, .int .i64 a0_1, .int .i64 a0_2, .int .i64 a0_3, (.slice A0_4 l0_4.length c0_4), .int .i64 a0_5, .int .i64 a0_6, .string a0_7, .string a0_8, (.slice A0_9 l0_9.length c0_9), (.slice A0_10 l0_10.length c0_10)] 58 (0, 0))) ∧ Aside0 (Below w.heap.size w w'))
                    case atStart => exact ⟨(0), (by first | rfl | (simp; done) | (simp [*]; done)), H', ⟨Nat.le_refl _⟩, ⟨by (with_reducible repeat (first | refine blk_drewN ?_ _ | refine blk_drew ?_ | refine blk_alloc ?_ _)); exact BK173.out⟩, ⟨by repeat (first | (with_reducible first | exact HB.out | apply below_alloc | apply pw_below_drewN | apply below_drew1 | refine below_set ?_ GE173.out) | exact HB.out)⟩⟩
                    case round =>
                      clear H'
                      try clear c1
                      try clear p1
                      try clear q1
                      try clear hx1
                      try clear c2
                      try clear p2
                      try clear c3
                      try clear c4
                      try clear c4b0
                      try clear c5
                      try clear c6
                      try clear c6b0
                      try clear p6
                      try clear c9
                      try clear c11
                      try clear c13
                      try clear c14
                      try clear c14b0
                      try clear c14b1
                      try clear c16
                      try clear c16b0
                      try clear c16b1
                      try clear p17
                      try clear q17
                      try clear hx17
                      try clear p18
                      try clear q18
                      try clear hx18
                      try clear c22
                      try clear c25
                      try clear c27
                      try clear c28
                      try clear c28b0
                      try clear c28b1
                      try clear c33
                      try clear c34
                      try clear c34b0
                      try clear c35
                      try clear c35b0
                      try clear c37
                      try clear c38
                      try clear c38b0
                      try clear c38b1
                      try clear hcz15_0
                      try clear hcz15_1
                      try clear hcz15_10
                      try clear hcz15_2
                      try clear hcz15_3
                      try clear hcz15_4
                      try clear hcz15_5
                      try clear hcz15_6
                      try clear hcz15_7
                      try clear hcz15_8
                      try clear hcz15_9
                      try clear hcz17_0
                      try clear hcz17_1
                      try clear hcz17_10
                      try clear hcz17_2
                      try clear hcz17_3
                      try clear hcz17_4
                      try clear hcz17_5
                      try clear hcz17_6
                      try clear hcz17_7
                      try clear hcz17_8
                      try clear hcz17_9
                      try clear hcz18_0
                      try clear hcz18_1
                      try clear hcz18_10
                      try clear hcz18_2
                      try clear hcz18_3
                      try clear hcz18_4
                      try clear hcz18_5
                      try clear hcz18_6
                      try clear hcz18_7
                      try clear hcz18_8
                      try clear hcz18_9
                      try clear hcz19_0
                      try clear hcz19_1
                      try clear hcz19_10
                      try clear hcz19_2
                      try clear hcz19_3
                      try clear hcz19_4
                      try clear hcz19_5
                      try clear hcz19_6
                      try clear hcz19_7
                      try clear hcz19_8
                      try clear hcz19_9
                      try clear hcz20_0
                      try clear hcz20_1
                      try clear hcz20_10
                      try clear hcz20_2
                      try clear hcz20_3
                      try clear hcz20_4
                      try clear hcz20_5
                      try clear hcz20_6
                      try clear hcz20_7
                      try clear hcz20_8
                      try clear hcz20_9
                      try clear hcz21_0
                      try clear hcz21_1
                      try clear hcz21_10
                      try clear hcz21_2
                      try clear hcz21_3
                      try clear hcz21_4
                      try clear hcz21_5
                      try clear hcz21_6
                      try clear hcz21_7
                      try clear hcz21_8
                      try clear hcz21_9
                      try clear hcz29_0
                      try clear hcz29_1
                      try clear hcz29_10
                      try clear hcz29_2
                      try clear hcz29_3
                      try clear hcz29_4
                      try clear hcz29_5
                      try clear hcz29_6
                      try clear hcz29_7
                      try clear hcz29_8
                      try clear hcz29_9
                      try clear hcz30_0
                      try clear hcz30_1
                      try clear hcz30_10
                      try clear hcz30_2
                      try clear hcz30_3
                      try clear hcz30_4
                      try clear hcz30_5
                      try clear hcz30_6
                      try clear hcz30_7
                      try clear hcz30_8
                      try clear hcz30_9
                      try clear hcz31_0
                      try clear hcz31_1
                      try clear hcz31_10
                      try clear hcz31_2
                      try clear hcz31_3
                      try clear hcz31_4
                      try clear hcz31_5
                      try clear hcz31_6
                      try clear hcz31_7
                      try clear hcz31_8
                      try clear hcz31_9
                      try clear hcz32_0
                      try clear hcz32_1
                      try clear hcz32_10
                      try clear hcz32_2
                      try clear hcz32_3
                      try clear hcz32_4
                      try clear hcz32_5
                      try clear hcz32_6
                      try clear hcz32_7
                      try clear hcz32_8
                      try clear hcz32_9
                      try clear hcz39_0
                      try clear hcz39_1
                      try clear hcz39_10
                      try clear hcz39_2
                      try clear hcz39_3
                      try clear hcz39_4
                      try clear hcz39_5
                      try clear hcz39_6
                      try clear hcz39_7
                      try clear hcz39_8
                      try clear hcz39_9
                      try clear hcz40_0
                      try clear hcz40_1
                      try clear hcz40_10
                      try clear hcz40_2
                      try clear hcz40_3
                      try clear hcz40_4
                      try clear hcz40_5
                      try clear hcz40_6
                      try clear hcz40_7
                      try clear hcz40_8
                      try clear hcz40_9
                      try clear hcz41_0
                      try clear hcz41_1
                      try clear hcz41_10
                      try clear hcz41_2
                      try clear hcz41_3
                      try clear hcz41_4
                      try clear hcz41_5
                      try clear hcz41_6
                      try clear hcz41_7
                      try clear hcz41_8
                      try clear hcz41_9
                      try clear hcz42_0
                      try clear hcz42_1
                      try clear hcz42_10
                      try clear hcz42_2
                      try clear hcz42_3
                      try clear hcz42_4
                      try clear hcz42_5
                      try clear hcz42_6
                      try clear hcz42_7
                      try clear hcz42_8
                      try clear hcz42_9
                      try clear hcz5_0
                      try clear hcz5_1
                      try clear hcz5_10
                      try clear hcz5_2
                      try clear hcz5_3
                      try clear hcz5_4
                      try clear hcz5_5
                      try clear hcz5_6
                      try clear hcz5_7
                      try clear hcz5_8
                      try clear hcz5_9
                      try clear hcz7_0
                      try clear hcz7_1
                      try clear hcz7_10
                      try clear hcz7_2
                      try clear hcz7_3
                      try clear hcz7_4
                      try clear hcz7_5
                      try clear hcz7_6
                      try clear hcz7_7
                      try clear hcz7_8
                      try clear hcz7_9
                      try clear hfz15_0
                      try clear hfz15_1
                      try clear hfz15_10
                      try clear hfz15_2
                      try clear hfz15_3
                      try clear hfz15_4
                      try clear hfz15_5
                      try clear hfz15_6
                      try clear hfz15_7
                      try clear hfz15_8
                      try clear hfz15_9
                      try clear hfz17_0
                      try clear hfz17_1
                      try clear hfz17_10
                      try clear hfz17_2
                      try clear hfz17_3
                      try clear hfz17_4
                      try clear hfz17_5
                      try clear hfz17_6
                      try clear hfz17_7
                      try clear hfz17_8
                      try clear hfz17_9
                      try clear hfz18_0
                      try clear hfz18_1
                      try clear hfz18_10
                      try clear hfz18_2
                      try clear hfz18_3
                      try clear hfz18_4
                      try clear hfz18_5
                      try clear hfz18_6
                      try clear hfz18_7
                      try clear hfz18_8
                      try clear hfz18_9
                      try clear hfz19_0
                      try clear hfz19_1
                      try clear hfz19_10
                      try clear hfz19_2
                      try clear hfz19_3
                      try clear hfz19_4
                      try clear hfz19_5
                      try clear hfz19_6
                      try clear hfz19_7
                      try clear hfz19_8
                      try clear hfz19_9
                      try clear hfz20_0
                      try clear hfz20_1
                      try clear hfz20_10
                      try clear hfz20_2
                      try clear hfz20_3
                      try clear hfz20_4
                      try clear hfz20_5
                      try clear hfz20_6
                      try clear hfz20_7
                      try clear hfz20_8
                      try clear hfz20_9
                      try clear hfz21_0
                      try clear hfz21_1
                      try clear hfz21_10
                      try clear hfz21_2
                      try clear hfz21_3
                      try clear hfz21_4
                      try clear hfz21_5
                      try clear hfz21_6
                      try clear hfz21_7
                      try clear hfz21_8
                      try clear hfz21_9
                      try clear hfz29_0
                      try clear hfz29_1
                      try clear hfz29_10
                      try clear hfz29_2
                      try clear hfz29_3
                      try clear hfz29_4
                      try clear hfz29_5
                      try clear hfz29_6
                      try clear hfz29_7
                      try clear hfz29_8
                      try clear hfz29_9
                      try clear hfz30_0
                      try clear hfz30_1
                      try clear hfz30_10
                      try clear hfz30_2
                      try clear hfz30_3
                      try clear hfz30_4
                      try clear hfz30_5
                      try clear hfz30_6
                      try clear hfz30_7
                      try clear hfz30_8
                      try clear hfz30_9
                      try clear hfz31_0
                      try clear hfz31_1
                      try clear hfz31_10
                      try clear hfz31_2
                      try clear hfz31_3
                      try clear hfz31_4
                      try clear hfz31_5
                      try clear hfz31_6
                      try clear hfz31_7
                      try clear hfz31_8
                      try clear hfz31_9
                      try clear hfz32_0
                      try clear hfz32_1
                      try clear hfz32_10
                      try clear hfz32_2
                      try clear hfz32_3
                      try clear hfz32_4
                      try clear hfz32_5
                      try clear hfz32_6
                      try clear hfz32_7
                      try clear hfz32_8
                      try clear hfz32_9
                      try clear hfz39_0
                      try clear hfz39_1
                      try clear hfz39_10
                      try clear hfz39_2
                      try clear hfz39_3
                      try clear hfz39_4
                      try clear hfz39_5
                      try clear hfz39_6
                      try clear hfz39_7
                      try clear hfz39_8
                      try clear hfz39_9
                      try clear hfz40_0
                      try clear hfz40_1
                      try clear hfz40_10
                      try clear hfz40_2
                      try clear hfz40_3
                      try clear hfz40_4
                      try clear hfz40_5
                      try clear hfz40_6
                      try clear hfz40_7
                      try clear hfz40_8
                      try clear hfz40_9
                      try clear hfz41_0
                      try clear hfz41_1
                      try clear hfz41_10
                      try clear hfz41_2
                      try clear hfz41_3
                      try clear hfz41_4
                      try clear hfz41_5
                      try clear hfz41_6
                      try clear hfz41_7
                      try clear hfz41_8
                      try clear hfz41_9
                      try clear hfz42_0
                      try clear hfz42_1
                      try clear hfz42_10
                      try clear hfz42_2
                      try clear hfz42_3
                      try clear hfz42_4
                      try clear hfz42_5
                      try clear hfz42_6
                      try clear hfz42_7
                      try clear hfz42_8
                      try clear hfz42_9
                      try clear hfz5_0
                      try clear hfz5_1
                      try clear hfz5_10
                      try clear hfz5_2
                      try clear hfz5_3
                      try clear hfz5_4
                      try clear hfz5_5
                      try clear hfz5_6
                      try clear hfz5_7
                      try clear hfz5_8
                      try clear hfz5_9
                      try clear hfz7_0
                      try clear hfz7_1
                      try clear hfz7_10
                      try clear hfz7_2
                      try clear hfz7_3
                      try clear hfz7_4
                      try clear hfz7_5
                      try clear hfz7_6
                      try clear hfz7_7
                      try clear hfz7_8
                      try clear hfz7_9
                      try clear hx179_0
                      try clear hx179_1
                      try clear hx181_0
                      try clear hx181_1
                      try clear p179
                      try clear p181
                      try clear p2
                      try clear q179
                      try clear q181
                      obtain ⟨x5_4, rfl, HA, HK4, BK173, HB⟩ := hrel
                      cases gk with
                      | zero => exact absurd HA.out (by simp [gaugerref06_Good.l1])
                      | succ k4 =>
                        have H := HA.out
                        clear HA
                        simp only [gaugerref06_Good.l1] at H
                        by_cases c43 : x5_4 < (l0_9.length : Int)
                        · rw [if_pos c43] at H
                          have c43b0 : decide (x5_4 < (l0_9.length : Int)) = true := decide_eq_true c43
                          clear c43
                          by_cases c44 : 0 ≤ x5_4
                          · rw [if_pos c44] at H
                            have c44b0 : decide (0 ≤ x5_4) = true := decide_eq_true c44
                            clear c44
                            replace H := Option.bind_eq_some_iff.mp H
                            obtain ⟨t183, A450, H⟩ := H
                            replace H : (if t183 = true then ((gaugerref06_in.f ((rd_T163 l0_9 x5_4).f1) 2147483647).bind fun t185 => (if t185 = true then (gaugerref06_Good.l1 k4 2147483647 (wrap64 (x5_4 + 1)) a0_0 a0_1 a0_2 a0_3 l0_4 a0_5 a0_6 a0_7 a0_8 l0_9 l0_10) else (some false))) else (some false)) = some r := H
                            have A45 := Aside0.mk A450
                            clear A450
                            by_cases c46 : t183 = true
                            · subst c46
                              have H1 : ((gaugerref06_in.f ((rd_T163 l0_9 x5_4).f1) 2147483647).bind fun t185 => (if t185 = true then (gaugerref06_Good.l1 k4 2147483647 (wrap64 (x5_4 + 1)) a0_0 a0_1 a0_2 a0_3 l0_4 a0_5 a0_6 a0_7 a0_8 l0_9 l0_10) else (some false))) = some r := by rw [if_pos rfl] at H; exact H
                              clear H
                              have H := H1
                              clear H1
                              replace H := Option.bind_eq_some_iff.mp H
                              obtain ⟨t185, A470, H⟩ := H
                              replace H : (if t185 = true then (gaugerref06_Good.l1 k4 2147483647 (wrap64 (x5_4 + 1)) a0_0 a0_1 a0_2 a0_3 l0_4 a0_5 a0_6 a0_7 a0_8 l0_9 l0_10) else (some false)) = some r := H
                              have A47 := Aside0.mk A470
                              clear A470
                              by_cases c48 : t185 = true
                              · subst c48
                                have H1 : (gaugerref06_Good.l1 k4 2147483647 (wrap64 (x5_4 + 1)) a0_0 a0_1 a0_2 a0_3 l0_4 a0_5 a0_6 a0_7 a0_8 l0_9 l0_10) = some r := by rw [if_pos rfl] at H; exact H
                                clear H
                                have H := H1
                                clear H1
                                have H' := Aside0.mk H
                                clear H
                                have hcz49_0 : wr.cell? ⟨gb173, 0, none⟩ = some (.int .i64 a0_0) := (blk_cell BK173.out 0).trans rfl
                                have hcz49_1 : wr.cell? ⟨gb173, 1, none⟩ = some (.int .i64 a0_1) := (blk_cell BK173.out 1).trans rfl
                                have hcz49_2 : wr.cell? ⟨gb173, 2, none⟩ = some (.int .i64 a0_2) := (blk_cell BK173.out 2).trans rfl
                                have hcz49_3 : wr.cell? ⟨gb173, 3, none⟩ = some (.int .i64 a0_3) := (blk_cell BK173.out 3).trans rfl
                                have hcz49_4 : wr.cell? ⟨gb173, 4, none⟩ = some (.slice A0_4 l0_4.length c0_4) := (blk_cell BK173.out 4).trans rfl
                                have hcz49_5 : wr.cell? ⟨gb173, 5, none⟩ = some (.int .i64 a0_5) := (blk_cell BK173.out 5).trans rfl
                                have hcz49_6 : wr.cell? ⟨gb173, 6, none⟩ = some (.int .i64 a0_6) := (blk_cell BK173.out 6).trans rfl
                                have hcz49_7 : wr.cell? ⟨gb173, 7, none⟩ = some (.string a0_7) := (blk_cell BK173.out 7).trans rfl
                                have hcz49_8 : wr.cell? ⟨gb173, 8, none⟩ = some (.string a0_8) := (blk_cell BK173.out 8).trans rfl
                                have hcz49_9 : wr.cell? ⟨gb173, 9, none⟩ = some (.slice A0_9 l0_9.length c0_9) := (blk_cell BK173.out 9).trans rfl
                                have hcz49_10 : wr.cell? ⟨gb173, 10, none⟩ = some (.slice A0_10 l0_10.length c0_10) := (blk_cell BK173.out 10).trans rfl
                                have hfz49_0 := blk_frozen BK173.out 0
                                have hfz49_1 := blk_frozen BK173.out 1
                                have hfz49_2 := blk_frozen BK173.out 2
                                have hfz49_3 := blk_frozen BK173.out 3
                                have hfz49_4 := blk_frozen BK173.out 4
                                have hfz49_5 := blk_frozen BK173.out 5
                                have hfz49_6 := blk_frozen BK173.out 6
                                have hfz49_7 := blk_frozen BK173.out 7
                                have hfz49_8 := blk_frozen BK173.out 8
                                have hfz49_9 := blk_frozen BK173.out 9
                                have hfz49_10 := blk_frozen BK173.out 10
                                have p182 : 0 ≤ (x5_4 : Int) := of_decide_eq_true (by first | (with_reducible assumption) | assumption)
                                have q182 : x5_4 < (l0_9.length : Int) := of_decide_eq_true (by first | (with_reducible assumption) | assumption)
                                obtain ⟨ad182, e182, hx182_0, hx182_1⟩ := at_T163 HR0_9.out x5_4 p182 q182
                                cases e182
                                replace hx182_0 := (HB.out.cell (World.block_lt_of_cell? w _ hx182_0)).trans hx182_0
                                replace hx182_1 := (HB.out.cell (World.block_lt_of_cell? w _ hx182_1)).trans hx182_1
                                replace p182 := eq_true p182
                                replace q182 := eq_true q182
                                go_wp2_with (first | ((with_reducible refine gate_callee (f := 114) rfl ?_); refine goesL_ (some 119) rfl rfl Try.func114 (by kernel_rfl) rfl #[.int .i64 ((rd_T163 l0_9 x5_4).f0), .int .i64 2147483647] rfl (by (try simp only [List.map_toArray, List.map_cons, List.map_nil]); first | done | rfl | (simp only [List.length_drop, List.length_take]; rfl)) ?_; (with_reducible refine (gaugerref06_in.calls ((rd_T163 l0_9 x5_4).f0) 2147483647 true _ A45.out).mono ?_); rintro e w' ⟨rfl, ⟨nd, rfl⟩⟩; refine ⟨_, rfl, ?_⟩; have p184 : 0 ≤ (x5_4 : Int) := of_decide_eq_true (by first | (with_reducible assumption) | assumption); have q184 : x5_4 < (l0_9.length : Int) := of_decide_eq_true (by first | (with_reducible assumption) | assumption); obtain ⟨ad184, e184, hx184_0, hx184_1⟩ := at_T163 HR0_9.out x5_4 p184 q184; obtain rfl : ad182 = ad184 := (by injection e184); replace hx184_0 := (HB.out.cell (World.block_lt_of_cell? w _ hx184_0)).trans hx184_0; replace hx184_1 := (HB.out.cell (World.block_lt_of_cell? w _ hx184_1)).trans hx184_1; replace p184 := eq_true p184; replace q184 := eq_true q184) | (go_at_call 114; (with_reducible refine (gaugerref06_in.calls ((rd_T163 l0_9 x5_4).f1) 2147483647 true _ A47.out).mono ?_); rintro e w' ⟨rfl, ⟨nd, rfl⟩⟩))
                                go_roundg k4
                                case measure => have := HJ1.out; have := HJ22.out; have := HK3.out; have := HK4.out; omega
                                case rel => exact ⟨(wrap64 (x5_4 + 1)), (by first | rfl | (simp; done) | (simp [*]; done)), H', ⟨by have := HJ1.out; have := HJ22.out; have := HK3.out; have := HK4.out; omega⟩, ⟨by (with_reducible repeat (first | refine blk_drewN ?_ _ | refine blk_drew ?_ | refine blk_alloc ?_ _)); exact BK173.out⟩, ⟨by repeat (first | (with_reducible first | exact HB.out | apply below_alloc | apply pw_below_drewN | apply below_drew1 | refine below_set ?_ GE173.out) | exact HB.out)⟩⟩
                              · replace c48 := Bool.eq_false_iff.mpr c48
                                subst c48
                                have H1 : (some false) = some r := by rw [if_neg (show ¬ (false = true) by decide)] at H; exact H
                                clear H
                                have H := H1
                                clear H1
                                obtain rfl := Option.some.inj H
                                have hcz50_0 : wr.cell? ⟨gb173, 0, none⟩ = some (.int .i64 a0_0) := (blk_cell BK173.out 0).trans rfl
                                have hcz50_1 : wr.cell? ⟨gb173, 1, none⟩ = some (.int .i64 a0_1) := (blk_cell BK173.out 1).trans rfl
                                have hcz50_2 : wr.cell? ⟨gb173, 2, none⟩ = some (.int .i64 a0_2) := (blk_cell BK173.out 2).trans rfl
                                have hcz50_3 : wr.cell? ⟨gb173, 3, none⟩ = some (.int .i64 a0_3) := (blk_cell BK173.out 3).trans rfl
                                have hcz50_4 : wr.cell? ⟨gb173, 4, none⟩ = some (.slice A0_4 l0_4.length c0_4) := (blk_cell BK173.out 4).trans rfl
                                have hcz50_5 : wr.cell? ⟨gb173, 5, none⟩ = some (.int .i64 a0_5) := (blk_cell BK173.out 5).trans rfl
                                have hcz50_6 : wr.cell? ⟨gb173, 6, none⟩ = some (.int .i64 a0_6) := (blk_cell BK173.out 6).trans rfl
                                have hcz50_7 : wr.cell? ⟨gb173, 7, none⟩ = some (.string a0_7) := (blk_cell BK173.out 7).trans rfl
                                have hcz50_8 : wr.cell? ⟨gb173, 8, none⟩ = some (.string a0_8) := (blk_cell BK173.out 8).trans rfl
                                have hcz50_9 : wr.cell? ⟨gb173, 9, none⟩ = some (.slice A0_9 l0_9.length c0_9) := (blk_cell BK173.out 9).trans rfl
                                have hcz50_10 : wr.cell? ⟨gb173, 10, none⟩ = some (.slice A0_10 l0_10.length c0_10) := (blk_cell BK173.out 10).trans rfl
                                have hfz50_0 := blk_frozen BK173.out 0
                                have hfz50_1 := blk_frozen BK173.out 1
                                have hfz50_2 := blk_frozen BK173.out 2
                                have hfz50_3 := blk_frozen BK173.out 3
                                have hfz50_4 := blk_frozen BK173.out 4
                                have hfz50_5 := blk_frozen BK173.out 5
                                have hfz50_6 := blk_frozen BK173.out 6
                                have hfz50_7 := blk_frozen BK173.out 7
                                have hfz50_8 := blk_frozen BK173.out 8
                                have hfz50_9 := blk_frozen BK173.out 9
                                have hfz50_10 := blk_frozen BK173.out 10
                                have p182 : 0 ≤ (x5_4 : Int) := of_decide_eq_true (by first | (with_reducible assumption) | assumption)
                                have q182 : x5_4 < (l0_9.length : Int) := of_decide_eq_true (by first | (with_reducible assumption) | assumption)
                                obtain ⟨ad182, e182, hx182_0, hx182_1⟩ := at_T163 HR0_9.out x5_4 p182 q182
                                cases e182
                                replace hx182_0 := (HB.out.cell (World.block_lt_of_cell? w _ hx182_0)).trans hx182_0
                                replace hx182_1 := (HB.out.cell (World.block_lt_of_cell? w _ hx182_1)).trans hx182_1
                                replace p182 := eq_true p182
                                replace q182 := eq_true q182
                                go_wp2_with (first | ((with_reducible refine gate_callee (f := 114) rfl ?_); refine goesL_ (some 119) rfl rfl Try.func114 (by kernel_rfl) rfl #[.int .i64 ((rd_T163 l0_9 x5_4).f0), .int .i64 2147483647] rfl (by (try simp only [List.map_toArray, List.map_cons, List.map_nil]); first | done | rfl | (simp only [List.length_drop, List.length_take]; rfl)) ?_; (with_reducible refine (gaugerref06_in.calls ((rd_T163 l0_9 x5_4).f0) 2147483647 true _ A45.out).mono ?_); rintro e w' ⟨rfl, ⟨nd, rfl⟩⟩; refine ⟨_, rfl, ?_⟩; have p184 : 0 ≤ (x5_4 : Int) := of_decide_eq_true (by first | (with_reducible assumption) | assumption); have q184 : x5_4 < (l0_9.length : Int) := of_decide_eq_true (by first | (with_reducible assumption) | assumption); obtain ⟨ad184, e184, hx184_0, hx184_1⟩ := at_T163 HR0_9.out x5_4 p184 q184; obtain rfl : ad182 = ad184 := (by injection e184); replace hx184_0 := (HB.out.cell (World.block_lt_of_cell? w _ hx184_0)).trans hx184_0; replace hx184_1 := (HB.out.cell (World.block_lt_of_cell? w _ hx184_1)).trans hx184_1; replace p184 := eq_true p184; replace q184 := eq_true q184) | (go_at_call 114; (with_reducible refine (gaugerref06_in.calls ((rd_T163 l0_9 x5_4).f1) 2147483647 false _ A47.out).mono ?_); rintro e w' ⟨rfl, ⟨nd, rfl⟩⟩))
                                go_ret
                                exact ⟨by first | rfl | (simp [errW_none, errW_some] <;> rfl) | (simp [*, errW_none, errW_some] <;> rfl), by repeat (first | (with_reducible first | exact HB.out | apply below_alloc | apply pw_below_drewN | apply below_drew1 | refine below_set ?_ GE173.out) | exact HB.out)⟩
                            · replace c46 := Bool.eq_false_iff.mpr c46
                              subst c46
                              have H1 : (some false) = some r := by rw [if_neg (show ¬ (false = true) by decide)] at H; exact H
                              clear H
                              have H := H1
                              clear H1
                              obtain rfl := Option.some.inj H
                              have hcz51_0 : wr.cell? ⟨gb173, 0, none⟩ = some (.int .i64 a0_0) := (blk_cell BK173.out 0).trans rfl
                              have hcz51_1 : wr.cell? ⟨gb173, 1, none⟩ = some (.int .i64 a0_1) := (blk_cell BK173.out 1).trans rfl
                              have hcz51_2 : wr.cell? ⟨gb173, 2, none⟩ = some (.int .i64 a0_2) := (blk_cell BK173.out 2).trans rfl
                              have hcz51_3 : wr.cell? ⟨gb173, 3, none⟩ = some (.int .i64 a0_3) := (blk_cell BK173.out 3).trans rfl
                              have hcz51_4 : wr.cell? ⟨gb173, 4, none⟩ = some (.slice A0_4 l0_4.length c0_4) := (blk_cell BK173.out 4).trans rfl
                              have hcz51_5 : wr.cell? ⟨gb173, 5, none⟩ = some (.int .i64 a0_5) := (blk_cell BK173.out 5).trans rfl
                              have hcz51_6 : wr.cell? ⟨gb173, 6, none⟩ = some (.int .i64 a0_6) := (blk_cell BK173.out 6).trans rfl
                              have hcz51_7 : wr.cell? ⟨gb173, 7, none⟩ = some (.string a0_7) := (blk_cell BK173.out 7).trans rfl
                              have hcz51_8 : wr.cell? ⟨gb173, 8, none⟩ = some (.string a0_8) := (blk_cell BK173.out 8).trans rfl
                              have hcz51_9 : wr.cell? ⟨gb173, 9, none⟩ = some (.slice A0_9 l0_9.length c0_9) := (blk_cell BK173.out 9).trans rfl
                              have hcz51_10 : wr.cell? ⟨gb173, 10, none⟩ = some (.slice A0_10 l0_10.length c0_10) := (blk_cell BK173.out 10).trans rfl
                              have hfz51_0 := blk_frozen BK173.out 0
                              have hfz51_1 := blk_frozen BK173.out 1
                              have hfz51_2 := blk_frozen BK173.out 2
                              have hfz51_3 := blk_frozen BK173.out 3
                              have hfz51_4 := blk_frozen BK173.out 4
                              have hfz51_5 := blk_frozen BK173.out 5
                              have hfz51_6 := blk_frozen BK173.out 6
                              have hfz51_7 := blk_frozen BK173.out 7
                              have hfz51_8 := blk_frozen BK173.out 8
                              have hfz51_9 := blk_frozen BK173.out 9
                              have hfz51_10 := blk_frozen BK173.out 10
                              have p182 : 0 ≤ (x5_4 : Int) := of_decide_eq_true (by first | (with_reducible assumption) | assumption)
                              have q182 : x5_4 < (l0_9.length : Int) := of_decide_eq_true (by first | (with_reducible assumption) | assumption)
                              obtain ⟨ad182, e182, hx182_0, hx182_1⟩ := at_T163 HR0_9.out x5_4 p182 q182
                              cases e182
                              replace hx182_0 := (HB.out.cell (World.block_lt_of_cell? w _ hx182_0)).trans hx182_0
                              replace hx182_1 := (HB.out.cell (World.block_lt_of_cell? w _ hx182_1)).trans hx182_1
                              replace p182 := eq_true p182
                              replace q182 := eq_true q182
                              go_wp2_with (first | ((with_reducible refine gate_callee (f := 114) rfl ?_); refine goesL_ (some 119) rfl rfl Try.func114 (by kernel_rfl) rfl #[.int .i64 ((rd_T163 l0_9 x5_4).f0), .int .i64 2147483647] rfl (by (try simp only [List.map_toArray, List.map_cons, List.map_nil]); first | done | rfl | (simp only [List.length_drop, List.length_take]; rfl)) ?_; (with_reducible refine (gaugerref06_in.calls ((rd_T163 l0_9 x5_4).f0) 2147483647 false _ A45.out).mono ?_); rintro e w' ⟨rfl, ⟨nd, rfl⟩⟩; refine ⟨_, rfl, ?_⟩))
                              go_ret
                              exact ⟨by first | rfl | (simp [errW_none, errW_some] <;> rfl) | (simp [*, errW_none, errW_some] <;> rfl), by repeat (first | (with_reducible first | exact HB.out | apply below_alloc | apply pw_below_drewN | apply below_drew1 | refine below_set ?_ GE173.out) | exact HB.out)⟩
                          · rw [if_neg c44] at H
                            exact absurd H (by simp)
                        · rw [if_neg c43] at H
                          have c43b0 : decide (x5_4 < (l0_9.length : Int)) = false := decide_eq_false c43
                          clear c43
                          have H' := Aside0.mk H
                          clear H
                          have hcz52_0 : wr.cell? ⟨gb173, 0, none⟩ = some (.int .i64 a0_0) := (blk_cell BK173.out 0).trans rfl
                          have hcz52_1 : wr.cell? ⟨gb173, 1, none⟩ = some (.int .i64 a0_1) := (blk_cell BK173.out 1).trans rfl
                          have hcz52_2 : wr.cell? ⟨gb173, 2, none⟩ = some (.int .i64 a0_2) := (blk_cell BK173.out 2).trans rfl
                          have hcz52_3 : wr.cell? ⟨gb173, 3, none⟩ = some (.int .i64 a0_3) := (blk_cell BK173.out 3).trans rfl
                          have hcz52_4 : wr.cell? ⟨gb173, 4, none⟩ = some (.slice A0_4 l0_4.length c0_4) := (blk_cell BK173.out 4).trans rfl
                          have hcz52_5 : wr.cell? ⟨gb173, 5, none⟩ = some (.int .i64 a0_5) := (blk_cell BK173.out 5).trans rfl
                          have hcz52_6 : wr.cell? ⟨gb173, 6, none⟩ = some (.int .i64 a0_6) := (blk_cell BK173.out 6).trans rfl
                          have hcz52_7 : wr.cell? ⟨gb173, 7, none⟩ = some (.string a0_7) := (blk_cell BK173.out 7).trans rfl
                          have hcz52_8 : wr.cell? ⟨gb173, 8, none⟩ = some (.string a0_8) := (blk_cell BK173.out 8).trans rfl
                          have hcz52_9 : wr.cell? ⟨gb173, 9, none⟩ = some (.slice A0_9 l0_9.length c0_9) := (blk_cell BK173.out 9).trans rfl
                          have hcz52_10 : wr.cell? ⟨gb173, 10, none⟩ = some (.slice A0_10 l0_10.length c0_10) := (blk_cell BK173.out 10).trans rfl
                          have hfz52_0 := blk_frozen BK173.out 0
                          have hfz52_1 := blk_frozen BK173.out 1
                          have hfz52_2 := blk_frozen BK173.out 2
                          have hfz52_3 := blk_frozen BK173.out 3
                          have hfz52_4 := blk_frozen BK173.out 4
                          have hfz52_5 := blk_frozen BK173.out 5
                          have hfz52_6 := blk_frozen BK173.out 6
                          have hfz52_7 := blk_frozen BK173.out 7
                          have hfz52_8 := blk_frozen BK173.out 8
                          have hfz52_9 := blk_frozen BK173.out 9
                          have hfz52_10 := blk_frozen BK173.out 10
                          go_wp2
                          go_loopg [6] k4 (fun kq v6 w' => ∃ (x6_5 : Int), v6 = .int .i64 x6_5 ∧ Aside0 (gaugerref06_Good.l2 kq 2147483647 x6_5 a0_0 a0_1 a0_2 a0_3 l0_4 a0_5 a0_6 a0_7 a0_8 l0_9 l0_10 = some r) ∧ Aside0 (kq ≤ k4) ∧ Aside0 (w'.heap[gb173]? = some (.cells #[.int .i64 a0_0, .int .i64 a0_1, .int .i64 a0_2, .int .i64 a0_3, (.slice A0_4 l0_4.length c0_4), .int .i64 a0_5, .int .i64 a0_6, .string a0_7, .string a0_8, (.slice A0_9 l0_9.length c0_9), (.slice A0_10 l0_10.length c0_10)] 58 (0, 0))) ∧ Aside0 (Below w.heap.size w w'))
                          case atStart => exact ⟨(0), (by first | rfl | (simp; done) | (simp [*]; done)), H', ⟨Nat.le_refl _⟩, ⟨by (with_reducible repeat (first | refine blk_drewN ?_ _ | refine blk_drew ?_ | refine blk_alloc ?_ _)); exact BK173.out⟩, ⟨by repeat (first | (with_reducible first | exact HB.out | apply below_alloc | apply pw_below_drewN | apply below_drew1 | refine below_set ?_ GE173.out) | exact HB.out)⟩⟩
                          case round =>
                            clear H'
                            try clear c1
                            try clear p1
                            try clear q1
                            try clear hx1
                            try clear c2
                            try clear p2
                            try clear c3
                            try clear c4
                            try clear c4b0
                            try clear c5
                            try clear c6
                            try clear c6b0
                            try clear p6
                            try clear c9
                            try clear c11
                            try clear c13
                            try clear c14
                            try clear c14b0
                            try clear c14b1
                            try clear c16
                            try clear c16b0
                            try clear c16b1
                            try clear p17
                            try clear q17
                            try clear hx17
                            try clear p18
                            try clear q18
                            try clear hx18
                            try clear c22
                            try clear c25
                            try clear c27
                            try clear c28
                            try clear c28b0
                            try clear c28b1
                            try clear c33
                            try clear c34
                            try clear c34b0
                            try clear c35
                            try clear c35b0
                            try clear c37
                            try clear c38
                            try clear c38b0
                            try clear c38b1
                            try clear c43
                            try clear c43b0
                            try clear c44
                            try clear c44b0
                            try clear c46
                            try clear c48
                            try clear hcz15_0
                            try clear hcz15_1
                            try clear hcz15_10
                            try clear hcz15_2
                            try clear hcz15_3
                            try clear hcz15_4
                            try clear hcz15_5
                            try clear hcz15_6
                            try clear hcz15_7
                            try clear hcz15_8
                            try clear hcz15_9
                            try clear hcz17_0
                            try clear hcz17_1
                            try clear hcz17_10
                            try clear hcz17_2
                            try clear hcz17_3
                            try clear hcz17_4
                            try clear hcz17_5
                            try clear hcz17_6
                            try clear hcz17_7
                            try clear hcz17_8
                            try clear hcz17_9
                            try clear hcz18_0
                            try clear hcz18_1
                            try clear hcz18_10
                            try clear hcz18_2
                            try clear hcz18_3
                            try clear hcz18_4
                            try clear hcz18_5
                            try clear hcz18_6
                            try clear hcz18_7
                            try clear hcz18_8
                            try clear hcz18_9
                            try clear hcz19_0
                            try clear hcz19_1
                            try clear hcz19_10
                            try clear hcz19_2
                            try clear hcz19_3
                            try clear hcz19_4
                            try clear hcz19_5
                            try clear hcz19_6
                            try clear hcz19_7
                            try clear hcz19_8
                            try clear hcz19_9
                            try clear hcz20_0
                            try clear hcz20_1
                            try clear hcz20_10
                            try clear hcz20_2
                            try clear hcz20_3
                            try clear hcz20_4
                            try clear hcz20_5
                            try clear hcz20_6
                            try clear hcz20_7
                            try clear hcz20_8
                            try clear hcz20_9
                            try clear hcz21_0
                            try clear hcz21_1
                            try clear hcz21_10
                            try clear hcz21_2
                            try clear hcz21_3
                            try clear hcz21_4
                            try clear hcz21_5
                            try clear hcz21_6
                            try clear hcz21_7
                            try clear hcz21_8
                            try clear hcz21_9
                            try clear hcz29_0
                            try clear hcz29_1
                            try clear hcz29_10
                            try clear hcz29_2
                            try clear hcz29_3
                            try clear hcz29_4
                            try clear hcz29_5
                            try clear hcz29_6
                            try clear hcz29_7
                            try clear hcz29_8
                            try clear hcz29_9
                            try clear hcz30_0
                            try clear hcz30_1
                            try clear hcz30_10
                            try clear hcz30_2
                            try clear hcz30_3
                            try clear hcz30_4
                            try clear hcz30_5
                            try clear hcz30_6
                            try clear hcz30_7
                            try clear hcz30_8
                            try clear hcz30_9
                            try clear hcz31_0
                            try clear hcz31_1
                            try clear hcz31_10
                            try clear hcz31_2
                            try clear hcz31_3
                            try clear hcz31_4
                            try clear hcz31_5
                            try clear hcz31_6
                            try clear hcz31_7
                            try clear hcz31_8
                            try clear hcz31_9
                            try clear hcz32_0
                            try clear hcz32_1
                            try clear hcz32_10
                            try clear hcz32_2
                            try clear hcz32_3
                            try clear hcz32_4
                            try clear hcz32_5
                            try clear hcz32_6
                            try clear hcz32_7
                            try clear hcz32_8
                            try clear hcz32_9
                            try clear hcz39_0
                            try clear hcz39_1
                            try clear hcz39_10
                            try clear hcz39_2
                            try clear hcz39_3
                            try clear hcz39_4
                            try clear hcz39_5
                            try clear hcz39_6
                            try clear hcz39_7
                            try clear hcz39_8
                            try clear hcz39_9
                            try clear hcz40_0
                            try clear hcz40_1
                            try clear hcz40_10
                            try clear hcz40_2
                            try clear hcz40_3
                            try clear hcz40_4
                            try clear hcz40_5
                            try clear hcz40_6
                            try clear hcz40_7
                            try clear hcz40_8
                            try clear hcz40_9
                            try clear hcz41_0
                            try clear hcz41_1
                            try clear hcz41_10
                            try clear hcz41_2
                            try clear hcz41_3
                            try clear hcz41_4
                            try clear hcz41_5
                            try clear hcz41_6
                            try clear hcz41_7
                            try clear hcz41_8
                            try clear hcz41_9
                            try clear hcz42_0
                            try clear hcz42_1
                            try clear hcz42_10
                            try clear hcz42_2
                            try clear hcz42_3
                            try clear hcz42_4
                            try clear hcz42_5
                            try clear hcz42_6
                            try clear hcz42_7
                            try clear hcz42_8
                            try clear hcz42_9
                            try clear hcz49_0
                            try clear hcz49_1
                            try clear hcz49_10
                            try clear hcz49_2
                            try clear hcz49_3
                            try clear hcz49_4
                            try clear hcz49_5
                            try clear hcz49_6
                            try clear hcz49_7
                            try clear hcz49_8
                            try clear hcz49_9
                            try clear hcz50_0
                            try clear hcz50_1
                            try clear hcz50_10
                            try clear hcz50_2
                            try clear hcz50_3
                            try clear hcz50_4
                            try clear hcz50_5
                            try clear hcz50_6
                            try clear hcz50_7
                            try clear hcz50_8
                            try clear hcz50_9
                            try clear hcz51_0
                            try clear hcz51_1
                            try clear hcz51_10
                            try clear hcz51_2
                            try clear hcz51_3
                            try clear hcz51_4
                            try clear hcz51_5
                            try clear hcz51_6
                            try clear hcz51_7
                            try clear hcz51_8
                            try clear hcz51_9
                            try clear hcz52_0
                            try clear hcz52_1
                            try clear hcz52_10
                            try clear hcz52_2
                            try clear hcz52_3
                            try clear hcz52_4
                            try clear hcz52_5
                            try clear hcz52_6
                            try clear hcz52_7
                            try clear hcz52_8
                            try clear hcz52_9
                            try clear hcz5_0
                            try clear hcz5_1
                            try clear hcz5_10
                            try clear hcz5_2
                            try clear hcz5_3
                            try clear hcz5_4
                            try clear hcz5_5
                            try clear hcz5_6
                            try clear hcz5_7
                            try clear hcz5_8
                            try clear hcz5_9
                            try clear hcz7_0
                            try clear hcz7_1
                            try clear hcz7_10
                            try clear hcz7_2
                            try clear hcz7_3
                            try clear hcz7_4
                            try clear hcz7_5
                            try clear hcz7_6
                            try clear hcz7_7
                            try clear hcz7_8
                            try clear hcz7_9
                            try clear hfz15_0
                            try clear hfz15_1
                            try clear hfz15_10
                            try clear hfz15_2
                            try clear hfz15_3
                            try clear hfz15_4
                            try clear hfz15_5
                            try clear hfz15_6
                            try clear hfz15_7
                            try clear hfz15_8
                            try clear hfz15_9
                            try clear hfz17_0
                            try clear hfz17_1
                            try clear hfz17_10
                            try clear hfz17_2
                            try clear hfz17_3
                            try clear hfz17_4
                            try clear hfz17_5
                            try clear hfz17_6
                            try clear hfz17_7
                            try clear hfz17_8
                            try clear hfz17_9
                            try clear hfz18_0
                            try clear hfz18_1
                            try clear hfz18_10
                            try clear hfz18_2
                            try clear hfz18_3
                            try clear hfz18_4
                            try clear hfz18_5
                            try clear hfz18_6
                            try clear hfz18_7
                            try clear hfz18_8
                            try clear hfz18_9
                            try clear hfz19_0
                            try clear hfz19_1
                            try clear hfz19_10
                            try clear hfz19_2
                            try clear hfz19_3
                            try clear hfz19_4
                            try clear hfz19_5
                            try clear hfz19_6
                            try clear hfz19_7
                            try clear hfz19_8
                            try clear hfz19_9
                            try clear hfz20_0
                            try clear hfz20_1
                            try clear hfz20_10
                            try clear hfz20_2
                            try clear hfz20_3
                            try clear hfz20_4
                            try clear hfz20_5
                            try clear hfz20_6
                            try clear hfz20_7
                            try clear hfz20_8
                            try clear hfz20_9
                            try clear hfz21_0
                            try clear hfz21_1
                            try clear hfz21_10
                            try clear hfz21_2
                            try clear hfz21_3
                            try clear hfz21_4
                            try clear hfz21_5
                            try clear hfz21_6
                            try clear hfz21_7
                            try clear hfz21_8
                            try clear hfz21_9
                            try clear hfz29_0
                            try clear hfz29_1
                            try clear hfz29_10
                            try clear hfz29_2
                            try clear hfz29_3
                            try clear hfz29_4
                            try clear hfz29_5
                            try clear hfz29_6
                            try clear hfz29_7
                            try clear hfz29_8
                            try clear hfz29_9
                            try clear hfz30_0
                            try clear hfz30_1
                            try clear hfz30_10
                            try clear hfz30_2
                            try clear hfz30_3
                            try clear hfz30_4
                            try clear hfz30_5
                            try clear hfz30_6
                            try clear hfz30_7
                            try clear hfz30_8
                            try clear hfz30_9
                            try clear hfz31_0
                            try clear hfz31_1
                            try clear hfz31_10
                            try clear hfz31_2
                            try clear hfz31_3
                            try clear hfz31_4
                            try clear hfz31_5
                            try clear hfz31_6
                            try clear hfz31_7
                            try clear hfz31_8
                            try clear hfz31_9
                            try clear hfz32_0
                            try clear hfz32_1
                            try clear hfz32_10
                            try clear hfz32_2
                            try clear hfz32_3
                            try clear hfz32_4
                            try clear hfz32_5
                            try clear hfz32_6
                            try clear hfz32_7
                            try clear hfz32_8
                            try clear hfz32_9
                            try clear hfz39_0
                            try clear hfz39_1
                            try clear hfz39_10
                            try clear hfz39_2
                            try clear hfz39_3
                            try clear hfz39_4
                            try clear hfz39_5
                            try clear hfz39_6
                            try clear hfz39_7
                            try clear hfz39_8
                            try clear hfz39_9
                            try clear hfz40_0
                            try clear hfz40_1
                            try clear hfz40_10
                            try clear hfz40_2
                            try clear hfz40_3
                            try clear hfz40_4
                            try clear hfz40_5
                            try clear hfz40_6
                            try clear hfz40_7
                            try clear hfz40_8
                            try clear hfz40_9
                            try clear hfz41_0
                            try clear hfz41_1
                            try clear hfz41_10
                            try clear hfz41_2
                            try clear hfz41_3
                            try clear hfz41_4
                            try clear hfz41_5
                            try clear hfz41_6
                            try clear hfz41_7
                            try clear hfz41_8
                            try clear hfz41_9
                            try clear hfz42_0
                            try clear hfz42_1
                            try clear hfz42_10
                            try clear hfz42_2
                            try clear hfz42_3
                            try clear hfz42_4
                            try clear hfz42_5
                            try clear hfz42_6
                            try clear hfz42_7
                            try clear hfz42_8
                            try clear hfz42_9
                            try clear hfz49_0
                            try clear hfz49_1
                            try clear hfz49_10
                            try clear hfz49_2
                            try clear hfz49_3
                            try clear hfz49_4
                            try clear hfz49_5
                            try clear hfz49_6
                            try clear hfz49_7
                            try clear hfz49_8
                            try clear hfz49_9
                            try clear hfz50_0
                            try clear hfz50_1
                            try clear hfz50_10
                            try clear hfz50_2
                            try clear hfz50_3
                            try clear hfz50_4
                            try clear hfz50_5
                            try clear hfz50_6
                            try clear hfz50_7
                            try clear hfz50_8
                            try clear hfz50_9
                            try clear hfz51_0
                            try clear hfz51_1
                            try clear hfz51_10
                            try clear hfz51_2
                            try clear hfz51_3
                            try clear hfz51_4
                            try clear hfz51_5
                            try clear hfz51_6
                            try clear hfz51_7
                            try clear hfz51_8
                            try clear hfz51_9
                            try clear hfz52_0
                            try clear hfz52_1
                            try clear hfz52_10
                            try clear hfz52_2
                            try clear hfz52_3
                            try clear hfz52_4
                            try clear hfz52_5
                            try clear hfz52_6
                            try clear hfz52_7
                            try clear hfz52_8
                            try clear hfz52_9
                            try clear hfz5_0
                            try clear hfz5_1
                            try clear hfz5_10
                            try clear hfz5_2
                            try clear hfz5_3
                            try clear hfz5_4
                            try clear hfz5_5
                            try clear hfz5_6
                            try clear hfz5_7
                            try clear hfz5_8
                            try clear hfz5_9
                            try clear hfz7_0
                            try clear hfz7_1
                            try clear hfz7_10
                            try clear hfz7_2
                            try clear hfz7_3
                            try clear hfz7_4
                            try clear hfz7_5
                            try clear hfz7_6
                            try clear hfz7_7
                            try clear hfz7_8
                            try clear hfz7_9
                            try clear hx179_0
                            try clear hx179_1
                            try clear hx181_0
                            try clear hx181_1
                            try clear hx182_0
                            try clear hx182_1
                            try clear hx184_0
                            try clear hx184_1
                            try clear p1
                            try clear p17
                            try clear p179
                            try clear p18
                            try clear p181
                            try clear p182
                            try clear p184
                            try clear p2
                            try clear p6
                            try clear q1
                            try clear q17
                            try clear q179
                            try clear q18
                            try clear q181
                            try clear q182
                            try clear q184
                            obtain ⟨x6_5, rfl, HA, HK5, BK173, HB⟩ := hrel
                            cases gk with
                            | zero => exact absurd HA.out (by simp [gaugerref06_Good.l2])
                            | succ k5 =>
                              have H := HA.out
                              clear HA
                              simp only [gaugerref06_Good.l2] at H
                              by_cases c53 : x6_5 < (l0_10.length : Int)
                              · rw [if_pos c53] at H
                                have c53b0 : decide (x6_5 < (l0_10.length : Int)) = true := decide_eq_true c53
                                clear c53
                                by_cases c54 : 0 ≤ x6_5
                                · rw [if_pos c54] at H
                                  have c54b0 : decide (0 ≤ x6_5) = true := decide_eq_true c54
                                  clear c54
                                  replace H := Option.bind_eq_some_iff.mp H
                                  obtain ⟨t187, A550, H⟩ := H
                                  replace H : (if t187 = true then ((gaugerref06_in.f ((rd_T165 l0_10 x6_5).f1) 2147483647).bind fun t189 => (if t189 = true then (gaugerref06_Good.l2 k5 2147483647 (wrap64 (x6_5 + 1)) a0_0 a0_1 a0_2 a0_3 l0_4 a0_5 a0_6 a0_7 a0_8 l0_9 l0_10) else (some false))) else (some false)) = some r := H
                                  have A55 := Aside0.mk A550
                                  clear A550
                                  by_cases c56 : t187 = true
                                  · subst c56
                                    have H1 : ((gaugerref06_in.f ((rd_T165 l0_10 x6_5).f1) 2147483647).bind fun t189 => (if t189 = true then (gaugerref06_Good.l2 k5 2147483647 (wrap64 (x6_5 + 1)) a0_0 a0_1 a0_2 a0_3 l0_4 a0_5 a0_6 a0_7 a0_8 l0_9 l0_10) else (some false))) = some r := by rw [if_pos rfl] at H; exact H
                                    clear H
                                    have H := H1
                                    clear H1
                                    replace H := Option.bind_eq_some_iff.mp H
                                    obtain ⟨t189, A570, H⟩ := H
                                    replace H : (if t189 = true then (gaugerref06_Good.l2 k5 2147483647 (wrap64 (x6_5 + 1)) a0_0 a0_1 a0_2 a0_3 l0_4 a0_5 a0_6 a0_7 a0_8 l0_9 l0_10) else (some false)) = some r := H
                                    have A57 := Aside0.mk A570
                                    clear A570
                                    by_cases c58 : t189 = true
                                    · subst c58
                                      have H1 : (gaugerref06_Good.l2 k5 2147483647 (wrap64 (x6_5 + 1)) a0_0 a0_1 a0_2 a0_3 l0_4 a0_5 a0_6 a0_7 a0_8 l0_9 l0_10) = some r := by rw [if_pos rfl] at H; exact H
                                      clear H
                                      have H := H1
                                      clear H1
                                      have H' := Aside0.mk H
                                      clear H
                                      have hcz59_0 : wr.cell? ⟨gb173, 0, none⟩ = some (.int .i64 a0_0) := (blk_cell BK173.out 0).trans rfl
                                      have hcz59_1 : wr.cell? ⟨gb173, 1, none⟩ = some (.int .i64 a0_1) := (blk_cell BK173.out 1).trans rfl
                                      have hcz59_2 : wr.cell? ⟨gb173, 2, none⟩ = some (.int .i64 a0_2) := (blk_cell BK173.out 2).trans rfl
                                      have hcz59_3 : wr.cell? ⟨gb173, 3, none⟩ = some (.int .i64 a0_3) := (blk_cell BK173.out 3).trans rfl
                                      have hcz59_4 : wr.cell? ⟨gb173, 4, none⟩ = some (.slice A0_4 l0_4.length c0_4) := (blk_cell BK173.out 4).trans rfl
                                      have hcz59_5 : wr.cell? ⟨gb173, 5, none⟩ = some (.int .i64 a0_5) := (blk_cell BK173.out 5).trans rfl
                                      have hcz59_6 : wr.cell? ⟨gb173, 6, none⟩ = some (.int .i64 a0_6) := (blk_cell BK173.out 6).trans rfl
                                      have hcz59_7 : wr.cell? ⟨gb173, 7, none⟩ = some (.string a0_7) := (blk_cell BK173.out 7).trans rfl
                                      have hcz59_8 : wr.cell? ⟨gb173, 8, none⟩ = some (.string a0_8) := (blk_cell BK173.out 8).trans rfl
                                      have hcz59_9 : wr.cell? ⟨gb173, 9, none⟩ = some (.slice A0_9 l0_9.length c0_9) := (blk_cell BK173.out 9).trans rfl
                                      have hcz59_10 : wr.cell? ⟨gb173, 10, none⟩ = some (.slice A0_10 l0_10.length c0_10) := (blk_cell BK173.out 10).trans rfl
                                      have hfz59_0 := blk_frozen BK173.out 0
                                      have hfz59_1 := blk_frozen BK173.out 1
                                      have hfz59_2 := blk_frozen BK173.out 2
                                      have hfz59_3 := blk_frozen BK173.out 3
                                      have hfz59_4 := blk_frozen BK173.out 4
                                      have hfz59_5 := blk_frozen BK173.out 5
                                      have hfz59_6 := blk_frozen BK173.out 6
                                      have hfz59_7 := blk_frozen BK173.out 7
                                      have hfz59_8 := blk_frozen BK173.out 8
                                      have hfz59_9 := blk_frozen BK173.out 9
                                      have hfz59_10 := blk_frozen BK173.out 10
                                      have p186 : 0 ≤ (x6_5 : Int) := of_decide_eq_true (by first | (with_reducible assumption) | assumption)
                                      have q186 : x6_5 < (l0_10.length : Int) := of_decide_eq_true (by first | (with_reducible assumption) | assumption)
                                      obtain ⟨ad186, e186, hx186_0, hx186_1⟩ := at_T165 HR0_10.out x6_5 p186 q186
                                      cases e186
                                      replace hx186_0 := (HB.out.cell (World.block_lt_of_cell? w _ hx186_0)).trans hx186_0
                                      replace hx186_1 := (HB.out.cell (World.block_lt_of_cell? w _ hx186_1)).trans hx186_1
                                      replace p186 := eq_true p186
                                      replace q186 := eq_true q186
                                      go_wp2_with (first | ((with_reducible refine gate_callee (f := 114) rfl ?_); refine goesL_ (some 145) rfl rfl Try.func114 (by kernel_rfl) rfl #[.int .i64 ((rd_T165 l0_10 x6_5).f0), .int .i64 255] rfl (by (try simp only [List.map_toArray, List.map_cons, List.map_nil]); first | done | rfl | (simp only [List.length_drop, List.length_take]; rfl)) ?_; (with_reducible refine (gaugerref06_in.calls ((rd_T165 l0_10 x6_5).f0) 255 true _ A55.out).mono ?_); rintro e w' ⟨rfl, ⟨nd, rfl⟩⟩; refine ⟨_, rfl, ?_⟩; have p188 : 0 ≤ (x6_5 : Int) := of_decide_eq_true (by first | (with_reducible assumption) | assumption); have q188 : x6_5 < (l0_10.length : Int) := of_decide_eq_true (by first | (with_reducible assumption) | assumption); obtain ⟨ad188, e188, hx188_0, hx188_1⟩ := at_T165 HR0_10.out x6_5 p188 q188; obtain rfl : ad186 = ad188 := (by injection e188); replace hx188_0 := (HB.out.cell (World.block_lt_of_cell? w _ hx188_0)).trans hx188_0; replace hx188_1 := (HB.out.cell (World.block_lt_of_cell? w _ hx188_1)).trans hx188_1; replace p188 := eq_true p188; replace q188 := eq_true q188) | (go_at_call 114; (with_reducible refine (gaugerref06_in.calls ((rd_T165 l0_10 x6_5).f1) 2147483647 true _ A57.out).mono ?_); rintro e w' ⟨rfl, ⟨nd, rfl⟩⟩))
                                      go_roundg k5
                                      case measure => have := HJ1.out; have := HJ22.out; have := HK3.out; have := HK4.out; have := HK5.out; omega
                                      case rel => exact ⟨(wrap64 (x6_5 + 1)), (by first | rfl | (simp; done) | (simp [*]; done)), H', ⟨by have := HJ1.out; have := HJ22.out; have := HK3.out; have := HK4.out; have := HK5.out; omega⟩, ⟨by (with_reducible repeat (first | refine blk_drewN ?_ _ | refine blk_drew ?_ | refine blk_alloc ?_ _)); exact BK173.out⟩, ⟨by repeat (first | (with_reducible first | exact HB.out | apply below_alloc | apply pw_below_drewN | apply below_drew1 | refine below_set ?_ GE173.out) | exact HB.out)⟩⟩
                                    · replace c58 := Bool.eq_false_iff.mpr c58
                                      subst c58
                                      have H1 : (some false) = some r := by rw [if_neg (show ¬ (false = true) by decide)] at H; exact H
                                      clear H
                                      have H := H1
                                      clear H1
                                      obtain rfl := Option.some.inj H
                                      have hcz60_0 : wr.cell? ⟨gb173, 0, none⟩ = some (.int .i64 a0_0) := (blk_cell BK173.out 0).trans rfl
                                      have hcz60_1 : wr.cell? ⟨gb173, 1, none⟩ = some (.int .i64 a0_1) := (blk_cell BK173.out 1).trans rfl
                                      have hcz60_2 : wr.cell? ⟨gb173, 2, none⟩ = some (.int .i64 a0_2) := (blk_cell BK173.out 2).trans rfl
                                      have hcz60_3 : wr.cell? ⟨gb173, 3, none⟩ = some (.int .i64 a0_3) := (blk_cell BK173.out 3).trans rfl
                                      have hcz60_4 : wr.cell? ⟨gb173, 4, none⟩ = some (.slice A0_4 l0_4.length c0_4) := (blk_cell BK173.out 4).trans rfl
                                      have hcz60_5 : wr.cell? ⟨gb173, 5, none⟩ = some (.int .i64 a0_5) := (blk_cell BK173.out 5).trans rfl
                                      have hcz60_6 : wr.cell? ⟨gb173, 6, none⟩ = some (.int .i64 a0_6) := (blk_cell BK173.out 6).trans rfl
                                      have hcz60_7 : wr.cell? ⟨gb173, 7, none⟩ = some (.string a0_7) := (blk_cell BK173.out 7).trans rfl
                                      have hcz60_8 : wr.cell? ⟨gb173, 8, none⟩ = some (.string a0_8) := (blk_cell BK173.out 8).trans rfl
                                      have hcz60_9 : wr.cell? ⟨gb173, 9, none⟩ = some (.slice A0_9 l0_9.length c0_9) := (blk_cell BK173.out 9).trans rfl
                                      have hcz60_10 : wr.cell? ⟨gb173, 10, none⟩ = some (.slice A0_10 l0_10.length c0_10) := (blk_cell BK173.out 10).trans rfl
                                      have hfz60_0 := blk_frozen BK173.out 0
                                      have hfz60_1 := blk_frozen BK173.out 1
                                      have hfz60_2 := blk_frozen BK173.out 2
                                      have hfz60_3 := blk_frozen BK173.out 3
                                      have hfz60_4 := blk_frozen BK173.out 4
                                      have hfz60_5 := blk_frozen BK173.out 5
                                      have hfz60_6 := blk_frozen BK173.out 6
                                      have hfz60_7 := blk_frozen BK173.out 7
                                      have hfz60_8 := blk_frozen BK173.out 8
                                      have hfz60_9 := blk_frozen BK173.out 9
                                      have hfz60_10 := blk_frozen BK173.out 10
                                      have p186 : 0 ≤ (x6_5 : Int) := of_decide_eq_true (by first | (with_reducible assumption) | assumption)
                                      have q186 : x6_5 < (l0_10.length : Int) := of_decide_eq_true (by first | (with_reducible assumption) | assumption)
                                      obtain ⟨ad186, e186, hx186_0, hx186_1⟩ := at_T165 HR0_10.out x6_5 p186 q186
                                      cases e186
                                      replace hx186_0 := (HB.out.cell (World.block_lt_of_cell? w _ hx186_0)).trans hx186_0
                                      replace hx186_1 := (HB.out.cell (World.block_lt_of_cell? w _ hx186_1)).trans hx186_1
                                      replace p186 := eq_true p186
                                      replace q186 := eq_true q186
                                      go_wp2_with (first | ((with_reducible refine gate_callee (f := 114) rfl ?_); refine goesL_ (some 145) rfl rfl Try.func114 (by kernel_rfl) rfl #[.int .i64 ((rd_T165 l0_10 x6_5).f0), .int .i64 255] rfl (by (try simp only [List.map_toArray, List.map_cons, List.map_nil]); first | done | rfl | (simp only [List.length_drop, List.length_take]; rfl)) ?_; (with_reducible refine (gaugerref06_in.calls ((rd_T165 l0_10 x6_5).f0) 255 true _ A55.out).mono ?_); rintro e w' ⟨rfl, ⟨nd, rfl⟩⟩; refine ⟨_, rfl, ?_⟩; have p188 : 0 ≤ (x6_5 : Int) := of_decide_eq_true (by first | (with_reducible assumption) | assumption); have q188 : x6_5 < (l0_10.length : Int) := of_decide_eq_true (by first | (with_reducible assumption) | assumption); obtain ⟨ad188, e188, hx188_0, hx188_1⟩ := at_T165 HR0_10.out x6_5 p188 q188; obtain rfl : ad186 = ad188 := (by injection e188); replace hx188_0 := (HB.out.cell (World.block_lt_of_cell? w _ hx188_0)).trans hx188_0; replace hx188_1 := (HB.out.cell (World.block_lt_of_cell? w _ hx188_1)).trans hx188_1; replace p188 := eq_true p188; replace q188 := eq_true q188) | (go_at_call 114; (with_reducible refine (gaugerref06_in.calls ((rd_T165 l0_10 x6_5).f1) 2147483647 false _ A57.out).mono ?_); rintro e w' ⟨rfl, ⟨nd, rfl⟩⟩))
                                      go_ret
                                      exact ⟨by first | rfl | (simp [errW_none, errW_some] <;> rfl) | (simp [*, errW_none, errW_some] <;> rfl), by repeat (first | (with_reducible first | exact HB.out | apply below_alloc | apply pw_below_drewN | apply below_drew1 | refine below_set ?_ GE173.out) | exact HB.out)⟩
                                  · replace c56 := Bool.eq_false_iff.mpr c56
                                    subst c56
                                    have H1 : (some false) = some r := by rw [if_neg (show ¬ (false = true) by decide)] at H; exact H
                                    clear H
                                    have H := H1
                                    clear H1
                                    obtain rfl := Option.some.inj H
                                    have hcz61_0 : wr.cell? ⟨gb173, 0, none⟩ = some (.int .i64 a0_0) := (blk_cell BK173.out 0).trans rfl
                                    have hcz61_1 : wr.cell? ⟨gb173, 1, none⟩ = some (.int .i64 a0_1) := (blk_cell BK173.out 1).trans rfl
                                    have hcz61_2 : wr.cell? ⟨gb173, 2, none⟩ = some (.int .i64 a0_2) := (blk_cell BK173.out 2).trans rfl
                                    have hcz61_3 : wr.cell? ⟨gb173, 3, none⟩ = some (.int .i64 a0_3) := (blk_cell BK173.out 3).trans rfl
                                    have hcz61_4 : wr.cell? ⟨gb173, 4, none⟩ = some (.slice A0_4 l0_4.length c0_4) := (blk_cell BK173.out 4).trans rfl
                                    have hcz61_5 : wr.cell? ⟨gb173, 5, none⟩ = some (.int .i64 a0_5) := (blk_cell BK173.out 5).trans rfl
                                    have hcz61_6 : wr.cell? ⟨gb173, 6, none⟩ = some (.int .i64 a0_6) := (blk_cell BK173.out 6).trans rfl
                                    have hcz61_7 : wr.cell? ⟨gb173, 7, none⟩ = some (.string a0_7) := (blk_cell BK173.out 7).trans rfl
                                    have hcz61_8 : wr.cell? ⟨gb173, 8, none⟩ = some (.string a0_8) := (blk_cell BK173.out 8).trans rfl
                                    have hcz61_9 : wr.cell? ⟨gb173, 9, none⟩ = some (.slice A0_9 l0_9.length c0_9) := (blk_cell BK173.out 9).trans rfl
                                    have hcz61_10 : wr.cell? ⟨gb173, 10, none⟩ = some (.slice A0_10 l0_10.length c0_10) := (blk_cell BK173.out 10).trans rfl
                                    have hfz61_0 := blk_frozen BK173.out 0
                                    have hfz61_1 := blk_frozen BK173.out 1
                                    have hfz61_2 := blk_frozen BK173.out 2
                                    have hfz61_3 := blk_frozen BK173.out 3
                                    have hfz61_4 := blk_frozen BK173.out 4
                                    have hfz61_5 := blk_frozen BK173.out 5
                                    have hfz61_6 := blk_frozen BK173.out 6
                                    have hfz61_7 := blk_frozen BK173.out 7
                                    have hfz61_8 := blk_frozen BK173.out 8
                                    have hfz61_9 := blk_frozen BK173.out 9
                                    have hfz61_10 := blk_frozen BK173.out 10
                                    have p186 : 0 ≤ (x6_5 : Int) := of_decide_eq_true (by first | (with_reducible assumption) | assumption)
                                    have q186 : x6_5 < (l0_10.length : Int) := of_decide_eq_true (by first | (with_reducible assumption) | assumption)
                                    obtain ⟨ad186, e186, hx186_0, hx186_1⟩ := at_T165 HR0_10.out x6_5 p186 q186
                                    cases e186
                                    replace hx186_0 := (HB.out.cell (World.block_lt_of_cell? w _ hx186_0)).trans hx186_0
                                    replace hx186_1 := (HB.out.cell (World.block_lt_of_cell? w _ hx186_1)).trans hx186_1
                                    replace p186 := eq_true p186
                                    replace q186 := eq_true q186
                                    go_wp2_with (first | ((with_reducible refine gate_callee (f := 114) rfl ?_); refine goesL_ (some 145) rfl rfl Try.func114 (by kernel_rfl) rfl #[.int .i64 ((rd_T165 l0_10 x6_5).f0), .int .i64 255] rfl (by (try simp only [List.map_toArray, List.map_cons, List.map_nil]); first | done | rfl | (simp only [List.length_drop, List.length_take]; rfl)) ?_; (with_reducible refine (gaugerref06_in.calls ((rd_T165 l0_10 x6_5).f0) 255 false _ A55.out).mono ?_); rintro e w' ⟨rfl, ⟨nd, rfl⟩⟩; refine ⟨_, rfl, ?_⟩))
                                    go_ret
                                    exact ⟨by first | rfl | (simp [errW_none, errW_some] <;> rfl) | (simp [*, errW_none, errW_some] <;> rfl), by repeat (first | (with_reducible first | exact HB.out | apply below_alloc | apply pw_below_drewN | apply below_drew1 | refine below_set ?_ GE173.out) | exact HB.out)⟩
                                · rw [if_neg c54] at H
                                  exact absurd H (by simp)
                              · rw [if_neg c53] at H
                                have c53b0 : decide (x6_5 < (l0_10.length : Int)) = false := decide_eq_false c53
                                clear c53
                                obtain rfl := Option.some.inj H
                                have hcz62_0 : wr.cell? ⟨gb173, 0, none⟩ = some (.int .i64 a0_0) := (blk_cell BK173.out 0).trans rfl
                                have hcz62_1 : wr.cell? ⟨gb173, 1, none⟩ = some (.int .i64 a0_1) := (blk_cell BK173.out 1).trans rfl
                                have hcz62_2 : wr.cell? ⟨gb173, 2, none⟩ = some (.int .i64 a0_2) := (blk_cell BK173.out 2).trans rfl
                                have hcz62_3 : wr.cell? ⟨gb173, 3, none⟩ = some (.int .i64 a0_3) := (blk_cell BK173.out 3).trans rfl
                                have hcz62_4 : wr.cell? ⟨gb173, 4, none⟩ = some (.slice A0_4 l0_4.length c0_4) := (blk_cell BK173.out 4).trans rfl
                                have hcz62_5 : wr.cell? ⟨gb173, 5, none⟩ = some (.int .i64 a0_5) := (blk_cell BK173.out 5).trans rfl
                                have hcz62_6 : wr.cell? ⟨gb173, 6, none⟩ = some (.int .i64 a0_6) := (blk_cell BK173.out 6).trans rfl
                                have hcz62_7 : wr.cell? ⟨gb173, 7, none⟩ = some (.string a0_7) := (blk_cell BK173.out 7).trans rfl
                                have hcz62_8 : wr.cell? ⟨gb173, 8, none⟩ = some (.string a0_8) := (blk_cell BK173.out 8).trans rfl
                                have hcz62_9 : wr.cell? ⟨gb173, 9, none⟩ = some (.slice A0_9 l0_9.length c0_9) := (blk_cell BK173.out 9).trans rfl
                                have hcz62_10 : wr.cell? ⟨gb173, 10, none⟩ = some (.slice A0_10 l0_10.length c0_10) := (blk_cell BK173.out 10).trans rfl
                                have hfz62_0 := blk_frozen BK173.out 0
                                have hfz62_1 := blk_frozen BK173.out 1
                                have hfz62_2 := blk_frozen BK173.out 2
                                have hfz62_3 := blk_frozen BK173.out 3
                                have hfz62_4 := blk_frozen BK173.out 4
                                have hfz62_5 := blk_frozen BK173.out 5
                                have hfz62_6 := blk_frozen BK173.out 6
                                have hfz62_7 := blk_frozen BK173.out 7
                                have hfz62_8 := blk_frozen BK173.out 8
                                have hfz62_9 := blk_frozen BK173.out 9
                                have hfz62_10 := blk_frozen BK173.out 10
                                go_wp2
                                go_ret
                                exact ⟨by first | rfl | (simp [errW_none, errW_some] <;> rfl) | (simp [*, errW_none, errW_some] <;> rfl), by repeat (first | (with_reducible first | exact HB.out | apply below_alloc | apply pw_below_drewN | apply below_drew1 | refine below_set ?_ GE173.out) | exact HB.out)⟩

end Go.Proofs.Ytcfjooeagfollaa.PDiaryExact
