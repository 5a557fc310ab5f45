/- The order of bytes; gaugerref01.Texts. Printed by ord.py -/
import Derived.Test.YtcfjooeagfollaaProg
import Derived.Test.YtcfjooeagfollaaChg
import Derived.Test.YtcfjooeagfollaaAgg
import Derived.WalkKit
import Derived.KernelRfl
import Derived.IntWalk
import Derived.RegionTactic
import Derived.Deep.QuietTactic
import Derived.BigQuiet
import Derived.Outline
import Derived.LoopTactic
import Derived.Lib.Hide
namespace Go.Proofs.Ytcfjooeagfollaa.Ord
open Go.RowKit Go.Proofs.Ytcfjooeagfollaa.Mem Go.Proofs.Ytcfjooeagfollaa.Bytes
set_option linter.unusedSimpArgs false
set_option linter.unusedVariables false
set_option maxRecDepth 20000

def cmpB : List UInt8 → List UInt8 → Int
  | [], [] => 0
  | [], _ :: _ => -1
  | _ :: _, [] => 1
  | a :: r, b :: s => if a < b then -1 else if b < a then 1 else cmpB r s
theorem cmpB_cons (a b : UInt8) (r s : List UInt8) : cmpB (a :: r) (b :: s) = if a < b then -1 else if b < a then 1 else cmpB r s := by rw [cmpB]
theorem cmpB_self : ∀ l, cmpB l l = 0
  | [] => by rw [cmpB]
  | a :: r => by rw [cmpB_cons, if_neg (UInt8.lt_irrefl a), if_neg (UInt8.lt_irrefl a), cmpB_self r]
theorem cmpB_swap : ∀ a b, cmpB b a = - cmpB a b
  | [], [] => by simp [cmpB]
  | [], _ :: _ => by simp [cmpB]
  | _ :: _, [] => by simp [cmpB]
  | a :: r, b :: s => by
    have ih := cmpB_swap r s
    rw [cmpB_cons, cmpB_cons]
    by_cases h : a < b
    · have h2 : ¬ b < a := fun h2 => by rw [UInt8.lt_iff_toNat_lt] at h h2; omega
      rw [if_neg h2, if_pos h, if_pos h]; rfl
    · by_cases h2 : b < a
      · rw [if_pos h2, if_neg h, if_pos h2]
      · rw [if_neg h2, if_neg h, if_neg h, if_neg h2, ih]
theorem cmpB_zero : ∀ {a b}, cmpB a b = 0 → a = b
  | [], [], _ => rfl
  | [], _ :: _, h => by simp [cmpB] at h
  | _ :: _, [], h => by simp [cmpB] at h
  | a :: r, b :: s, h => by
    rw [cmpB_cons] at h
    by_cases h1 : a < b
    · rw [if_pos h1] at h; omega
    · by_cases h2 : b < a
      · rw [if_neg h1, if_pos h2] at h; omega
      · rw [if_neg h1, if_neg h2] at h
        rw [cmpB_zero h]
        have : a = b := by
          rw [UInt8.lt_iff_toNat_lt] at h1 h2
          exact UInt8.toNat_inj.1 (by omega)
        rw [this]
theorem cmpB_three : ∀ a b, cmpB a b = -1 ∨ cmpB a b = 0 ∨ cmpB a b = 1
  | [], [] => by simp [cmpB]
  | [], _ :: _ => by simp [cmpB]
  | _ :: _, [] => by simp [cmpB]
  | a :: r, b :: s => by
    rw [cmpB_cons]
    split
    · exact .inl rfl
    · split
      · exact .inr (.inr rfl)
      · exact cmpB_three r s
theorem less_eq : ∀ a b, Op.bytesLess a b = decide (cmpB a b = -1)
  | [], [] => by simp [Op.bytesLess, cmpB]
  | [], _ :: _ => by simp [Op.bytesLess, cmpB]
  | _ :: _, [] => by simp [Op.bytesLess, cmpB]
  | a :: r, b :: s => by
    have ih := less_eq r s
    rw [cmpB_cons]
    show (decide (a < b) || (a == b && Op.bytesLess r s)) = _
    by_cases h : a < b
    · simp [h]
    · by_cases h2 : b < a
      · have h3 : ¬ a = b := fun h3 => by subst h3; exact UInt8.lt_irrefl _ h2
        simp [h, h2, h3]
      · have h3 : a = b := by
          rw [UInt8.lt_iff_toNat_lt] at h h2
          exact UInt8.toNat_inj.1 (by omega)
        subst h3
        simp [h, ih]
theorem less_of (x y : ByteArray) : Op.bytesLess x.toList y.toList = decide (cmpB x.data.toList y.data.toList = -1) := by
  rw [less_eq, ByteArray.toList_eq, ByteArray.toList_eq]
theorem same_of (x y : ByteArray) : (x.toList == y.toList) = decide (cmpB x.data.toList y.data.toList = 0) := by
  rw [ByteArray.toList_eq, ByteArray.toList_eq]
  by_cases h : x.data.toList = y.data.toList
  · rw [h, cmpB_self]; simp
  · have : ¬ cmpB x.data.toList y.data.toList = 0 := fun e => h (cmpB_zero e)
    rw [beq_eq_false_iff_ne.2 h]; simp [this]

theorem texts_step {x y : ByteArray} {k : Nat} (h1 : k < x.size) (h2 : k < y.size) : cmpB (x.data.toList.drop k) (y.data.toList.drop k) = if x[k].toNat < y[k].toNat then -1 else if y[k].toNat < x[k].toNat then 1 else cmpB (x.data.toList.drop (k + 1)) (y.data.toList.drop (k + 1)) := by
  rw [List.drop_eq_getElem_cons (l := x.data.toList) (i := k) h1, List.drop_eq_getElem_cons (l := y.data.toList) (i := k) h2, cmpB_cons]
  rfl
set_option maxHeartbeats 1000000 in
theorem texts_calls (x y : ByteArray) (w : World) (hx : x.size ≤ 1000) (hy : y.size ≤ 1000) : Calls Try.prog 39 #[.string x, .string y] w fun e w' => e = .returned (.int .i64 (cmpB x.data.toList y.data.toList)) ∧ Below w.heap.size w w' := by
  have lx : x.data.toList.length = x.size := rfl
  have ly : y.data.toList.length = y.size := rfl
  obtain ⟨r, hr⟩ : ∃ r, r = cmpB x.data.toList y.data.toList := ⟨_, rfl⟩
  rw [← hr]
  go_enter Try.func39, Try.ntmps39
  go_wp2_with fail
  go_loopw [5] (fun i wr => ∃ k : Nat, k ≤ x.size ∧ k ≤ y.size ∧ i = .int .i64 k ∧ Below w.heap.size w wr ∧ cmpB (x.data.toList.drop k) (y.data.toList.drop k) = r) (fun i _ => x.size - (intOf i).toNat)
  case atStart => exact ⟨0, by omega, by omega, rfl, Below.refl _ _, hr.symm⟩
  case round =>
    clear hr
    obtain ⟨k, hk, hk2, rfl, hb, ho⟩ := hrel
    by_cases h1 : k < x.size
    · by_cases h2 : k < y.size
      · rw [texts_step h1 h2] at ho
        have h1' : (k : Int) < x.size := by omega
        have h2' : (k : Int) < y.size := by omega
        by_cases c1 : x[k].toNat < y[k].toNat
        · rw [if_pos c1] at ho
          have c1' : decide (x[k].toNat < y[k].toNat) = true := by simpa using c1
          subst ho
          go_wp2_with fail
          go_region
          go_wp2_with fail
          go_ret
          exact ⟨rfl, hb.drew⟩
        · rw [if_neg c1] at ho
          have c1' : decide (x[k].toNat < y[k].toNat) = false := by simpa using c1
          by_cases c2 : y[k].toNat < x[k].toNat
          · rw [if_pos c2] at ho
            have c2' : decide (y[k].toNat < x[k].toNat) = true := by simpa using c2
            subst ho
            go_wp2_with fail
            go_region
            go_wp2_with fail
            go_region
            go_wp2_with fail
            go_ret
            exact ⟨rfl, hb.drew.drew⟩
          · rw [if_neg c2] at ho
            have c2' : decide (y[k].toNat < x[k].toNat) = false := by simpa using c2
            have HO := Lib.hid ho
            clear ho
            go_wp2_with fail
            go_region
            go_wp2_with fail
            go_region
            go_wp2_with fail
            exact ⟨⟨k + 1, by omega, by omega, by go_num, hb.drew.drew, HO.out⟩, by simp [intOf]; omega⟩
      · obtain rfl : k = y.size := by omega
        have h1' : (y.size : Int) < x.size := by omega
        have h2' : ¬ (x.size : Int) < y.size := by omega
        have ho' : r = 1 := by
          rw [← ho, List.drop_of_length_le (l := y.data.toList) (by omega), List.drop_eq_getElem_cons (l := x.data.toList) (by omega)]
          rfl
        subst ho'
        clear ho
        go_wp2_with fail
        go_ret
        exact ⟨rfl, hb⟩
    · obtain rfl : k = x.size := by omega
      have h1' : ¬ (x.size : Int) < x.size := by omega
      by_cases h2 : x.size < y.size
      · have h2' : (x.size : Int) < y.size := by omega
        have ho' : r = -1 := by
          rw [← ho, List.drop_of_length_le (l := x.data.toList) (by omega), List.drop_eq_getElem_cons (l := y.data.toList) (by omega)]
          rfl
        subst ho'
        clear ho
        go_wp2_with fail
        go_ret
        exact ⟨rfl, hb⟩
      · have h2' : ¬ (x.size : Int) < y.size := by omega
        have h3' : ¬ (x.size : Int) > y.size := by omega
        have ho' : r = 0 := by
          rw [← ho, List.drop_of_length_le (l := x.data.toList) (by omega), List.drop_of_length_le (l := y.data.toList) (by omega)]
          rfl
        subst ho'
        clear ho
        go_wp2_with fail
        go_ret
        exact ⟨rfl, hb⟩
end Go.Proofs.Ytcfjooeagfollaa.Ord
