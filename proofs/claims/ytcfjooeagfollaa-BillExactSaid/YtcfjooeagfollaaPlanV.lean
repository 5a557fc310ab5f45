/- plan.isView, Good. -/
import Derived.Test.YtcfjooeagfollaaPlanG
namespace Go.Proofs.Ytcfjooeagfollaa.Plan
open Go.RowKit Go.Proofs.Ytcfjooeagfollaa.Mem Go.Proofs.Ytcfjooeagfollaa.Bytes Go.Proofs.Ytcfjooeagfollaa.Num Go.Proofs.Ytcfjooeagfollaa.Wide
set_option linter.unusedSimpArgs false
set_option linter.unusedVariables false
set_option maxRecDepth 20000

def sumOk (cols : List Int) (last s : Int) : Bool := !(decide (s ≤ last) || (decide ((cols.length : Int) ≤ s) || decide (cols.getD s.toNat 0 ≠ 1)))
def sumsOk (cols : List Int) : Int → List Int → Bool
  | _, [] => true
  | last, s :: r => sumOk cols last s && sumsOk cols s r
def noTb : Tb := ⟨none, 0, []⟩
def colsOf (tables : List Tb) (n : Int) : List Int := (tables.getD n.toNat noTb).cols
def okVw (tables : List Tb) (v : Vw) : Bool :=
  !(decide (v.table < 0) || (decide ((tables.length : Int) ≤ v.table) || decide (2 < v.sums.length))) && (sumsOk (colsOf tables v.table) (-1) v.sums && (decide (0 ≤ v.by_) && decide (v.by_ < ((colsOf tables v.table).length : Int))))

set_option maxHeartbeats 2000000 in
theorem isView_calls (v : Vw) (ts : List Tb) (ta : Option Addr) (tcap : Nat) (w : World) (hT : Ts w ta ts) (hS : Is w v.a v.sums) (hl : v.sums.length ≤ 9223372036854775807) (hf : ∀ s ∈ v.sums, -9223372036854775808 ≤ s ∧ s ≤ 9223372036854775807) :
    Calls Try.prog 93 #[.agg #[.int .i64 v.table, .int .i64 v.by_, .slice v.a v.sums.length v.cap], .slice ta ts.length tcap] w fun e w' => e = .returned (.bool (okVw ts v)) ∧ Below w.heap.size w w' := by
  obtain ⟨n, by_, a, cap, l⟩ := v
  simp only at hS hl hf ⊢
  have hX : Row (w.alloc (.cells #[.int .i64 n, .int .i64 by_, .slice a l.length cap] 137)) w.heap.size 137 [.int .i64 n, .int .i64 by_, .slice a l.length cap] := Wide.new_at rfl
  have hb : Below w.heap.size w (w.alloc (.cells #[.int .i64 n, .int .i64 by_, .slice a l.length cap] 137)) := (Below.refl _ _).alloc (Nat.le_refl _) _
  have x0 := hX.cell (i := 0) rfl
  have x1 := hX.cell (i := 1) rfl
  have x2 := hX.cell (i := 2) rfl
  have X := Lib.hid hX
  have HB := Lib.hid hb
  have TL := hT.len
  clear hX hb
  have hk : okVw ts ⟨n, by_, a, cap, l⟩ = (!(decide (n < 0) || (decide ((ts.length : Int) ≤ n) || decide (2 < l.length))) && (sumsOk (colsOf ts n) (-1) l && (decide (0 ≤ by_) && decide (by_ < ((colsOf ts n).length : Int))))) := rfl
  rw [hk]
  by_cases c1 : n < 0
  · have e : (!(decide (n < 0) || (decide ((ts.length : Int) ≤ n) || decide (2 < l.length))) && (sumsOk (colsOf ts n) (-1) l && (decide (0 ≤ by_) && decide (by_ < ((colsOf ts n).length : Int))))) = false := by simp [c1]
    rw [e]
    clear hk e
    go_enter Try.func93, Try.ntmps93
    go_wp2_with fail
    go_ret
    exact ⟨rfl, HB.out⟩
  by_cases c2 : (ts.length : Int) ≤ n
  · have e : (!(decide (n < 0) || (decide ((ts.length : Int) ≤ n) || decide (2 < l.length))) && (sumsOk (colsOf ts n) (-1) l && (decide (0 ≤ by_) && decide (by_ < ((colsOf ts n).length : Int))))) = false := by simp [c2]
    rw [e]
    clear hk e
    go_enter Try.func93, Try.ntmps93
    go_wp2_with fail
    go_ret
    exact ⟨rfl, HB.out⟩
  by_cases c3 : 2 < l.length
  · have e : (!(decide (n < 0) || (decide ((ts.length : Int) ≤ n) || decide (2 < l.length))) && (sumsOk (colsOf ts n) (-1) l && (decide (0 ≤ by_) && decide (by_ < ((colsOf ts n).length : Int))))) = false := by simp [c3]
    have c3' : (2 : Int) < (l.length : Int) := by omega
    have c2' : decide ((ts.length : Int) ≤ n) = false := by simp; omega
    rw [e]
    clear hk e
    go_enter Try.func93, Try.ntmps93
    go_wp2_with fail
    go_ret
    exact ⟨rfl, HB.out⟩
  have e : (!(decide (n < 0) || (decide ((ts.length : Int) ≤ n) || decide (2 < l.length))) && (sumsOk (colsOf ts n) (-1) l && (decide (0 ≤ by_) && decide (by_ < ((colsOf ts n).length : Int))))) = (sumsOk (colsOf ts n) (-1) l && (decide (0 ≤ by_) && decide (by_ < ((colsOf ts n).length : Int)))) := by
    rw [decide_eq_false c1, decide_eq_false c2, decide_eq_false c3]; rfl
  rw [e]
  obtain ⟨m, rfl⟩ := Int.eq_ofNat_of_zero_le (show 0 ≤ n by omega)
  have hm : m < ts.length := by omega
  have hm' : (m : Int) < (ts.length : Int) := by omega
  have hco : colsOf ts (m : Int) = ts[m].cols := by unfold colsOf; rw [Int.toNat_natCast, List.getD_eq_getElem?_getD, List.getElem?_eq_getElem hm]; rfl
  rw [hco]
  obtain ⟨ad, rfl, hlb, hz⟩ := hT.row.all hm
  obtain ⟨hI, hcl⟩ := hT.cols _ (List.getElem_mem hm)
  generalize ts[m] = tb at *
  obtain ⟨ca, ccap, cols⟩ := tb
  simp only at hI hcl hz
  have z0 := (hz _ HB.out).1 _ rfl
  rw [Nat.mul_one] at z0
  have CI := Lib.hid (hI.keep HB.out)
  have SI := Lib.hid (hS.keep HB.out)
  have HF := Lib.hid hf
  clear hz hI hS hk e hco c1 c2 hT hf
  have c3' : ¬ (2 : Int) < (l.length : Int) := by omega
  have c2' : ¬ (ts.length : Int) ≤ (m : Int) := by omega
  go_enter Try.func93, Try.ntmps93
  go_wp2_with fail
  have bW : Below (w.alloc (.cells #[.int .i64 (m : Int), .int .i64 by_, .slice a l.length cap] 137)).heap.size (w.alloc (.cells #[.int .i64 (m : Int), .int .i64 by_, .slice a l.length cap] 137)) (w.alloc (.cells #[.int .i64 (m : Int), .int .i64 by_, .slice a l.length cap] 137)) := Below.refl _ _
  have BW := Lib.hid bW
  clear bW
  go_loop [6, 34] (fun last i => ∃ (k : Nat) (z : Int), k ≤ l.length ∧ i = .int .i64 k ∧ last = .int .i64 z ∧ -1 ≤ z ∧ sumsOk cols (-1) l = sumsOk cols z (l.drop k)) (fun _ i => l.length - (intOf i).toNat)
  case atStart => exact ⟨0, -1, by omega, rfl, rfl, by omega, by rw [List.drop_zero]⟩
  case round =>
    obtain ⟨k, z, hk, rfl, rfl, hz1, hI⟩ := hrel
    have I := Lib.hid hI
    clear hI
    by_cases hlt : k < l.length
    · have hlt' : (k : Int) < (l.length : Int) := by omega
      obtain ⟨sd, rfl, hlb2, hs0, _⟩ := SI.out.at hlt BW.out
      have hd : l.drop k = l[k] :: l.drop (k + 1) := List.drop_eq_getElem_cons hlt
      have hsf := HF.out _ (List.getElem_mem hlt)
      generalize l[k] = s at *
      have u0 := hs0 _ rfl
      rw [Nat.mul_one] at u0
      have I2 := Lib.hid (show sumsOk cols (-1) l = (sumOk cols z s && sumsOk cols s (l.drop (k + 1))) by rw [I.out, hd]; rfl)
      have hsk : sumOk cols z s = !(decide (s ≤ z) || (decide ((cols.length : Int) ≤ s) || decide (cols.getD s.toNat 0 ≠ 1))) := rfl
      clear hs0 hd
      by_cases d1 : s ≤ z
      · have hz2 : sumOk cols z s = false := by rw [hsk]; simp [d1]
        rw [hz2] at I2
        clear hsk hz2
        go_wp2_with fail
        go_ret
        exact ⟨by rw [I2.out]; rfl, HB.out⟩
      by_cases d2 : (cols.length : Int) ≤ s
      · have hz2 : sumOk cols z s = false := by rw [hsk]; simp [d2]
        rw [hz2] at I2
        clear hsk hz2
        go_wp2_with fail
        go_ret
        exact ⟨by rw [I2.out]; rfl, HB.out⟩
      obtain ⟨j, rfl⟩ := Int.eq_ofNat_of_zero_le (show 0 ≤ s by omega)
      have hj : j < cols.length := by omega
      have hj' : (j : Int) < (cols.length : Int) := by omega
      obtain ⟨cd, rfl, hlb3, hc0, _⟩ := CI.out.at hj BW.out
      have hcg : cols.getD j 0 = cols[j] := by rw [List.getD_eq_getElem?_getD, List.getElem?_eq_getElem hj]; rfl
      rw [Int.toNat_natCast, hcg] at hsk
      generalize cols[j] = c at *
      have v0 := hc0 _ rfl
      rw [Nat.mul_one] at v0
      have d1' : decide ((j : Int) ≤ z) = false := by simp; omega
      have d2' : decide ((cols.length : Int) ≤ (j : Int)) = false := by simp; omega
      clear hc0 hcg d2
      by_cases d3 : c = 1
      · subst d3
        have hz2 : sumOk cols z (j : Int) = true := by rw [hsk, d1', d2']; rfl
        rw [hz2, Bool.true_and] at I2
        clear hsk hz2
        go_wp2_with fail
        exact ⟨⟨k + 1, j, by omega, by go_num, rfl, by omega, I2.out⟩, by simp [intOf]; omega⟩
      · have d3' : (c != 1) = true := by simpa using d3
        have hz2 : sumOk cols z (j : Int) = false := by rw [hsk]; simp [d3]
        rw [hz2] at I2
        clear hsk hz2 d3
        go_wp2_with fail
        go_ret
        exact ⟨by rw [I2.out]; rfl, HB.out⟩
    · obtain rfl : k = l.length := by omega
      have hI3 : sumsOk cols (-1) l = true := by rw [I.out, List.drop_length]; rfl
      rw [hI3]
      by_cases d1 : 0 ≤ by_
      · go_wp2_with fail
        go_ret
        exact ⟨by simp [d1], HB.out⟩
      · have d1' : decide (0 ≤ by_) = false := by simp; omega
        go_wp2_with fail
        go_ret
        exact ⟨by simp [d1'], HB.out⟩
end Go.Proofs.Ytcfjooeagfollaa.Plan
