/- node.isEntry, Covers, Size. -/
import Derived.Test.YtcfjooeagfollaaNodeDef
import Derived.Deep.RegionHeld3
namespace Go.Proofs.Ytcfjooeagfollaa.Node
open Go.RowKit Go.Proofs.Ytcfjooeagfollaa.Mem Go.Proofs.Ytcfjooeagfollaa.Bytes Go.Proofs.Ytcfjooeagfollaa.Ord
set_option linter.unusedSimpArgs false
set_option linter.unusedVariables false
set_option maxRecDepth 20000

theorem new_at {w : World} {b : Nat} {e : TypeId} {cs : List Value} (h : b = w.heap.size) : Row (w.alloc (.cells cs.toArray e)) b e cs := h ▸ Row.new w e cs
theorem below_step {B : Nat} {w0 w w' : World} (h : Below B w0 w) (k : Below w.heap.size w w') (hB : B ≤ w0.heap.size) : Below B w0 w' := h.trans (k.mono (Nat.le_trans hB h.size))
theorem below_step' {B : Nat} {w0 w w' : World} (h : Below B w0 w) (k : Below w.drew.heap.size w.drew w') (hB : B ≤ w0.heap.size) : Below B w0 w' := h.trans (below_of_drew (k.mono (Nat.le_trans hB h.size)))

set_option maxHeartbeats 1000000 in
theorem isEntry_calls (e : Ent) (level : Int) (w : World) : Calls Try.prog 148 #[.agg #[.string e.key, .string e.val, .bool e.ghost], .int .i64 level] w fun x w' => x = .returned (.bool (entGood e level)) ∧ Below w.heap.size w w' := by
  obtain ⟨key, val, g⟩ := e
  have hX : Row (w.alloc (.cells #[.string key, .string val, .bool g] 70)) w.heap.size 70 [.string key, .string val, .bool g] := new_at rfl
  have hb : Below w.heap.size w (w.alloc (.cells #[.string key, .string val, .bool g] 70)) := (Below.refl _ _).alloc (Nat.le_refl _) _
  have x0 := hX.cell (i := 0) rfl
  have x1 := hX.cell (i := 1) rfl
  have x2 := hX.cell (i := 2) rfl
  by_cases hl : 0 < level
  · by_cases hv : val.size = 2
    · cases g
      · have hd : ((val.size : Int) != 2) = false := by simp; omega
        have hr : entGood ⟨key, val, false⟩ level = ((key.size == 9) && decide (val.size ≤ 100)) := by simp [entGood, hv]
        rw [hr]
        by_cases hk : key.size = 9
        · have hk' : ((key.size : Int) == 9) = true := by simp; omega
          rw [show ((key.size == 9) && decide (val.size ≤ 100)) = decide ((val.size : Int) ≤ 100) by rw [hk]; exact decide_eq_decide.2 (by omega)]
          go_enter Try.func148, Try.ntmps148
          go_wp2_with fail
          go_ret
          exact ⟨by first | rfl | (simp; done) | (simp; omega), hb⟩
        · have hk' : ((key.size : Int) == 9) = false := by simp; omega
          rw [show ((key.size == 9) && decide (val.size ≤ 100)) = false by simp [hk]]
          go_enter Try.func148, Try.ntmps148
          go_wp2_with fail
          go_ret
          exact ⟨rfl, hb⟩
      · have hr : entGood ⟨key, val, true⟩ level = false := by simp [entGood, hl]
        rw [hr]
        have hd : ((val.size : Int) != 2) = false := by simp; omega
        go_enter Try.func148, Try.ntmps148
        go_wp2_with fail
        go_ret
        exact ⟨rfl, hb⟩
    · have hr : entGood ⟨key, val, g⟩ level = false := by simp [entGood, hl, hv]
      rw [hr]
      have hd : ((val.size : Int) != 2) = true := by simp; omega
      go_enter Try.func148, Try.ntmps148
      go_wp2_with fail
      go_ret
      exact ⟨rfl, hb⟩
  · have hl' : decide (0 < level) = false := by simpa using hl
    have hr : entGood ⟨key, val, g⟩ level = ((key.size == 9) && decide (val.size ≤ 100)) := by simp [entGood, hl]
    rw [hr]
    by_cases hk : key.size = 9
    · have hk' : ((key.size : Int) == 9) = true := by simp; omega
      rw [show ((key.size == 9) && decide (val.size ≤ 100)) = decide ((val.size : Int) ≤ 100) by rw [hk]; exact decide_eq_decide.2 (by omega)]
      go_enter Try.func148, Try.ntmps148
      go_wp2_with fail
      go_ret
      exact ⟨by first | rfl | (simp; done) | (simp; omega), hb⟩
    · have hk' : ((key.size : Int) == 9) = false := by simp; omega
      rw [show ((key.size == 9) && decide (val.size ≤ 100)) = false by simp [hk]]
      go_enter Try.func148, Try.ntmps148
      go_wp2_with fail
      go_ret
      exact ⟨rfl, hb⟩

set_option maxHeartbeats 1000000 in
theorem covers_calls (n : Nd) (p : Value) (hp : p.oneCell' = true) (key : ByteArray) (w : World) : Calls Try.prog 149 #[.agg (n.cells p).toArray, .string key] w fun x w' => x = .returned (.bool (cov n key)) ∧ Below w.heap.size w w' := by
  obtain ⟨t, l, s, h, hi, r, es⟩ := n
  have hX : Row (w.alloc (.cells #[.int .i64 t, .int .i64 l, .int .i64 s, .bool h, .string hi, .int .i64 r, p] 85)) w.heap.size 85 [.int .i64 t, .int .i64 l, .int .i64 s, .bool h, .string hi, .int .i64 r, p] := new_at rfl
  have hb : Below w.heap.size w (w.alloc (.cells #[.int .i64 t, .int .i64 l, .int .i64 s, .bool h, .string hi, .int .i64 r, p] 85)) := (Below.refl _ _).alloc (Nat.le_refl _) _
  have x3 := hX.cell (i := 3) rfl
  have x4 := hX.cell (i := 4) rfl
  have hle := less_of key hi
  show Calls Try.prog 149 #[.agg #[.int .i64 t, .int .i64 l, .int .i64 s, .bool h, .string hi, .int .i64 r, p], .string key] w _
  cases h
  · rw [show cov ⟨t, l, s, false, hi, r, es⟩ key = true from rfl]
    go_enter Try.func149, Try.ntmps149
    go_wp2_with fail
    go_ret
    exact ⟨rfl, hb⟩
  · rw [show cov ⟨t, l, s, true, hi, r, es⟩ key = decide (cmpB key.data.toList hi.data.toList = -1) from by simp [cov]]
    rw [← hle]
    clear hle
    go_enter Try.func149, Try.ntmps149
    go_wp2_with fail
    go_ret
    exact ⟨rfl, hb⟩

set_option maxHeartbeats 1000000 in
theorem size_calls (n : Nd) (a : Option Addr) (cap : Nat) (w : World) (hE : Es w a n.list) (hl : n.list.length ≤ 1000000) (hv : ∀ e ∈ n.list, e.val.size ≤ 1000000) :
    Calls Try.prog 101 #[.agg (n.cells (.slice a n.list.length cap)).toArray] w fun x w' => x = .returned (.int .i64 (n.size : Int)) ∧ Below w.heap.size w w' := by
  obtain ⟨t, l, s, h, hi, r, es⟩ := n
  simp only at hE hl hv
  have hX : Row (w.alloc (.cells #[.int .i64 t, .int .i64 l, .int .i64 s, .bool h, .string hi, .int .i64 r, .slice a es.length cap] 85)) w.heap.size 85 [.int .i64 t, .int .i64 l, .int .i64 s, .bool h, .string hi, .int .i64 r, .slice a es.length cap] := new_at rfl
  have hb : Below w.heap.size w (w.alloc (.cells #[.int .i64 t, .int .i64 l, .int .i64 s, .bool h, .string hi, .int .i64 r, .slice a es.length cap] 85)) := (Below.refl _ _).alloc (Nat.le_refl _) _
  have x6 := hX.cell (i := 6) rfl
  show Calls Try.prog 101 #[.agg #[.int .i64 t, .int .i64 l, .int .i64 s, .bool h, .string hi, .int .i64 r, .slice a es.length cap]] w _
  rw [show (Nd.size ⟨t, l, s, h, hi, r, es⟩) = 20 + size0 es from rfl]
  have hB : ∀ k, k ≤ es.length → size0 (es.take k) ≤ k * 1000011 := by
    intro k
    induction k with
    | zero => intro _; simp [size0]
    | succ k ih =>
      intro hk
      have := ih (by omega)
      have h3 := hv _ (List.getElem_mem (show k < es.length from hk))
      rw [size0_take (by omega)]
      omega
  have HB0 := Lib.hid hB
  clear hB
  go_enter Try.func101, Try.ntmps101
  go_wp2_with fail
  go_loopw [3, 9] (fun s i wr => ∃ k : Nat, k ≤ es.length ∧ i = .int .i64 k ∧ s = .int .i64 ((20 + size0 (es.take k) : Nat) : Int) ∧ Below w.heap.size w wr) (fun _ i _ => es.length - (intOf i).toNat)
  case atStart => exact ⟨0, by omega, rfl, rfl, hb⟩
  case round =>
    clear x6
    obtain ⟨k, hk, rfl, rfl, hbw⟩ := hrel
    by_cases hlt : k < es.length
    · obtain ⟨ad, rfl, hlb, hx⟩ := hE k hlt
      obtain ⟨x0, x1, x2⟩ := hx _ hbw
      have hst := size0_take hlt
      have hm := HB0.out (k + 1) (by omega)
      have hY : Row (wr.alloc (.cells es[k].cells.toArray 70)) wr.heap.size 70 es[k].cells := new_at rfl
      have hb2 := hbw.alloc hbw.size (.cells es[k].cells.toArray 70)
      have hvk := hv _ (List.getElem_mem hlt)
      have hlt' : (k : Int) < (es.length : Int) := by omega
      generalize es[k] = e at *
      obtain ⟨key, val, g⟩ := e
      have y1 := hY.cell (i := 1) rfl
      simp only at x0 x1 x2 hst hvk
      have ST := Lib.hid hst
      have B2 := Lib.hid hb2
      have hm2 := hm
      rw [hst] at hm2
      have hwr : ((20 + size0 (es.take k) : Nat) : Int) + (11 + (val.size : Int)) ≤ 9223372036854775807 := by
        have : (k + 1) * 1000011 ≤ 1000000 * 1000011 := Nat.mul_le_mul_right _ (by omega)
        omega
      clear hst hbw hX hY hb2 hx hE hb hm hm2
      go_wp2_with fail
      exact ⟨⟨k + 1, by omega, by go_num, by rw [ST.out]; go_num, B2.out⟩, by simp [intOf]; omega⟩
    · obtain rfl : k = es.length := by omega
      rw [List.take_length]
      go_wp2_with fail
      go_ret
      exact ⟨rfl, hbw⟩
end Go.Proofs.Ytcfjooeagfollaa.Node
