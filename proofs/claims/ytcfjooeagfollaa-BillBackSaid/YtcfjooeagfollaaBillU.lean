/- gaugerlaw26.great; moves that came in. -/
import Derived.Test.YtcfjooeagfollaaBillQ
import Derived.Test.YtcfjooeagfollaaPlanI
namespace Go.Proofs.Ytcfjooeagfollaa.Bill
open Go.RowKit Go.Proofs.Ytcfjooeagfollaa.Mem Go.Proofs.Ytcfjooeagfollaa.Bytes Go.Proofs.Ytcfjooeagfollaa.Num Go.Proofs.Ytcfjooeagfollaa.Sign
set_option linter.unusedSimpArgs false
set_option linter.unusedVariables false
set_option maxRecDepth 20000

def GreatPost (m : Mv) (e : Ending) : Prop := ∃ g : Bool, e = .returned (.bool g) ∧ (g = false → m.w.row.length ≤ 8)
set_option maxHeartbeats 4000000 in
theorem great_calls (m : Mv) (w : World) (hV : Vs w m.w.ra m.w.row) (hl : m.w.row.length ≤ 9223372036854775807) : Calls Try.prog 43 #[.agg m.cells.toArray] w fun e w' => GreatPost m e ∧ Below w.heap.size w w' := by
  obtain ⟨m0, hm0⟩ : ∃ x, m = x := ⟨_, rfl⟩
  have HM := Lib.hid hm0
  clear hm0
  obtain ⟨k, n, a, ⟨wk, wt, ⟨kk, kn, ks⟩, ⟨hk, hn, hs⟩, ra, rc, row, c, ⟨vk, vn, vs⟩, wn⟩, p, q⟩ := m
  simp only at hV hl
  have FT := Lib.hid (show GreatPost ⟨k, n, a, ⟨wk, wt, ⟨kk, kn, ks⟩, ⟨hk, hn, hs⟩, ra, rc, row, c, ⟨vk, vn, vs⟩, wn⟩, p, q⟩ (.returned (.bool true)) from ⟨true, rfl, fun h => (by cases h)⟩)
  have FF := Lib.hid (fun (h : row.length ≤ 8) => (show GreatPost ⟨k, n, a, ⟨wk, wt, ⟨kk, kn, ks⟩, ⟨hk, hn, hs⟩, ra, rc, row, c, ⟨vk, vn, vs⟩, wn⟩, p, q⟩ (.returned (.bool false)) from ⟨false, rfl, fun _ => h⟩))
  obtain ⟨GP, hGP⟩ : ∃ G, GreatPost ⟨k, n, a, ⟨wk, wt, ⟨kk, kn, ks⟩, ⟨hk, hn, hs⟩, ra, rc, row, c, ⟨vk, vn, vs⟩, wn⟩, p, q⟩ = G := ⟨_, rfl⟩
  rw [hGP] at FT FF ⊢
  clear hGP HM
  show Calls Try.prog 43 #[.agg #[.int .i64 k, .int .i64 n, .int .i64 a, .int .i64 wk, .int .i64 wt, .int .i64 kk, .int .i64 kn, .string ks, .int .i64 hk, .int .i64 hn, .string hs, .slice ra row.length rc, .int .i64 c, .int .i64 vk, .int .i64 vn, .string vs, .int .i64 wn, .int .i64 p, .int .i64 q]] w _
  have hb := (Below.refl w.heap.size w).alloc (Nat.le_refl _) (.cells #[.int .i64 k, .int .i64 n, .int .i64 a, .int .i64 wk, .int .i64 wt, .int .i64 kk, .int .i64 kn, .string ks, .int .i64 hk, .int .i64 hn, .string hs, .slice ra row.length rc, .int .i64 c, .int .i64 vk, .int .i64 vn, .string vs, .int .i64 wn, .int .i64 p, .int .i64 q] 94)
  have V2 := Lib.hid (show Row ((w.alloc (.cells #[.int .i64 k, .int .i64 n, .int .i64 a, .int .i64 wk, .int .i64 wt, .int .i64 kk, .int .i64 kn, .string ks, .int .i64 hk, .int .i64 hn, .string hs, .slice ra row.length rc, .int .i64 c, .int .i64 vk, .int .i64 vn, .string vs, .int .i64 wn, .int .i64 p, .int .i64 q] 94)).alloc (.cells #[.int .i64 wk, .int .i64 wt, .int .i64 kk, .int .i64 kn, .string ks, .int .i64 hk, .int .i64 hn, .string hs, .slice ra row.length rc, .int .i64 c, .int .i64 vk, .int .i64 vn, .string vs, .int .i64 wn] 90)) (w.heap.size + 1) 90 [.int .i64 wk, .int .i64 wt, .int .i64 kk, .int .i64 kn, .string ks, .int .i64 hk, .int .i64 hn, .string hs, .slice ra row.length rc, .int .i64 c, .int .i64 vk, .int .i64 vn, .string vs, .int .i64 wn] from Wide.new_at (by simp))
  have B2 := Lib.hid (hb.alloc hb.size (.cells #[.int .i64 wk, .int .i64 wt, .int .i64 kk, .int .i64 kn, .string ks, .int .i64 hk, .int .i64 hn, .string hs, .slice ra row.length rc, .int .i64 c, .int .i64 vk, .int .i64 vn, .string vs, .int .i64 wn] 90))
  have VV := Lib.hid hV
  clear hb hV
  by_cases c8 : 8 < row.length
  · have c8' : (8 : Int) < (row.length : Int) := by omega
    go_enter Try.func43, Try.ntmps43
    go_wp2_with fail
    go_ret
    exact ⟨FT.out, B2.out⟩
  · have c8' : decide ((8 : Int) < (row.length : Int)) = false := by simp; omega
    go_enter Try.func43, Try.ntmps43
    go_wp2_with fail
    all_goals first | (go_ret; exact ⟨FT.out, B2.out⟩) | skip
    go_loopw [4] (fun i wr => ∃ j : Nat, j ≤ row.length ∧ i = .int .i64 (j : Int) ∧ Row wr (w.heap.size + 1) 90 [.int .i64 wk, .int .i64 wt, .int .i64 kk, .int .i64 kn, .string ks, .int .i64 hk, .int .i64 hn, .string hs, .slice ra row.length rc, .int .i64 c, .int .i64 vk, .int .i64 vn, .string vs, .int .i64 wn] ∧ Below w.heap.size w wr) (fun i _ => row.length - (intOf i).toNat)
    case atStart => exact ⟨0, by omega, rfl, V2.out, B2.out⟩
    case round =>
      clear V2 B2
      obtain ⟨j, hj, rfl, hx, hb⟩ := hrel
      have V2 := Lib.hid hx
      have B2 := Lib.hid hb
      have v8 := hx.cell (i := 8) rfl
      clear hx hb
      by_cases hlt : j < row.length
      · have hlt' : (j : Int) < (row.length : Int) := by omega
        obtain ⟨ad, rfl, _, hz⟩ := VV.out j hlt
        obtain ⟨_, _, z⟩ := hz _ B2.out
        generalize row[j] = v at *
        obtain ⟨k0, n0, s0⟩ := v
        simp only at z
        clear hz
        by_cases d : 60 < s0.size
        · have d' : (60 : Int) < (s0.size : Int) := by omega
          go_wp2_with fail
          go_ret
          exact ⟨FT.out, B2.out⟩
        · have d' : decide ((60 : Int) < (s0.size : Int)) = false := by simp; omega
          go_wp2_with fail
          exact ⟨⟨j + 1, by omega, by go_num, V2.out, B2.out⟩, by simp [intOf]; omega⟩
      · obtain rfl : j = row.length := by omega
        go_wp2_with fail
        go_ret
        exact ⟨FF.out (by omega), B2.out⟩
end Go.Proofs.Ytcfjooeagfollaa.Bill
