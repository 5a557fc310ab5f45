/- gaugerref01.Same of any two rows. -/
import Derived.Test.YtcfjooeagfollaaSignVs
namespace Go.Proofs.Ytcfjooeagfollaa.Sign
open Go.RowKit Go.Proofs.Ytcfjooeagfollaa.Mem Go.Proofs.Ytcfjooeagfollaa.Bytes Go.Proofs.Ytcfjooeagfollaa.Num
set_option linter.unusedSimpArgs false
set_option linter.unusedVariables false
set_option maxRecDepth 20000

theorem take_same {l m : List V} {k : Nat} (h1 : k < l.length) (h2 : k < m.length) (h : l.take k = m.take k) (e : l[k] = m[k]) : l.take (k + 1) = m.take (k + 1) := by
  rw [List.take_succ_eq_append_getElem h1, List.take_succ_eq_append_getElem h2, h, e]
set_option maxHeartbeats 2000000 in
theorem vsame_calls (l m : List V) (a b : Option Addr) (cap cap' : Nat) (w : World) (ha : Vs w a l) (hb : Vs w b m) (hl : l.length ≤ 9223372036854775807) (hm : m.length ≤ 9223372036854775807) :
    Calls Try.prog 38 #[.slice a l.length cap, .slice b m.length cap'] w fun e w' => (∃ r : Bool, (r = true ↔ l = m) ∧ e = .returned (.bool r)) ∧ Below w.heap.size w w' := by
  by_cases c : l.length = m.length
  rotate_left 1
  · have c' : ((l.length : Int) != (m.length : Int)) = true := by simp; omega
    go_enter Try.func38, Try.ntmps38
    go_wp2_with fail
    go_ret
    exact ⟨⟨false, by simp; intro h; exact c (by rw [h]), rfl⟩, Below.refl _ _⟩
  have c' : ((l.length : Int) != (m.length : Int)) = false := by simp; omega
  have HA := Lib.hid ha
  have HB := Lib.hid hb
  have LM := Lib.hid c
  clear ha hb c
  go_enter Try.func38, Try.ntmps38
  go_wp2_with fail
  go_loopw [5] (fun i wr => ∃ k : Nat, k ≤ l.length ∧ i = .int .i64 k ∧ l.take k = m.take k ∧ Below w.heap.size w wr) (fun i _ => l.length - (intOf i).toNat)
  case atStart => exact ⟨0, by omega, rfl, by rw [List.take_zero, List.take_zero], Below.refl _ _⟩
  case round =>
    obtain ⟨k, hk, rfl, ht, hbw⟩ := hrel
    have HT := Lib.hid ht
    have BW := Lib.hid hbw
    clear ht hbw
    by_cases hlt : k < l.length
    · have hlm : k < m.length := by have := LM.out; omega
      have hlt' : (k : Int) < (l.length : Int) := by omega
      have hlm' : (k : Int) < (m.length : Int) := by omega
      obtain ⟨ad, rfl, hlb, hx⟩ := HA.out k hlt
      obtain ⟨bd, rfl, hlb', hy⟩ := HB.out k hlm
      obtain ⟨x0, x1, x2⟩ := hx _ BW.out
      obtain ⟨y0, y1, y2⟩ := hy _ BW.out
      have TS := Lib.hid (fun e => take_same hlt hlm HT.out e)
      have NE := Lib.hid (show l[k] ≠ m[k] → ¬ l = m from fun h e => h (by subst e; rfl))
      generalize l[k] = v at *
      generalize m[k] = u at *
      obtain ⟨k0, n0, s0⟩ := v
      obtain ⟨k1, n1, s1⟩ := u
      clear hx hy
      try simp only at x0 x1 x2 y0 y1 y2
      by_cases d0 : k0 = k1
      · by_cases d1 : n0 = n1
        · by_cases d2 : s0 = s1
          · subst d0 d1 d2
            have TT := Lib.hid (TS.out rfl)
            clear TS NE
            go_wp2_with fail
            go_quiet (fail)
            go_wp2_with fail
            exact ⟨⟨k + 1, by omega, by go_num, TT.out, by first | exact BW.out.drew | exact below_drewN BW.out _⟩, by simp [intOf]; omega⟩
          · subst d0 d1
            have d6 : ¬ s0.toList = s1.toList := fun h => d2 (toList_inj.1 h)
            have d3 : (s0.toList == s1.toList) = false := beq_eq_false_iff_ne.2 d6
            go_wp2_with fail
            go_quiet (fail)
            go_wp2_with fail
            go_ret
            exact ⟨⟨false, by simp; exact NE.out (by intro h; cases h; exact d2 rfl), rfl⟩, by first | exact BW.out.drew | exact below_drewN BW.out _⟩
        · subst d0
          go_wp2_with fail
          go_quiet (fail)
          go_wp2_with fail
          go_ret
          exact ⟨⟨false, by simp; exact NE.out (by intro h; cases h; exact d1 rfl), rfl⟩, by first | exact BW.out.drew | exact below_drewN BW.out _⟩
      · go_wp2_with fail
        go_quiet (fail)
        go_wp2_with fail
        go_ret
        exact ⟨⟨false, by simp; exact NE.out (by intro h; cases h; exact d0 rfl), rfl⟩, by first | exact BW.out.drew | exact below_drewN BW.out _⟩
    · obtain rfl : k = l.length := by omega
      have hE : l = m := by have := HT.out; rwa [List.take_length, LM.out, List.take_length] at this
      have HE := Lib.hid hE
      clear hE
      go_wp2_with fail
      go_ret
      exact ⟨⟨true, by simp; exact HE.out, rfl⟩, BW.out⟩
end Go.Proofs.Ytcfjooeagfollaa.Sign
