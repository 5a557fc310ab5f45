/- Moves there and back: plain laws. -/
import Derived.Test.YtcfjooeagfollaaBillR
namespace Go.Proofs.Ytcfjooeagfollaa.Bill
open Go.RowKit Go.Proofs.Ytcfjooeagfollaa.Mem Go.Proofs.Ytcfjooeagfollaa.Bytes Go.Proofs.Ytcfjooeagfollaa.Num Go.Proofs.Ytcfjooeagfollaa.Sign
set_option linter.unusedSimpArgs false
set_option linter.unusedVariables false
set_option maxRecDepth 20000

theorem oneB_nat (k : Nat) : oneB (k : Int) = UInt8.ofNat k := by
  unfold oneB
  apply UInt8.toNat_inj.1
  rw [UInt8.toNat_ofNat', UInt8.toNat_ofNat']
  omega
theorem eOne_cons (x : UInt8) (t : List UInt8) (b : Bool) : eOne (x :: t, b) = (x.toNat, (t, b)) := by
  unfold eOne eTake
  simp [lev]
theorem eOne_byte {n : Int} (h : oneBad n = false) (t : List UInt8) (b : Bool) : eOne (oneB n :: t, b) = (n.toNat, (t, b)) := by
  rw [eOne_cons]
  unfold oneBad at h
  simp only [Bool.or_eq_false_iff, decide_eq_false_iff_not] at h
  unfold oneB
  rw [UInt8.toNat_ofNat']
  congr 1
  omega
theorem oneBad_nn {n : Int} (h : oneBad n = false) : ((n.toNat : Nat) : Int) = n := by
  unfold oneBad at h
  simp only [Bool.or_eq_false_iff, decide_eq_false_iff_not] at h
  omega
/-- Its end was not bad: what it read. -/
theorem eOne_inv {l l' : List UInt8} {b : Bool} {n : Nat} (h : eOne (l, b) = (n, (l', false))) : b = false ∧ l = oneB n :: l' ∧ n < 256 := by
  cases l with
  | nil =>
    unfold eOne eTake at h
    simp at h
  | cons x t =>
    rw [eOne_cons] at h
    simp only [Prod.mk.injEq] at h
    obtain ⟨rfl, rfl, rfl⟩ := h
    refine ⟨rfl, ?_, x.toNat_lt⟩
    rw [oneB_nat]
    congr 1
    simp
theorem oneBad_lt {n : Nat} (h : n < 256) : oneBad (n : Int) = false := by
  unfold oneBad
  simp
  omega
theorem eNum_le {n : Int} (h : i64 n) (t : List UInt8) (b : Bool) : eNum (le (u64 n) 8 ++ t, b) 8 = (n, (t, b)) := by
  unfold eNum
  rw [eTake_app _ _ _ _ (le_length _ 8), lev_le]
  unfold i64 at h
  unfold u64
  congr 1
  have e : (256 : Nat) ^ 8 = 18446744073709551616 := by decide
  rw [e]
  unfold wrap64
  omega
theorem eNum_inv {l l' : List UInt8} {b : Bool} {n : Int} (h : eNum (l, b) 8 = (n, (l', false))) : b = false ∧ l = le (u64 n) 8 ++ l' ∧ i64 n := by
  unfold eNum at h
  obtain ⟨x, s, hx⟩ : ∃ x s, eTake (l, b) 8 = (x, s) := ⟨_, _, rfl⟩
  rw [hx] at h
  simp only [Prod.mk.injEq] at h
  obtain ⟨h1, h2⟩ := h
  subst h2
  obtain ⟨a, c, d⟩ := eTake_inv hx
  have hl := lev_lt x
  rw [d] at hl
  have e : (256 : Nat) ^ 8 = 18446744073709551616 := by decide
  rw [e] at hl
  have hi : i64 n := by
    rw [← h1]
    unfold i64 wrap64
    omega
  refine ⟨a, ?_, hi⟩
  have hu : u64 n = lev x := by
    rw [← h1]
    unfold u64 wrap64
    omega
  rw [c, hu, ← d, le_lev]
theorem eVal_code {v : V} (hg : v.good = true) (hf : v.fits) (t : List UInt8) : eVal (v.code ++ t, false) = (v, (t, false)) := by
  unfold eVal
  rw [eTake_app _ _ _ _ (V.code_length hg)]
  have h : readV v.code = some v := (readV_iff _ _).2 ⟨hg, hf, rfl⟩
  simp only [readOut_some h]
  rfl
theorem eVal_inv {l l' : List UInt8} {b : Bool} {v : V} (h : eVal (l, b) = (v, (l', false))) : b = false ∧ l = v.code ++ l' ∧ v.good = true ∧ v.fits := by
  unfold eVal at h
  obtain ⟨x, l1, b1, hx⟩ : ∃ x l1 b1, eTake (l, b) 9 = (x, (l1, b1)) := ⟨_, _, _, rfl⟩
  rw [hx] at h
  simp only [Prod.mk.injEq, Bool.or_eq_false_iff, decide_eq_false_iff_not, Decidable.not_not] at h
  obtain ⟨h1, rfl, rfl, h2⟩ := h
  obtain ⟨a, c, d⟩ := eTake_inv hx
  cases hr : readV x with
  | none => rw [readOut_none hr] at h2; simp at h2
  | some u =>
    rw [readOut_some hr] at h1
    have h1 : u = v := h1
    subst h1
    obtain ⟨g, f, e⟩ := (readV_iff _ _).1 hr
    exact ⟨a, by rw [c, e], g, f⟩
theorem vals_one {v : V} (h : v.good = true) : vals [v] = v.code := by
  unfold vals
  simp [codeOut, h]
theorem vals_cons {v : V} {l : List V} (h : v.good = true) : vals (v :: l) = v.code ++ vals l := by
  unfold vals
  simp [codeOut, h]
theorem valsBad_cons {v : V} {l : List V} : valsBad (v :: l) = (!v.good || valsBad l) := by simp [valsBad]
theorem eVals_vals : ∀ (l : List V), valsBad l = false → (∀ v ∈ l, v.fits) → ∀ t, eVals l.length (vals l ++ t, false) = (l, (t, false))
  | [], _, _, t => by simp [eVals, vals]
  | v :: l, h, hf, t => by
    rw [valsBad_cons] at h
    simp only [Bool.or_eq_false_iff, Bool.not_eq_false'] at h
    rw [List.length_cons, eVals, if_neg (by simp), vals_cons h.1, List.append_assoc, eVal_code h.1 (hf v List.mem_cons_self), eVals_vals l h.2 (fun u hu => hf u (List.mem_cons_of_mem _ hu))]
theorem eVals_inv : ∀ (n : Nat) {l l' : List UInt8} {b : Bool} {vs : List V}, eVals n (l, b) = (vs, (l', false)) → b = false ∧ l = vals vs ++ l' ∧ valsBad vs = false ∧ (∀ v ∈ vs, v.fits) ∧ vs.length = n
  | 0, l, l', b, vs, h => by
    unfold eVals at h
    simp only [Prod.mk.injEq] at h
    obtain ⟨rfl, rfl, rfl⟩ := h
    exact ⟨rfl, by simp [vals], by simp [valsBad], fun v h => (by cases h), rfl⟩
  | n + 1, l, l', b, vs, h => by
    unfold eVals at h
    split at h
    · rename_i hb
      simp only [Prod.mk.injEq] at h
      obtain ⟨_, _, h3⟩ := h
      simp only at hb
      rw [h3] at hb
      cases hb
    · rename_i hb
      obtain ⟨v, s, hv⟩ : ∃ v s, eVal (l, b) = (v, s) := ⟨_, _, rfl⟩
      obtain ⟨us, s2, hu⟩ : ∃ us s2, eVals n s = (us, s2) := ⟨_, _, rfl⟩
      rw [hv] at h
      simp only at h
      rw [hu] at h
      simp only [Prod.mk.injEq] at h
      obtain ⟨rfl, rfl⟩ := h
      obtain ⟨l1, b1⟩ := s
      obtain ⟨rfl, e2, e3, e4, e5⟩ := eVals_inv n hu
      obtain ⟨rfl, f2, f3, f4⟩ := eVal_inv hv
      refine ⟨rfl, by rw [f2, vals_cons f3, e2, List.append_assoc], by rw [valsBad_cons, f3, e3]; rfl, fun x hx => ?_, by rw [List.length_cons, e5]⟩
      rcases List.mem_cons.1 hx with rfl | hx
      · exact f4
      · exact e4 x hx
def Wsh.bare (x : Wsh) : Wsh := ⟨x.k, x.t, x.key, x.high, none, 0, x.row, x.c, x.val, x.n⟩
theorem eWish_head {k t : Int} (hk : oneBad k = false) (ht : oneBad t = false) (r : List UInt8) : eWish (oneB k :: oneB t :: r, false) =
    if k.toNat = 1 then (⟨1, (t.toNat : Nat), noV, noV, none, 0, (eVals (eOne (r, false)).1 (eOne (r, false)).2).1, 0, noV, 0⟩, (eVals (eOne (r, false)).1 (eOne (r, false)).2).2)
    else if k.toNat = 2 ∨ k.toNat = 4 ∨ k.toNat = 6 then (⟨(k.toNat : Nat), (t.toNat : Nat), (eVal (r, false)).1, noV, none, 0, [], 0, noV, 0⟩, (eVal (r, false)).2)
    else if k.toNat = 3 then (⟨3, (t.toNat : Nat), (eVal (r, false)).1, noV, none, 0, [], (eOne (eVal (r, false)).2).1, (eVal (eOne (eVal (r, false)).2).2).1, 0⟩, (eVal (eOne (eVal (r, false)).2).2).2)
    else if k.toNat = 5 ∨ k.toNat = 7 then (⟨(k.toNat : Nat), (t.toNat : Nat), (eVal (r, false)).1, (eVal (eVal (r, false)).2).1, none, 0, [], 0, noV, 0⟩, (eVal (eVal (r, false)).2).2)
    else if k.toNat = 9 ∨ k.toNat = 10 then (⟨(k.toNat : Nat), (t.toNat : Nat), noV, noV, none, 0, [], 0, noV, (eOne (r, false)).1⟩, (eOne (r, false)).2)
    else (Wsh.only (k.toNat : Nat) (t.toNat : Nat), (r, false)) := by
  unfold eWish
  rw [eOne_byte hk]
  simp only
  rw [eOne_byte ht]
theorem eWish_bytes {x : Wsh} (hb : x.bad = false) (hs : x.told.eqv x) (hf : x.fits) (r : List UInt8) : eWish (x.bytes ++ r, false) = (x.bare, (r, false)) := by
  obtain ⟨k, t, key, high, ra, rc, row, c, val, n⟩ := x
  obtain ⟨f1, f2, f3, f4⟩ := hf
  simp only at f1 f2 f3 f4
  unfold Wsh.bad at hb
  simp only [Bool.or_eq_false_iff] at hb
  obtain ⟨⟨hk, ht⟩, hb⟩ := hb
  have kn := oneBad_nn hk
  have tn := oneBad_nn ht
  unfold Wsh.bytes
  simp only [List.cons_append, List.nil_append, List.append_assoc]
  rw [eWish_head hk ht]
  unfold Wsh.eqv Wsh.told Wsh.only at hs
  unfold Wsh.bare
  by_cases c1 : k = 1
  · subst c1
    simp only [if_true, Bool.or_eq_false_iff, decide_eq_false_iff_not, List.cons_append] at hb hs ⊢
    obtain ⟨_, _, rfl, rfl, _, rfl, rfl, rfl⟩ := hs
    obtain ⟨⟨h4, h5⟩, h6⟩ := hb
    have e : (1 : Int).toNat = 1 := rfl
    rw [if_pos e, eOne_byte h5, tn]
    simp only [Int.toNat_natCast]
    rw [eVals_vals row h6 f4]
  · have c1' : ¬ k.toNat = 1 := by omega
    rw [if_neg c1']
    simp only [c1, if_false] at hb hs ⊢
    by_cases c2 : k = 2 ∨ k = 4 ∨ k = 6
    · have c2' : k.toNat = 2 ∨ k.toNat = 4 ∨ k.toNat = 6 := by omega
      rw [if_pos c2']
      simp only [c2, if_true] at hb hs ⊢
      obtain ⟨_, _, _, rfl, rfl, rfl, rfl, rfl⟩ := hs
      have hg : key.good = true := by simpa [valsBad] using hb
      rw [vals_one hg, eVal_code hg f1, kn, tn]
    · have c2' : ¬ (k.toNat = 2 ∨ k.toNat = 4 ∨ k.toNat = 6) := by omega
      rw [if_neg c2']
      simp only [c2, if_false] at hb hs ⊢
      by_cases c3 : k = 3
      · subst c3
        simp only [if_true, Bool.or_eq_false_iff] at hb hs ⊢
        obtain ⟨_, _, _, rfl, rfl, _, _, rfl⟩ := hs
        obtain ⟨⟨h4, h5⟩, h6⟩ := hb
        have hg : key.good = true := by simpa [valsBad] using h4
        have hg2 : val.good = true := by simpa [valsBad] using h6
        have e : (3 : Int).toNat = 3 := rfl
        rw [if_pos e, vals_one hg, vals_one hg2, List.append_assoc, List.cons_append, eVal_code hg f1]
        simp only
        rw [eOne_byte h5]
        simp only
        rw [eVal_code hg2 f3, tn, oneBad_nn h5]
      · have c3' : ¬ k.toNat = 3 := by omega
        rw [if_neg c3']
        simp only [c3, if_false] at hb hs ⊢
        by_cases c5 : k = 5 ∨ k = 7
        · have c5' : k.toNat = 5 ∨ k.toNat = 7 := by omega
          rw [if_pos c5']
          simp only [c5, if_true] at hb hs ⊢
          obtain ⟨_, _, _, _, rfl, rfl, rfl, rfl⟩ := hs
          have hg : key.good = true ∧ high.good = true := by simpa [valsBad] using hb
          rw [vals_cons hg.1, vals_one hg.2, List.append_assoc, eVal_code hg.1 f1]
          simp only
          rw [eVal_code hg.2 f2, kn, tn]
        · have c5' : ¬ (k.toNat = 5 ∨ k.toNat = 7) := by omega
          rw [if_neg c5']
          simp only [c5, if_false] at hb hs ⊢
          by_cases c9 : k = 9 ∨ k = 10
          · have c9' : k.toNat = 9 ∨ k.toNat = 10 := by omega
            rw [if_pos c9']
            simp only [c9, if_true] at hb hs ⊢
            obtain ⟨_, _, rfl, rfl, rfl, rfl, rfl, _⟩ := hs
            rw [List.cons_append, List.nil_append, eOne_byte hb, kn, tn, oneBad_nn hb]
          · have c9' : ¬ (k.toNat = 9 ∨ k.toNat = 10) := by omega
            rw [if_neg c9']
            simp only [c9, if_false] at hb hs ⊢
            obtain ⟨_, _, rfl, rfl, rfl, rfl, rfl, rfl⟩ := hs
            rw [kn, tn]
            rfl
theorem good_iff (m : Mv) : m.good = true ↔ m.bad = false ∧ m.told.eqv m := by
  unfold Mv.good Mv.same
  simp
theorem eMove_bytes {m : Mv} (hg : m.good = true) (hf : m.fits) (r : List UInt8) : eMove (m.bytes ++ r, false) = (m.strip, (r, false)) := by
  obtain ⟨hb, hs⟩ := (good_iff m).1 hg
  obtain ⟨k, n, a, w, p, q⟩ := m
  obtain ⟨f1, f2, f3⟩ := hf
  simp only at f1 f2 f3
  unfold Mv.bad at hb
  simp only [Bool.or_eq_false_iff] at hb
  obtain ⟨hk, hb⟩ := hb
  have kn := oneBad_nn hk
  unfold Mv.bytes
  simp only [List.cons_append]
  unfold eMove
  rw [eOne_byte hk]
  unfold Mv.eqv Mv.told Mv.only at hs
  unfold Mv.strip Mv.at
  simp only at hs ⊢
  by_cases c1 : k = 1
  · subst c1
    have e : (1 : Int).toNat = 1 := rfl
    simp only [if_true, Bool.or_eq_false_iff, decide_eq_false_iff_not, List.cons_append] at hb hs ⊢
    obtain ⟨⟨⟨⟨h1, h2⟩, h3⟩, h4⟩, h5⟩ := hb
    obtain ⟨_, _, _, hw, rfl, rfl⟩ := hs
    rw [if_pos e, eOne_byte h3]
    simp only
    rw [eOne_byte h4]
    simp only
    have an := oneBad_nn h4
    by_cases c4 : a = 4
    · subst c4
      have e4 : (4 : Int).toNat = 4 := rfl
      simp only [if_true] at h5 hw ⊢
      rw [if_pos e4, eWish_bytes h5 hw f1, oneBad_nn h3]
      rfl
    · have c4' : ¬ a.toNat = 4 := by omega
      simp only [c4, if_false] at hw ⊢
      rw [if_neg c4', an, oneBad_nn h3, List.nil_append]
      obtain ⟨wk, wt, key, high, ra, rc, row, c, val, wn⟩ := w
      obtain ⟨rfl, rfl, rfl, rfl, rfl, rfl, rfl, rfl⟩ := hw
      rfl
  · have c1' : ¬ k.toNat = 1 := by omega
    rw [if_neg c1']
    simp only [c1, if_false] at hb hs ⊢
    obtain ⟨wk, wt, key, high, ra, rc, row, c, val, wn⟩ := w
    by_cases c2 : k = 2 ∨ k = 3 ∨ k = 4 ∨ k = 8
    · have c2' : k.toNat = 2 ∨ k.toNat = 3 ∨ k.toNat = 4 ∨ k.toNat = 8 := by omega
      rw [if_pos c2']
      simp only [c2, if_true] at hb hs ⊢
      obtain ⟨_, _, rfl, ⟨rfl, rfl, rfl, rfl, rfl, rfl, rfl, rfl⟩, rfl, rfl⟩ := hs
      rw [List.cons_append, List.nil_append, eOne_byte hb, kn, oneBad_nn hb]
      rfl
    · have c2' : ¬ (k.toNat = 2 ∨ k.toNat = 3 ∨ k.toNat = 4 ∨ k.toNat = 8) := by omega
      rw [if_neg c2']
      simp only [c2, if_false] at hb hs ⊢
      by_cases c9 : k = 9
      · subst c9
        have e : (9 : Int).toNat = 9 := rfl
        simp only [if_true] at hb hs ⊢
        obtain ⟨_, _, rfl, ⟨rfl, rfl, rfl, rfl, rfl, rfl, rfl, rfl⟩, _, _⟩ := hs
        rw [if_pos e, List.cons_append, eOne_byte hb, List.append_assoc]
        simp only
        rw [eNum_le f2]
        simp only
        rw [eNum_le f3, oneBad_nn hb]
        rfl
      · have c9' : ¬ k.toNat = 9 := by omega
        rw [if_neg c9']
        simp only [c9, if_false] at hb hs ⊢
        obtain ⟨_, rfl, rfl, ⟨rfl, rfl, rfl, rfl, rfl, rfl, rfl, rfl⟩, rfl, rfl⟩ := hs
        rw [kn, List.nil_append]
        rfl
theorem eOne_ex (l : List UInt8) (b : Bool) : ∃ n l' b', eOne (l, b) = (n, (l', b')) := ⟨_, _, _, rfl⟩
theorem eOne_bad (l : List UInt8) : (eOne (l, true)).2.2 = true := by
  unfold eOne eTake
  split <;> rfl
theorem eTake_bad' (l : List UInt8) (n : Nat) : (eTake (l, true) n).2.2 = true := by
  unfold eTake
  split <;> rfl
theorem eVal_bad (l : List UInt8) : (eVal (l, true)).2.2 = true := by
  unfold eVal
  simp [eTake_bad']
theorem eVals_bad (n : Nat) (l : List UInt8) : (eVals n (l, true)).2.2 = true := by
  cases n with
  | zero => rfl
  | succ n => unfold eVals; simp
theorem eWish_inv {l r : List UInt8} {b : Bool} {x : Wsh} (h : eWish (l, b) = (x, (r, false))) : b = false ∧ l = x.bytes ++ r ∧ x.fits := by
  obtain ⟨k, l0, b0, q0⟩ := eOne_ex l b
  obtain ⟨t, l1, b1, q1⟩ := eOne_ex l0 b0
  unfold eWish at h
  rw [q0] at h
  simp only at h
  rw [q1] at h
  simp only at h
  have fin : b1 = false → b = false ∧ l = oneB k :: oneB t :: l1 := fun e => by
    subst e
    obtain ⟨rfl, e2, _⟩ := eOne_inv q1
    obtain ⟨rfl, e1, _⟩ := eOne_inv q0
    exact ⟨rfl, by rw [e1, e2]⟩
  by_cases c1 : k = 1
  · rw [if_pos c1] at h
    obtain ⟨n, l2, b2, q2⟩ := eOne_ex l1 b1
    rw [q2] at h
    simp only at h
    obtain ⟨vs, l3, b3, q3⟩ : ∃ vs l3 b3, eVals n (l2, b2) = (vs, (l3, b3)) := ⟨_, _, _, rfl⟩
    rw [q3] at h
    simp only [Prod.mk.injEq] at h
    obtain ⟨rfl, rfl, rfl⟩ := h
    obtain ⟨rfl, e3, _, e4, e5⟩ := eVals_inv n q3
    obtain ⟨e6, e7, _⟩ := eOne_inv q2
    obtain ⟨rfl, e8⟩ := fin e6
    refine ⟨rfl, ?_, noV_fits, noV_fits, noV_fits, e4⟩
    rw [e8, e7, e3, c1]
    unfold Wsh.bytes
    simp only [if_true, e5, List.cons_append, List.nil_append]
    rfl
  · rw [if_neg c1] at h
    by_cases c2 : k = 2 ∨ k = 4 ∨ k = 6
    · rw [if_pos c2] at h
      obtain ⟨v, l2, b2, q2⟩ : ∃ v l2 b2, eVal (l1, b1) = (v, (l2, b2)) := ⟨_, _, _, rfl⟩
      rw [q2] at h
      simp only [Prod.mk.injEq] at h
      obtain ⟨rfl, rfl, rfl⟩ := h
      obtain ⟨e1, e2, e3, e4⟩ := eVal_inv q2
      obtain ⟨rfl, e8⟩ := fin e1
      refine ⟨rfl, ?_, e4, noV_fits, noV_fits, fun v hv => (by cases hv)⟩
      rw [e8, e2]
      unfold Wsh.bytes
      have c1' : ¬ (k : Int) = 1 := by omega
      have c2' : (k : Int) = 2 ∨ (k : Int) = 4 ∨ (k : Int) = 6 := by omega
      simp only [c1', if_false, c2', if_true, vals_one e3, List.cons_append, List.nil_append]
    · rw [if_neg c2] at h
      by_cases c3 : k = 3
      · rw [if_pos c3] at h
        obtain ⟨v, l2, b2, q2⟩ : ∃ v l2 b2, eVal (l1, b1) = (v, (l2, b2)) := ⟨_, _, _, rfl⟩
        obtain ⟨n, l3, b3, q3⟩ := eOne_ex l2 b2
        obtain ⟨u, l4, b4, q4⟩ : ∃ v l4 b4, eVal (l3, b3) = (v, (l4, b4)) := ⟨_, _, _, rfl⟩
        rw [q2] at h
        simp only at h
        rw [q3] at h
        simp only at h
        rw [q4] at h
        simp only [Prod.mk.injEq] at h
        obtain ⟨rfl, rfl, rfl⟩ := h
        obtain ⟨rfl, f2, f3, f4⟩ := eVal_inv q4
        obtain ⟨rfl, g2, _⟩ := eOne_inv q3
        obtain ⟨e1, e2, e3, e4⟩ := eVal_inv q2
        obtain ⟨rfl, e8⟩ := fin e1
        refine ⟨rfl, ?_, e4, noV_fits, f4, fun v hv => (by cases hv)⟩
        rw [e8, e2, g2, f2, c3]
        unfold Wsh.bytes
        have c1' : ¬ (3 : Int) = 1 := by omega
        have c2' : ¬ ((3 : Int) = 2 ∨ (3 : Int) = 4 ∨ (3 : Int) = 6) := by omega
        simp only [c1', if_false, c2', if_true, vals_one e3, vals_one f3, List.cons_append, List.nil_append, List.append_assoc]
        rfl
      · rw [if_neg c3] at h
        by_cases c5 : k = 5 ∨ k = 7
        · rw [if_pos c5] at h
          obtain ⟨v, l2, b2, q2⟩ : ∃ v l2 b2, eVal (l1, b1) = (v, (l2, b2)) := ⟨_, _, _, rfl⟩
          obtain ⟨u, l4, b4, q4⟩ : ∃ v l4 b4, eVal (l2, b2) = (v, (l4, b4)) := ⟨_, _, _, rfl⟩
          rw [q2] at h
          simp only at h
          rw [q4] at h
          simp only [Prod.mk.injEq] at h
          obtain ⟨rfl, rfl, rfl⟩ := h
          obtain ⟨rfl, f2, f3, f4⟩ := eVal_inv q4
          obtain ⟨e1, e2, e3, e4⟩ := eVal_inv q2
          obtain ⟨rfl, e8⟩ := fin e1
          refine ⟨rfl, ?_, e4, f4, noV_fits, fun v hv => (by cases hv)⟩
          rw [e8, e2, f2]
          unfold Wsh.bytes
          have c1' : ¬ (k : Int) = 1 := by omega
          have c2' : ¬ ((k : Int) = 2 ∨ (k : Int) = 4 ∨ (k : Int) = 6) := by omega
          have c3' : ¬ (k : Int) = 3 := by omega
          have c5' : (k : Int) = 5 ∨ (k : Int) = 7 := by omega
          simp only [c1', if_false, c2', c3', c5', if_true, vals_cons e3, vals_one f3, List.cons_append, List.nil_append, List.append_assoc]
        · rw [if_neg c5] at h
          by_cases c9 : k = 9 ∨ k = 10
          · rw [if_pos c9] at h
            obtain ⟨n, l3, b3, q3⟩ := eOne_ex l1 b1
            rw [q3] at h
            simp only [Prod.mk.injEq] at h
            obtain ⟨rfl, rfl, rfl⟩ := h
            obtain ⟨e1, g2, _⟩ := eOne_inv q3
            obtain ⟨rfl, e8⟩ := fin e1
            refine ⟨rfl, ?_, noV_fits, noV_fits, noV_fits, fun v hv => (by cases hv)⟩
            rw [e8, g2]
            unfold Wsh.bytes
            have c1' : ¬ (k : Int) = 1 := by omega
            have c2' : ¬ ((k : Int) = 2 ∨ (k : Int) = 4 ∨ (k : Int) = 6) := by omega
            have c3' : ¬ (k : Int) = 3 := by omega
            have c5' : ¬ ((k : Int) = 5 ∨ (k : Int) = 7) := by omega
            have c9' : (k : Int) = 9 ∨ (k : Int) = 10 := by omega
            simp only [c1', if_false, c2', c3', c5', c9', if_true, List.cons_append, List.nil_append]
          · rw [if_neg c9] at h
            simp only [Prod.mk.injEq] at h
            obtain ⟨rfl, rfl, rfl⟩ := h
            obtain ⟨rfl, e8⟩ := fin rfl
            refine ⟨rfl, ?_, noV_fits, noV_fits, noV_fits, fun v hv => (by cases hv)⟩
            rw [e8]
            unfold Wsh.only Wsh.bytes
            have c1' : ¬ (k : Int) = 1 := by omega
            have c2' : ¬ ((k : Int) = 2 ∨ (k : Int) = 4 ∨ (k : Int) = 6) := by omega
            have c3' : ¬ (k : Int) = 3 := by omega
            have c5' : ¬ ((k : Int) = 5 ∨ (k : Int) = 7) := by omega
            have c9' : ¬ ((k : Int) = 9 ∨ (k : Int) = 10) := by omega
            simp only [c1', if_false, c2', c3', c5', c9', List.cons_append, List.nil_append]
theorem i64_zero : i64 0 := ⟨by decide, by decide⟩
theorem eMove_inv {l r : List UInt8} {m : Mv} (h : eMove (l, false) = (m, (r, false))) : l = m.bytes ++ r ∧ m.fits := by
  obtain ⟨k, l0, b0, q0⟩ := eOne_ex l false
  unfold eMove at h
  rw [q0] at h
  simp only at h
  have fin : b0 = false → l = oneB k :: l0 := fun e => by
    subst e
    exact (eOne_inv q0).2.1
  by_cases c1 : k = 1
  · rw [if_pos c1] at h
    obtain ⟨n, l1, b1, q1⟩ := eOne_ex l0 b0
    rw [q1] at h
    simp only at h
    obtain ⟨a, l2, b2, q2⟩ := eOne_ex l1 b1
    rw [q2] at h
    simp only at h
    by_cases c4 : a = 4
    · rw [if_pos c4] at h
      obtain ⟨x, l3, b3, q3⟩ : ∃ x l3 b3, eWish (l2, b2) = (x, (l3, b3)) := ⟨_, _, _, rfl⟩
      rw [q3] at h
      simp only [Prod.mk.injEq] at h
      obtain ⟨rfl, rfl, rfl⟩ := h
      obtain ⟨rfl, w2, w3⟩ := eWish_inv q3
      obtain ⟨rfl, e2, _⟩ := eOne_inv q2
      obtain ⟨e3, e4, _⟩ := eOne_inv q1
      refine ⟨?_, w3, i64_zero, i64_zero⟩
      rw [fin e3, e4, e2, w2, c1, c4]
      unfold Mv.bytes
      simp only [if_true, List.cons_append]
      rfl
    · rw [if_neg c4] at h
      simp only [Prod.mk.injEq] at h
      obtain ⟨rfl, rfl, rfl⟩ := h
      obtain ⟨rfl, e2, _⟩ := eOne_inv q2
      obtain ⟨e3, e4, _⟩ := eOne_inv q1
      refine ⟨?_, noW_fits, i64_zero, i64_zero⟩
      rw [fin e3, e4, e2, c1]
      unfold Mv.bytes
      have c4' : ¬ (a : Int) = 4 := by omega
      simp only [if_true, c4', if_false, List.cons_append, List.nil_append]
      rfl
  · rw [if_neg c1] at h
    have c1' : ¬ (k : Int) = 1 := by omega
    by_cases c2 : k = 2 ∨ k = 3 ∨ k = 4 ∨ k = 8
    · rw [if_pos c2] at h
      obtain ⟨n, l1, b1, q1⟩ := eOne_ex l0 b0
      rw [q1] at h
      simp only [Prod.mk.injEq] at h
      obtain ⟨rfl, rfl, rfl⟩ := h
      obtain ⟨e3, e4, _⟩ := eOne_inv q1
      refine ⟨?_, noW_fits, i64_zero, i64_zero⟩
      rw [fin e3, e4]
      unfold Mv.bytes
      have c2' : (k : Int) = 2 ∨ (k : Int) = 3 ∨ (k : Int) = 4 ∨ (k : Int) = 8 := by omega
      simp only [c1', if_false, c2', if_true, List.cons_append, List.nil_append]
    · rw [if_neg c2] at h
      have c2' : ¬ ((k : Int) = 2 ∨ (k : Int) = 3 ∨ (k : Int) = 4 ∨ (k : Int) = 8) := by omega
      by_cases c9 : k = 9
      · rw [if_pos c9] at h
        obtain ⟨n, l1, b1, q1⟩ := eOne_ex l0 b0
        rw [q1] at h
        simp only at h
        obtain ⟨p, l2, b2, q2⟩ : ∃ x l3 b3, eNum (l1, b1) 8 = (x, (l3, b3)) := ⟨_, _, _, rfl⟩
        rw [q2] at h
        simp only at h
        obtain ⟨q, l3, b3, q3⟩ : ∃ x l3 b3, eNum (l2, b2) 8 = (x, (l3, b3)) := ⟨_, _, _, rfl⟩
        rw [q3] at h
        simp only [Prod.mk.injEq] at h
        obtain ⟨rfl, rfl, rfl⟩ := h
        obtain ⟨rfl, w2, w3⟩ := eNum_inv q3
        obtain ⟨rfl, v2, v3⟩ := eNum_inv q2
        obtain ⟨e3, e4, _⟩ := eOne_inv q1
        refine ⟨?_, noW_fits, v3, w3⟩
        rw [fin e3, e4, v2, w2, c9]
        unfold Mv.bytes
        have d1 : ¬ (9 : Int) = 1 := by omega
        have d2 : ¬ ((9 : Int) = 2 ∨ (9 : Int) = 3 ∨ (9 : Int) = 4 ∨ (9 : Int) = 8) := by omega
        simp only [d1, d2, if_false, if_true, List.cons_append, List.nil_append, List.append_assoc]
        rfl
      · rw [if_neg c9] at h
        simp only [Prod.mk.injEq] at h
        obtain ⟨rfl, rfl, rfl⟩ := h
        refine ⟨?_, noW_fits, i64_zero, i64_zero⟩
        rw [fin rfl]
        unfold Mv.only Mv.bytes
        have c9' : ¬ (k : Int) = 9 := by omega
        simp only [c1', c2', c9', if_false, List.cons_append, List.nil_append]
theorem rd_app : ∀ (ms : List Mv) (n : Nat) (t : List UInt8), (∀ m ∈ ms, m.good = true ∧ m.fits) → ms.length ≤ n → rd n (ms.flatMap Mv.bytes ++ t) = (ms.map Mv.strip ++ (rd (n - ms.length) t).1, (rd (n - ms.length) t).2)
  | [], n, t, _, _ => by simp
  | m :: ms, n, t, h, hn => by
    obtain ⟨j, rfl⟩ : ∃ j, n = j + 1 := ⟨n - 1, by rw [List.length_cons] at hn; omega⟩
    obtain ⟨hg, hf⟩ := h m List.mem_cons_self
    have ih := rd_app ms j t (fun x hx => h x (List.mem_cons_of_mem _ hx)) (by rw [List.length_cons] at hn; omega)
    rw [List.flatMap_cons, List.append_assoc, rd, eMove_bytes hg hf]
    have hgs : m.strip.good = true := by unfold Mv.strip; rw [at_good]; exact hg
    simp only [hgs, Bool.false_or, Bool.not_true, Bool.false_eq_true, if_false]
    rw [ih, List.length_cons, List.map_cons, List.cons_append, show j + 1 - (ms.length + 1) = j - ms.length by omega]
theorem rd_nil (n : Nat) : rd n [] = ([], []) := by
  cases n with
  | zero => rfl
  | succ n =>
    rw [rd]
    have h : (eMove ([], false)).2.2 = true := by
      have e : eOne ([], false) = (0, ([], true)) := rfl
      unfold eMove
      rw [e]
      rfl
    rw [h]
    simp
theorem rd_inv : ∀ (n : Nat) (l : List UInt8), l = ((rd n l).1).flatMap Mv.bytes ++ (rd n l).2 ∧ (∀ m ∈ (rd n l).1, m.good = true ∧ m.fits) ∧ (rd n l).1.length ≤ n
  | 0, l => ⟨by simp [rd], fun m h => (by cases h), Nat.le_refl _⟩
  | n + 1, l => by
    rw [rd]
    obtain ⟨m, r, b, q⟩ : ∃ m r b, eMove (l, false) = (m, (r, b)) := ⟨_, _, _, rfl⟩
    rw [q]
    simp only
    by_cases c : (b || !m.good) = true
    · rw [if_pos c]
      exact ⟨by simp, fun m h => (by cases h), Nat.zero_le _⟩
    · rw [if_neg c]
      have c2 : b = false ∧ m.good = true := by
        cases b <;> cases hm : m.good <;> simp_all
      obtain ⟨rfl, hg⟩ := c2
      obtain ⟨e1, e2⟩ := eMove_inv q
      obtain ⟨i1, i2, i3⟩ := rd_inv n r
      refine ⟨?_, fun x hx => ?_, by simp only [List.length_cons]; omega⟩
      · simp only [List.flatMap_cons]
        rw [e1, List.append_assoc, ← i1]
      · rcases List.mem_cons.1 hx with rfl | hx
        · exact ⟨hg, e2⟩
        · exact i2 x hx
end Go.Proofs.Ytcfjooeagfollaa.Bill
