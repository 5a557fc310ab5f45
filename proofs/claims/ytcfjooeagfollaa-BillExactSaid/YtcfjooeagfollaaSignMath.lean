/- Codes stand in the order of their values. -/
import Derived.Test.YtcfjooeagfollaaSignCmpV
namespace Go.Proofs.Ytcfjooeagfollaa.Sign
open Go.RowKit Go.Proofs.Ytcfjooeagfollaa.Mem Go.Proofs.Ytcfjooeagfollaa.Bytes Go.Proofs.Ytcfjooeagfollaa.Num
open Go.Proofs.Ytcfjooeagfollaa.Ord
set_option linter.unusedSimpArgs false
set_option linter.unusedVariables false
set_option maxRecDepth 20000

theorem bev_cons (b : UInt8) (l : List UInt8) : bev (b :: l) = bev l + b.toNat * 256 ^ l.length := by
  unfold bev
  rw [List.reverse_cons, lev_snoc, List.length_reverse]
theorem cmpB_bev : ∀ (l m : List UInt8), l.length = m.length → cmpB l m = Lib.compareInt (bev l) (bev m)
  | [], [], _ => by simp [cmpB, Lib.compareInt]
  | [], _ :: _, h => by simp at h
  | _ :: _, [], h => by simp at h
  | a :: r, b :: s, h => by
    have hl : r.length = s.length := by simpa using h
    have ih := cmpB_bev r s hl
    have h1 := bev_lt r
    have h2 := bev_lt s
    rw [cmpB_cons, bev_cons, bev_cons, ← hl]
    rw [← hl] at h2
    unfold Lib.compareInt at ih ⊢
    generalize 256 ^ r.length = p at *
    by_cases c1 : a < b
    · rw [if_pos c1]
      rw [UInt8.lt_iff_toNat_lt] at c1
      have := Nat.mul_le_mul_right p (show a.toNat + 1 ≤ b.toNat from c1)
      rw [Nat.add_mul] at this
      rw [if_pos (by omega)]
    · rw [if_neg c1]
      by_cases c2 : b < a
      · rw [if_pos c2]
        rw [UInt8.lt_iff_toNat_lt] at c2
        have := Nat.mul_le_mul_right p (show b.toNat + 1 ≤ a.toNat from c2)
        rw [Nat.add_mul] at this
        rw [if_neg (by omega), if_pos (by omega)]
      · rw [if_neg c2, ih]
        rw [UInt8.lt_iff_toNat_lt] at c1 c2
        have e : a.toNat = b.toNat := by omega
        rw [e]
        split <;> split <;> (try rfl) <;> (try split) <;> (try rfl) <;> omega
theorem pad_low : ∀ (n : Nat) (c d : UInt8) (b : List UInt8), b.length ≤ n → c < d → cmpB (List.replicate n 0 ++ [c]) (b ++ List.replicate (n - b.length) 0 ++ [d]) = -1
  | 0, c, d, b, hb, hc => by
    obtain rfl : b = [] := List.eq_nil_of_length_eq_zero (by omega)
    show cmpB [c] [d] = -1
    rw [cmpB_cons, if_pos hc]
  | n + 1, c, d, [], hb, hc => by
    have ih := pad_low n c d [] (by simp) hc
    simp only [List.nil_append, List.length_nil, Nat.sub_zero] at ih ⊢
    rw [List.replicate_succ, List.cons_append, List.cons_append, cmpB_cons, if_neg (UInt8.lt_irrefl 0), if_neg (UInt8.lt_irrefl 0), ih]
  | n + 1, c, d, y :: b, hb, hc => by
    have ih := pad_low n c d b (by simpa using hb) hc
    rw [List.length_cons, Nat.add_sub_add_right, List.replicate_succ, List.cons_append, List.cons_append, List.cons_append, cmpB_cons]
    by_cases h : (0 : UInt8) < y
    · rw [if_pos h]
    · rw [if_neg h, if_neg (by rw [UInt8.lt_iff_toNat_lt]; simp), ih]
theorem pad_cmp : ∀ (n c : Nat) (a b : List UInt8), a.length ≤ n → b.length ≤ n → c + n < 256 → cmpB (a ++ List.replicate (n - a.length) 0 ++ [UInt8.ofNat (c + a.length)]) (b ++ List.replicate (n - b.length) 0 ++ [UInt8.ofNat (c + b.length)]) = cmpB a b
  | n, c, [], [], _, _, _ => by rw [cmpB_self, cmpB_self]
  | n, c, [], y :: b, ha, hb, hn => by
    have hlt : UInt8.ofNat (c + 0) < UInt8.ofNat (c + (y :: b).length) := by
      rw [UInt8.lt_iff_toNat_lt]
      simp only [UInt8.toNat_ofNat', List.length_cons] at *
      omega
    have h := pad_low n (UInt8.ofNat (c + 0)) (UInt8.ofNat (c + (y :: b).length)) (y :: b) hb hlt
    simp only [List.nil_append, List.length_nil, Nat.sub_zero]
    rw [h, cmpB]
  | n, c, x :: a, [], ha, hb, hn => by
    have hlt : UInt8.ofNat (c + 0) < UInt8.ofNat (c + (x :: a).length) := by
      rw [UInt8.lt_iff_toNat_lt]
      simp only [UInt8.toNat_ofNat', List.length_cons] at *
      omega
    have h := pad_low n (UInt8.ofNat (c + 0)) (UInt8.ofNat (c + (x :: a).length)) (x :: a) ha hlt
    simp only [List.nil_append, List.length_nil, Nat.sub_zero]
    rw [cmpB_swap, h, cmpB]
    rfl
  | n, c, x :: a, y :: b, ha, hb, hn => by
    obtain ⟨m, rfl⟩ : ∃ m, n = m + 1 := ⟨n - 1, by simp at ha; omega⟩
    have ih := pad_cmp m (c + 1) a b (by simpa using ha) (by simpa using hb) (by omega)
    rw [List.length_cons, List.length_cons, Nat.add_sub_add_right, Nat.add_sub_add_right, List.cons_append, List.cons_append, List.cons_append, List.cons_append, cmpB_cons, cmpB_cons,
      show c + (a.length + 1) = c + 1 + a.length by omega, show c + (b.length + 1) = c + 1 + b.length by omega, ih]
theorem orL_last (c : Int) : orL [0, 0, c] = c := by
  simp only [orL, if_true]
  split <;> omega
theorem code_order {v u : V} (hv : v.good = true) (hu : u.good = true) (fv : v.fits) (fu : u.fits) : cmpB v.code u.code = cmpG v u := by
  obtain ⟨k, n, s⟩ := v
  obtain ⟨k', n', s'⟩ := u
  obtain ⟨f1, f2⟩ := fv
  obtain ⟨f3, f4⟩ := fu
  have l1 : s.data.toList.length = s.size := rfl
  have l2 : s'.data.toList.length = s'.size := rfl
  unfold cmpG
  simp only at f1 f2 f3 f4
  rcases (V.good_iff _).1 hv with ⟨h1, h2⟩ | ⟨h1, h2, h3⟩ <;> rcases (V.good_iff _).1 hu with ⟨g1, g2⟩ | ⟨g1, g2, g3⟩
  · simp only at h1 h2 g1 g2
    subst h1 g1
    obtain rfl := size_zero h2
    obtain rfl := size_zero g2
    have e1 : V.code ⟨1, n, ⟨#[]⟩⟩ = 1 :: be (up n) 8 := rfl
    have e2 : V.code ⟨1, n', ⟨#[]⟩⟩ = 1 :: be (up n') 8 := rfl
    have hu1 := up_lt f1 f2
    have hu2 := up_lt f3 f4
    rw [e1, e2, cmpB_cons, if_neg (UInt8.lt_irrefl 1), if_neg (UInt8.lt_irrefl 1), cmpB_bev _ _ (by rw [be_length, be_length]), bev_be (by omega), bev_be (by omega)]
    show _ = orL [0, Lib.compareInt n n', 0]
    have e : Lib.compareInt (up n : Int) (up n' : Int) = Lib.compareInt n n' := by
      unfold Lib.compareInt up
      congr 1
      · simp; omega
      · congr 1
        simp; omega
    rw [e]
    simp only [orL, if_true]
    split <;> omega
  · simp only at h1 g1
    subst h1 g1
    have e1 : V.code ⟨1, n, s⟩ = 1 :: be (up n) 8 := rfl
    have e2 : V.code ⟨2, n', s'⟩ = 2 :: (s'.data.toList ++ List.replicate (7 - s'.size) 0 ++ [UInt8.ofNat s'.size]) := rfl
    rw [e1, e2, cmpB_cons, if_pos (by decide)]
    rfl
  · simp only at h1 g1
    subst h1 g1
    have e1 : V.code ⟨1, n', s'⟩ = 1 :: be (up n') 8 := rfl
    have e2 : V.code ⟨2, n, s⟩ = 2 :: (s.data.toList ++ List.replicate (7 - s.size) 0 ++ [UInt8.ofNat s.size]) := rfl
    rw [e1, e2, cmpB_cons, if_neg (by decide), if_pos (by decide)]
    rfl
  · simp only at h1 h2 h3 g1 g2 g3
    subst h1 g1 h2 g2
    have e1 : V.code ⟨2, 0, s⟩ = 2 :: (s.data.toList ++ List.replicate (7 - s.size) 0 ++ [UInt8.ofNat s.size]) := rfl
    have e2 : V.code ⟨2, 0, s'⟩ = 2 :: (s'.data.toList ++ List.replicate (7 - s'.size) 0 ++ [UInt8.ofNat s'.size]) := rfl
    have h := pad_cmp 7 0 s.data.toList s'.data.toList (by omega) (by omega) (by omega)
    rw [Nat.zero_add, Nat.zero_add, l1, l2] at h
    rw [e1, e2, cmpB_cons, if_neg (UInt8.lt_irrefl 2), if_neg (UInt8.lt_irrefl 2), h]
    exact (orL_last _).symm
theorem code_inj {v u : V} (hv : v.good = true) (hu : u.good = true) (fv : v.fits) (fu : u.fits) (h : v.code = u.code) : v = u := by
  rw [← cand_code hv fv, ← cand_code hu fu, h]
theorem cmpG_swap {v u : V} (hv : v.good = true) (hu : u.good = true) (fv : v.fits) (fu : u.fits) : cmpG u v = - cmpG v u := by
  rw [← code_order hv hu fv fu, ← code_order hu hv fu fv, cmpB_swap]
end Go.Proofs.Ytcfjooeagfollaa.Sign
