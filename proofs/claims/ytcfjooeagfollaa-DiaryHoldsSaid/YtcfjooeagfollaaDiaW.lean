/- gaugerlaw07.awake. -/
import Derived.Test.YtcfjooeagfollaaDiaA
namespace Go.Proofs.Ytcfjooeagfollaa.Dia
open Go.RowKit Go.Proofs.Ytcfjooeagfollaa.Mem Go.Proofs.Ytcfjooeagfollaa.Bytes Go.Proofs.Ytcfjooeagfollaa.Mains Go.Proofs.Ytcfjooeagfollaa.Reel Go.Proofs.Ytcfjooeagfollaa.Note
set_option linter.unusedSimpArgs false
set_option linter.unusedVariables false
set_option maxRecDepth 20000

/-- A record without lists. -/
def bare (k d : Int) : Rec := ⟨k, d, 0, 0, 0, 0, ⟨#[]⟩, ⟨#[]⟩, [], [], []⟩
def bareS (k d : Int) : Sr := ⟨0, bare k d, none, 0, none, 0, none, 0⟩
theorem bareS_has (k d : Int) (w : World) : (bareS k d).Has w :=
  ⟨⟨rfl, by simp [bareS, bare], fun i x hx => by simp [bareS, bare] at hx⟩, ⟨rfl, by simp [bareS, bare], fun i x hx => by simp [bareS, bare] at hx⟩, ⟨rfl, by simp [bareS, bare], fun i x hx => by simp [bareS, bare] at hx⟩⟩
theorem bareS_caps (k d : Int) : (bareS k d).Caps := ⟨Nat.le_refl _, Nat.le_refl _, Nat.le_refl _⟩
theorem bareS_off (k d : Int) (S : Nat → Prop) : (bareS k d).Off S := ⟨fun ad e => by simp [bareS] at e, fun ad e => by simp [bareS] at e, fun ad e => by simp [bareS] at e⟩
theorem bare_size {k d : Int} (h : (bare k d).good = true) : (bare k d).size = 29 := by
  unfold Rec.size
  rw [if_pos h]
  rfl
theorem bare_len {k d : Int} (h : (bare k d).good = true) : (bare k d).bytes.length = 29 := by
  rw [bytes_length, body_len _ h, bare_size h]
theorem good3 : (bare 3 0).good = true := by decide
theorem good4 : (bare 4 2).good = true := by decide
theorem size3 : (bare 3 0).size = 29 := bare_size good3
set_option maxHeartbeats 4000000 in
theorem awake_calls (w : World) : Calls Try.prog 23 #[] w fun e w' => e = .returned (.bool true) ∧ Below w.heap.size w w' := by
  go_enter Try.func23, Try.ntmps23
  go_wp2_with fail
  refine (Mains.new_calls _).mono ?_
  rintro e w1 ⟨rfl, rfl⟩
  have M1 := Lib.hid (Row.new w 147 M.fresh.cells)
  have B1 := Lib.hid ((Below.refl w.heap.size w).alloc (Nat.le_refl _) (.cells M.fresh.cells.toArray 147))
  have z1 : (w.alloc (.cells M.fresh.cells.toArray 147)).heap.size = w.heap.size + 1 := by simp
  have Z1 := Lib.hid z1
  clear z1
  generalize w.alloc (.cells M.fresh.cells.toArray 147) = w1 at *
  go_wp2_with fail
  refine (Reel.new_calls w.heap.size 1000 w1 (by have := Z1.out; omega)).mono ?_
  rintro e w2 ⟨rfl, hF, k2, z2⟩
  have M2 := Lib.hid (M1.out.below k2 M1.out.lt)
  have B2 := Lib.hid (B1.out.trans (k2.mono B1.out.size))
  have Z2 := Lib.hid z2
  have FR := Lib.hid hF
  clear hF k2 z2
  go_wp2_with fail
  have RI := Lib.hid (show Reel.Is w2 (Tight none w2) w.heap.size w1.heap.size (R.fresh 1000) from FR.out.is (fun x => by
    have := Z1.out
    have := Z2.out
    rcases x with x | x
    · cases x
    · omega) (fun x => by
    have := Z2.out
    rcases x with x | x
    · cases x
    · omega) (fun k hk => .inr hk))
  refine (open_calls w2 none w.heap.size w1.heap.size M.fresh (R.fresh 1000) RI.out M2.out rfl rfl (fun k e => by cases e) (Nat.zero_le _)).mono ?_
  rintro e w3 ⟨ls, la, lcap, L, mb, n, d', rfl, hE, hV, hst, hD, hc, hL, hmb, hn, ht⟩
  obtain rfl : ls = [] := by
    have := congrArg List.length hst
    rw [List.length_map] at this
    exact List.eq_nil_of_length_eq_zero this
  obtain rfl : n = 0 := hn
  have B3 := Lib.hid (B2.out.trans (hc.below (B := w.heap.size) B2.out.size (fun i e => by
    rcases e with e | e | e | e
    · omega
    · have := Z1.out; omega
    · cases e
    · have := B2.out.size; omega)))
  have D3 := Lib.hid (show Dia w3 d' w.heap.size w1.heap.size L mb M.fresh (R.fresh 1000) 0 (fun _ => none) 0 0 from hD)
  have T3 := Lib.hid (show ∀ k, d' = some k → w.heap.size ≤ k from fun k e => by
    rcases ht k e with h | h
    · cases h
    · have := B2.out.size; omega)
  have HL := Lib.hid (show w.heap.size ≤ L from by have := B2.out.size; omega)
  have HM := Lib.hid (show w.heap.size ≤ mb from by have := B2.out.size; omega)
  have HR := Lib.hid (show w.heap.size ≤ w1.heap.size from by have := Z1.out; omega)
  clear hE hV hst hD hc ht hL hmb FR M1 M2
  obtain ⟨r4, hr4⟩ : ∃ r4, (R.fresh 1000).add (bs (bare 3 0).bytes) = r4 := ⟨_, rfl⟩
  have L4 := Lib.hid (show r4.data.length = 29 from by rw [← hr4]; exact bare_len good3)
  have S4 := Lib.hid (show r4.safe = 0 from by rw [← hr4]; rfl)
  have G4 := Lib.hid (show r4.size = 1000 from by rw [← hr4]; rfl)
  have A1 := Lib.hid (show Calls Try.prog 52 #[.pointer (some ⟨L, 0, none⟩), .agg (bareS 3 0).recCells.toArray] w3 (fun e w' => e = .returned (.tuple #[.int .i64 1, .int .i64 0]) ∧ (∃ d4, Dia w' d4 w.heap.size w1.heap.size L mb M.fresh r4 1 (fun j => if j = 1 then some (bare 3 0) else none) 1 0 ∧ ∀ k, d4 = some k → d' = some k ∨ w3.heap.size ≤ k) ∧ Chg (fun k => Reel.Own (Tight d' w3) w.heap.size w1.heap.size k ∨ k = L ∨ k = mb) w3 w') from by
    have h := add_calls D3.out (bareS 3 0) (bareS_has _ _ _) (bareS_caps _ _) (bareS_off _ _ _) good3 (by show (((bare 3 0).bytes.length : Nat) : Int) ≤ _; rw [bare_len good3]; decide) rfl rfl rfl (by decide)
    unfold AddPost at h
    rw [show (R.fresh 1000).add (bs (bareS 3 0).r.bytes) = r4 from hr4] at h
    exact h)
  clear hr4
  go_wp2_with fail
  refine A1.out.mono ?_
  rintro e w4 ⟨rfl, ⟨d4, hD4, ht4⟩, hc4⟩
  have D4 := Lib.hid hD4
  have B4 := Lib.hid (B3.out.trans (hc4.below (B := w.heap.size) B3.out.size (fun i e => by
    have := HL.out
    have := HM.out
    have := HR.out
    have := B3.out.size
    rcases e with (e | e | e | e) | e | e
    · omega
    · omega
    · exact T3.out _ e
    · omega
    · omega
    · omega)))
  have T4 := Lib.hid (show ∀ k, d4 = some k → w.heap.size ≤ k from fun k e => by
    rcases ht4 k e with h | h
    · exact T3.out k h
    · have := B3.out.size; omega)
  clear hD4 ht4 hc4 A1 D3 T3
  obtain ⟨r5, hr5⟩ : ∃ r5, r4.add (bs (bare 4 2).bytes) = r5 := ⟨_, rfl⟩
  have L5 := Lib.hid (show r5.data.length = 58 from by
    rw [← hr5]
    show (r4.data ++ (bare 4 2).bytes).length = 58
    rw [List.length_append, L4.out, bare_len good4])
  have S5 := Lib.hid (show r5.safe = 0 from by rw [← hr5]; exact S4.out)
  have G5 := Lib.hid (show r5.size = 1000 from by rw [← hr5]; exact G4.out)
  have A2 := Lib.hid (show Calls Try.prog 52 #[.pointer (some ⟨L, 0, none⟩), .agg (bareS 4 2).recCells.toArray] w4 (fun e w' => e = .returned (.tuple #[.int .i64 30, .int .i64 0]) ∧ (∃ d5, Dia w' d5 w.heap.size w1.heap.size L mb M.fresh r5 2 (fun j => if j = 30 then some (bare 4 2) else if j = 1 then some (bare 3 0) else none) 30 0 ∧ ∀ k, d5 = some k → d4 = some k ∨ w4.heap.size ≤ k) ∧ Chg (fun k => Reel.Own (Tight d4 w4) w.heap.size w1.heap.size k ∨ k = L ∨ k = mb) w4 w') from by
    have h := add_calls D4.out (bareS 4 2) (bareS_has _ _ _) (bareS_caps _ _) (bareS_off _ _ _) good4 (by show (((bare 4 2).bytes.length : Nat) : Int) ≤ _; rw [bare_len good4, L4.out, G4.out]; decide) rfl rfl (by rw [L4.out]; rfl) (by decide)
    unfold AddPost at h
    rw [show r4.add (bs (bareS 4 2).r.bytes) = r5 from hr5, L4.out] at h
    exact h)
  clear hr5
  go_wp2_with fail
  refine A2.out.mono ?_
  rintro e w5 ⟨rfl, ⟨d5, hD5, ht5⟩, hc5⟩
  have D5 := Lib.hid hD5
  have B5 := Lib.hid (B4.out.trans (hc5.below (B := w.heap.size) B4.out.size (fun i e => by
    have := HL.out
    have := HM.out
    have := HR.out
    have := B4.out.size
    rcases e with (e | e | e | e) | e | e
    · omega
    · omega
    · exact T4.out _ e
    · omega
    · omega
    · omega)))
  clear hD5 ht5 hc5 A2 D4 T4
  have AT := Lib.hid (show Calls Try.prog 62 #[.pointer (some ⟨L, 0, none⟩), .int .i64 30] w5 (fun e w' => AtPost w5.heap.size (some (bare 4 2)) e w' ∧ Below w5.heap.size w5 w') from at_calls D5.out 30 rfl)
  go_wp2_with fail
  refine AT.out.mono ?_
  rintro e w6 ⟨⟨v, rfl, hN⟩, k6⟩
  have D6 := Lib.hid (D5.out.below k6)
  have B6 := Lib.hid (B5.out.trans (k6.mono B5.out.size))
  clear k6 AT D5
  obtain ⟨b0, n0, c0, b1, n1, c1, b2, n2, c2, hv, _⟩ := hN
  subst hv
  have C6 := Lib.hid (Row.new w6 58 [.int .i64 0, .int .i64 0, .int .i64 0, .int .i64 0, .slice none 0 0, .int .i64 0, .int .i64 0, .string ⟨#[]⟩, .string ⟨#[]⟩, .slice none 0 0, .slice none 0 0])
  have B7 := Lib.hid ((Below.refl w6.heap.size w6).alloc (Nat.le_refl _) (.cells #[.int .i64 0, .int .i64 0, .int .i64 0, .int .i64 0, .slice none 0 0, .int .i64 0, .int .i64 0, .string ⟨#[]⟩, .string ⟨#[]⟩, .slice none 0 0, .slice none 0 0] 58))
  go_wp2_with (refine store_row C6.out (((some (bare 4 2)).getD noRec).cells (.slice b0 n0 c0) (.slice b1 n1 c1) (.slice b2 n2 c2)) 58 (by kernel_rfl) rfl (by simp [Rec.cells, Value.oneCell']) rfl rfl rfl rfl ?_; intro w7 h7 k7 z7; have C7 := Lib.hid h7; have B8 := Lib.hid (B7.out.trans (k7.below (B := w6.heap.size) B7.out.size (fun i e => by have e : i = w6.heap.size := e; omega))); have x1 := h7.cell (i := 1) (v := .int .i64 2) rfl; clear h7 k7 z7)
  have D7 := Lib.hid (D6.out.below B8.out)
  have B9 := Lib.hid (B6.out.trans (B8.out.mono B6.out.size))
  clear D6 B6 B7 B8 C6 C7
  refine (last_calls D7.out).mono ?_
  rintro e w8 ⟨rfl, rfl⟩
  have RM := Lib.hid (show Calls Try.prog 61 #[.pointer (some ⟨L, 0, none⟩)] w8 (fun e w' => e = .returned (.int .i64 942) ∧ ∃ q, w' = w8.drewN q) from by
    have h := room_calls D7.out
    rw [L5.out, G5.out] at h
    exact h)
  have IS := Lib.hid (fun q => (show Calls Try.prog 63 #[.pointer (some ⟨L, 0, none⟩), .int .i64 1] (w8.drewN q) (fun e w' => e = .returned (.bool false) ∧ Below (w8.drewN q).heap.size (w8.drewN q) w') from by
    have h := issafe_calls (D7.out.drewN q) 1 rfl (fun p hp => by
      have hp : some (bare 3 0) = some p := hp
      cases hp
      exact ⟨by decide, by decide, by rw [size3]; decide⟩)
    have hf : isSafe r5 1 (some (bare 3 0)) = false := by
      show decide ((1 : Int) - 1 + ((bare 3 0).size : Int) ≤ (r5.safe : Int)) = false
      rw [size3, S5.out]
      decide
    rw [show (if (1 : Int) = 30 then some (bare 4 2) else if (1 : Int) = 1 then some (bare 3 0) else none) = some (bare 3 0) from rfl, hf] at h
    exact h))
  go_wp2_with fail
  refine RM.out.mono ?_
  rintro e w9 ⟨rfl, q, rfl⟩
  go_wp2_with fail
  refine (IS.out q).mono ?_
  rintro e w10 ⟨rfl, k10⟩
  have FIN := Lib.hid ((below_drewN B9.out q).trans (k10.mono (below_drewN B9.out q).size))
  clear k10
  go_wp2_with fail
  go_ret
  exact ⟨rfl, FIN.out⟩
end Go.Proofs.Ytcfjooeagfollaa.Dia
