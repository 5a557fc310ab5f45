/- The law DiaryHolds. -/
import Derived.Test.YtcfjooeagfollaaDiaK
namespace Go.Proofs.Ytcfjooeagfollaa.Dia
open Go.RowKit Go.Proofs.Ytcfjooeagfollaa.Mem Go.Proofs.Ytcfjooeagfollaa.Bytes Go.Proofs.Ytcfjooeagfollaa.Mains Go.Proofs.Ytcfjooeagfollaa.Reel Go.Proofs.Ytcfjooeagfollaa.Note
set_option linter.unusedSimpArgs false
set_option linter.unusedVariables false
set_option maxRecDepth 20000

theorem good3q {q : Int} (h0 : 0 ≤ q) (h1 : q < 100) : (bare 3 q).good = true := by
  have hi : inb (bare 3 q).deal 2147483647 = true := inb_iff.2 ⟨h0, by show q ≤ _; omega⟩
  unfold Rec.good
  rw [hi]
  rfl
theorem good40 : (bare 4 0).good = true := by decide
theorem size40 (wx : World) : Calls Try.prog 65 #[.agg (bareS 4 0).recCells.toArray] wx fun e w' => e = .returned (.int .i64 29) ∧ Below wx.heap.size wx w' := by
  obtain ⟨p0, p1, p2⟩ := bareS_has 4 0 wx
  have h := Note.size_calls (bare 4 0) none 0 0 none 0 0 none 0 0 wx p0 p1 p2 (by decide) (by decide) (by decide) (by decide) (by decide)
  rw [bare_size good40] at h
  exact h
set_option maxHeartbeats 4000000 in
theorem holds_calls (n k : Int) (a : Option Addr) (l c : Nat) (zs : List Int) (w : World) (h : Ints w a l zs) :
    Calls Try.prog 11 #[.int .i64 n, .int .i64 k, .slice a l c] w fun e w' => e = .returned (.bool true) ∧ Below w.heap.size w w' := by
  have hl0 := h.2.1
  have HI := Lib.hid h
  have AW := Lib.hid (awake_calls w)
  clear h
  by_cases hl : 40 < l
  · have hl' : ((40 : Int) < (l : Int)) := by omega
    go_enter Try.func11, Try.ntmps11
    go_wp2_with fail
    refine AW.out.mono ?_
    rintro e w1 ⟨rfl, hb⟩
    have FIN := Lib.hid hb
    clear hb
    go_wp2_with fail
    go_ret
    exact ⟨rfl, FIN.out⟩
  have hl' : ¬ ((40 : Int) < (l : Int)) := by omega
  obtain ⟨sz, hsz, hsz5⟩ := idx_mod n 2000 (by decide) (by decide)
  have hsz' : IntKind.i64.wrap ((IntKind.u64.wrap n).tmod 2000) = (sz : Int) := by rw [IntKind.wrap_i64, ← hsz, wrap64]
  obtain ⟨ct, hct, hct5⟩ := idx_mod k 10 (by decide) (by decide)
  have hct' : IntKind.i64.wrap ((IntKind.u64.wrap k).tmod 10) = (ct : Int) := by rw [IntKind.wrap_i64, ← hct, wrap64]
  have hm : IntKind.i64.wrap ((ct : Int) * 29) = (ct : Int) * 29 := IntWalk.i64_in _ (by omega)
  have hrm : room (sz : Int) = sz := by have := room_id (n := sz) (by omega) (by omega); omega
  have RMZ := Lib.hid hrm
  have SZ5 := Lib.hid hsz5
  have CT5 := Lib.hid hct5
  clear hsz hct hrm hsz5 hct5
  go_enter Try.func11, Try.ntmps11
  go_wp2_with fail
  refine AW.out.mono ?_
  rintro e w0 ⟨rfl, hb⟩
  have B0 := Lib.hid hb
  clear hb AW
  have C0 := Lib.hid (Row.new w0 58 [.int .i64 0, .int .i64 0, .int .i64 0, .int .i64 0, .slice none 0 0, .int .i64 0, .int .i64 0, .string ⟨#[]⟩, .string ⟨#[]⟩, .slice none 0 0, .slice none 0 0])
  have B1 := Lib.hid ((Below.refl w0.heap.size w0).alloc (Nat.le_refl _) (.cells #[.int .i64 0, .int .i64 0, .int .i64 0, .int .i64 0, .slice none 0 0, .int .i64 0, .int .i64 0, .string ⟨#[]⟩, .string ⟨#[]⟩, .slice none 0 0, .slice none 0 0] 58))
  go_wp2_with (first | (refine store_row C0.out (bareS 4 0).recCells 58 (by kernel_rfl) rfl (by simp [bareS, Sr.recCells, Rec.cells, Value.oneCell']) rfl rfl rfl rfl ?_; intro w1 h1 k1 z1; have C1 := Lib.hid h1; have B2 := Lib.hid (B1.out.trans (k1.below (B := w0.heap.size) B1.out.size (fun i e => by have e : i = w0.heap.size := e; omega))); clear h1 k1 z1) | (refine load_row C1.out 58 Try.underlying58 rfl (by kernel_rfl) rfl rfl rfl ?_))
  refine (size40 _).mono ?_
  rintro e w2 ⟨rfl, k2⟩
  have C2 := Lib.hid (C1.out.below k2 C1.out.lt)
  have B3 := Lib.hid (B0.out.trans ((B2.out.trans (k2.mono B2.out.size)).mono B0.out.size))
  clear k2 C0 C1 B0 B1 B2
  go_wp2_with fail
  refine (Mains.new_calls _).mono ?_
  rintro e w3 ⟨rfl, rfl⟩
  have M1 := Lib.hid (Row.new w2 147 M.fresh.cells)
  have K1 := Lib.hid ((Below.refl w2.heap.size w2).alloc (Nat.le_refl _) (.cells M.fresh.cells.toArray 147))
  have z1 : (w2.alloc (.cells M.fresh.cells.toArray 147)).heap.size = w2.heap.size + 1 := by simp
  have Z1 := Lib.hid z1
  clear z1
  generalize w2.alloc (.cells M.fresh.cells.toArray 147) = w3 at *
  go_wp2_with fail
  refine (Reel.new_calls w2.heap.size sz w3 (by have := Z1.out; omega)).mono ?_
  rintro e w4 ⟨rfl, hF, k2, z2⟩
  have M2 := Lib.hid (M1.out.below k2 M1.out.lt)
  have K2 := Lib.hid (K1.out.trans (k2.mono K1.out.size))
  have Z2 := Lib.hid z2
  rw [RMZ.out] at hF
  have RI := Lib.hid (show Reel.Is w4 (Tight none w4) w2.heap.size w3.heap.size (R.fresh sz) from hF.is (fun x => by
    have := Z1.out
    have := Z2.out
    rcases x with x | x
    · cases x
    · omega) (fun x => by
    have := Z2.out
    rcases x with x | x
    · cases x
    · omega) (fun k hk => .inr hk))
  clear hF k2 z2 RMZ
  go_wp2_with fail
  refine (open_calls w4 none w2.heap.size w3.heap.size M.fresh (R.fresh sz) RI.out M2.out rfl rfl (fun k e => by cases e) (Nat.zero_le _)).mono ?_
  intro e w5 hO
  obtain ⟨la, lcap, L, mb, rfl, hS⟩ := St.alloc0 sz RI.out hO K2.out (Nat.le_refl _) (by have := Z1.out; omega)
  have S5 := Lib.hid hS
  clear hO hS RI M1 M2 K1 K2 Z1 Z2
  generalize w2.heap.size = B at *
  generalize w3.heap.size = b at *
  by_cases hfit : (sz : Int) < (ct : Int) * 29
  · go_wp2_with fail
    refine (S5.out.hold_full _ (by omega) hfit).mono ?_
    rintro e w6 ⟨rfl, hS⟩
    have S6 := Lib.hid hS
    clear hS
    go_wp2_with fail
    refine S6.out.room.mono ?_
    rintro e w7 ⟨rfl, q, rfl⟩
    have FIN := Lib.hid (B3.out.trans ((below_drewN S6.out.below q).mono B3.out.size))
    go_wp2_with fail
    go_ret
    exact ⟨rfl, FIN.out⟩
  have hfit' : (ct : Int) * 29 ≤ (sz : Int) := by omega
  go_wp2_with fail
  refine (S5.out.hold _ (by omega) hfit').mono ?_
  rintro e w6 ⟨rfl, hS⟩
  have S6 := Lib.hid hS
  have W2 := Lib.hid (show w2 = w2 from rfl)
  clear hS S5
  go_wp2_with fail
  go_loopw [15] (fun i wr => ∃ (j : Nat) (left : Int), j ≤ l ∧ i = .int .i64 (j : Int) ∧ St w2 B b L mb j sz ((ct : Int) * 29) left wr) (fun i _ => l - (intOf i).toNat)
  case atStart => exact ⟨0, _, by omega, rfl, S6.out⟩
  case round =>
    clear S6 hfit hl'
    obtain ⟨j, left, hj, rfl, hS⟩ := hrel
    have SJ := Lib.hid hS
    clear hS
    by_cases hlt : j < l
    · obtain ⟨ad, rfl, hx⟩ := HI.out.at hlt (B3.out.trans (SJ.out.below.mono B3.out.size))
      have hxs : ∀ w', Below w.heap.size w w' → w'.cell? (ad.add j) = some (.int .i64 (zs.getD j 0)) := fun w' hb => HI.out.cell hlt hb
      generalize zs.getD j 0 = x at hx hxs
      have HX := Lib.hid hxs
      obtain ⟨q, hq, hq5⟩ := idx_mod x 100 (by decide) (by decide)
      have hq' : IntKind.i64.wrap ((IntKind.u64.wrap x).tmod 100) = (q : Int) := by rw [IntKind.wrap_i64, ← hq, wrap64]
      have Q5 := Lib.hid hq5
      have hlt' : (j : Int) < (l : Int) := by omega
      clear hxs hx hq hq5
      by_cases hr : 29 ≤ left
      · have hr' : decide (29 ≤ left) = true := by simpa using hr
        as_aux_lemma =>
          go_wp2_with fail
          refine SJ.out.room.mono ?_
          rintro e w7 ⟨rfl, q7, rfl⟩
          have SK := Lib.hid (SJ.out.next (below_drewN (Below.refl _ _) q7))
          have hx := HX.out _ (B3.out.trans (SK.out.below.mono B3.out.size))
          go_wp2_with fail
          refine (SK.out.add 3 (q : Int) (good3q (by omega) Q5.out) hr (by omega)).mono ?_
          rintro e w8 ⟨⟨z, rfl⟩, hS⟩
          have SL := Lib.hid hS
          clear hS hx
          go_wp2_with fail
          go_roundw
          case rel => exact ⟨j + 1, _, by omega, by go_num, SL.out⟩
          case measure => simp [intOf]; omega
      · have hr' : decide (29 ≤ left) = false := by simpa using hr
        as_aux_lemma =>
          go_wp2_with fail
          refine SJ.out.room.mono ?_
          rintro e w7 ⟨rfl, q7, rfl⟩
          have SK := Lib.hid (SJ.out.next (below_drewN (Below.refl _ _) q7))
          have hx := HX.out _ (B3.out.trans (SK.out.below.mono B3.out.size))
          go_wp2_with fail
          refine (SK.out.add_full 3 (q : Int) (good3q (by omega) Q5.out) (by omega)).mono ?_
          rintro e w8 ⟨rfl, hS⟩
          have SL := Lib.hid hS
          clear hS hx
          go_wp2_with fail
          go_roundw
          case rel => exact ⟨j + 1, _, by omega, by go_num, by obtain ⟨⟨d, r, n, g, last, h1, h2, h3, h4⟩, h5, h6⟩ := SL.out; exact ⟨⟨d, r, n, g, last, h1, h2, by omega, h4⟩, h5, h6⟩⟩
          case measure => simp [intOf]; omega
    · obtain rfl : j = l := by omega
      as_aux_lemma =>
        go_wp2_with fail
        refine SJ.out.free.mono ?_
        rintro e w7 ⟨rfl, hS⟩
        have hleft : 0 ≤ left := by
          obtain ⟨d, r, n, g, last, h1, h2, h3, h4, h5, h6⟩ := SJ.out.all
          have := h1.hl
          omega
        have SM := Lib.hid hS
        clear hS SJ
        go_wp2_with fail
        go_loopw [19] (fun i wr => ∃ (t : Nat) (rest : Int), t ≤ ct ∧ ((ct : Int) - (t : Int)) * 29 ≤ rest ∧ i = .int .i64 (t : Int) ∧ St w2 B b L mb (j + t) sz 0 rest wr) (fun i _ => ct - (intOf i).toNat)
        case atStart => exact ⟨0, _, by omega, by omega, rfl, SM.out⟩
        case round =>
          clear SM hleft
          obtain ⟨t, rest, ht, hrest, rfl, hS⟩ := hrel
          have SJ := Lib.hid hS
          have CJ := Lib.hid (C2.out.below SJ.out.below C2.out.lt)
          have HR := Lib.hid hrest
          clear hS hrest
          by_cases hlt : t < ct
          · have hlt' : (t : Int) < (ct : Int) := by omega
            as_aux_lemma =>
              go_wp2_with (refine load_row CJ.out 58 Try.underlying58 rfl (by kernel_rfl) rfl rfl rfl ?_)
              refine (SJ.out.add 4 0 good40 (by have := HR.out; omega) (by have := CT5.out; omega)).mono ?_
              rintro e w8 ⟨⟨z, rfl⟩, hS⟩
              have SL := Lib.hid hS
              clear hS
              go_wp2_with fail
              have c5 := CT5.out
              have hw : wrap64 ((t : Int) + 1) = (t : Int) + 1 := by unfold wrap64; omega
              go_roundw
              case rel => exact ⟨t + 1, _, by omega, by have := HR.out; omega, by go_num, SL.out⟩
              case measure =>
                have e : ∀ z : Int, z = (t : Int) + 1 → ct - (intOf (.int .i64 z)).toNat < ct - (intOf (.int .i64 (t : Int))).toNat := fun z hz => by
                  subst hz
                  show ct - ((t : Int) + 1).toNat < ct - ((t : Int)).toNat
                  omega
                exact e _ (by first | exact hw | rfl | skip)
          · have hlt' : ¬ (t : Int) < (ct : Int) := by omega
            as_aux_lemma =>
              go_wp2_with (refine load_row CJ.out 58 Try.underlying58 rfl (by kernel_rfl) rfl rfl rfl ?_)
              refine (add_nil (bareS 4 0) _).mono ?_
              rintro e w8 ⟨rfl, k8⟩
              have E8 := Lib.hid (B3.out.trans ((SJ.out.below.trans (k8.mono SJ.out.below.size)).mono B3.out.size))
              clear k8
              go_wp2_with fail
              refine (at_nil 1 _).mono ?_
              rintro e w9 ⟨⟨v, rfl, hN⟩, k9⟩
              have E9 := Lib.hid (E8.out.trans (k9.mono E8.out.size))
              obtain ⟨b0, n0, c0, b1, n1, c1, b2, n2, c2, hv, _⟩ := hN
              subst hv
              clear k9
              have CA := Lib.hid (Row.new w9 58 [.int .i64 0, .int .i64 0, .int .i64 0, .int .i64 0, .slice none 0 0, .int .i64 0, .int .i64 0, .string ⟨#[]⟩, .string ⟨#[]⟩, .slice none 0 0, .slice none 0 0])
              have EA := Lib.hid (E9.out.alloc E9.out.size (.cells #[.int .i64 0, .int .i64 0, .int .i64 0, .int .i64 0, .slice none 0 0, .int .i64 0, .int .i64 0, .string ⟨#[]⟩, .string ⟨#[]⟩, .slice none 0 0, .slice none 0 0] 58))
              go_wp2_with (refine store_row CA.out ((Option.none.getD noRec).cells (.slice b0 n0 c0) (.slice b1 n1 c1) (.slice b2 n2 c2)) 58 (by kernel_rfl) rfl (by simp [Rec.cells, Value.oneCell']) rfl rfl rfl rfl ?_; intro w10 h10 k10 z10; have EB := Lib.hid (EA.out.trans (k10.below (B := w.heap.size) EA.out.size (fun i e => by have e : i = w9.heap.size := e; have := E9.out.size; omega))); clear h10 k10 z10)
              refine (free_nil _ 1).mono ?_
              rintro e w11 ⟨rfl, rfl⟩
              go_wp2_with fail
              refine (force_nil _ 1).mono ?_
              rintro e w12 ⟨rfl, rfl⟩
              go_wp2_with fail
              refine (hold_nil _ 1).mono ?_
              rintro e w13 ⟨rfl, rfl⟩
              go_wp2_with fail
              refine (room_nil _).mono ?_
              rintro e w14 ⟨rfl, rfl⟩
              go_wp2_with fail
              refine (last_nil _).mono ?_
              rintro e w15 ⟨rfl, rfl⟩
              go_wp2_with fail
              refine (issafe_nil 1 _).mono ?_
              rintro e w16 ⟨rfl, k16⟩
              have FIN := Lib.hid (EB.out.trans (k16.mono EB.out.size))
              clear k16
              go_wp2_with fail
              go_ret
              exact ⟨rfl, FIN.out⟩
theorem holds_row (n k : Int) (a : Option Addr) (l c : Nat) (xs : List Int) (w : World) (hn : (Lit.int .i64 n).wf = true) (hk : (Lit.int .i64 k).wf = true) (h : SlcIn (Cod.int .i64) w a l c xs) :
    Calls Try.prog 11 #[.int .i64 n, .int .i64 k, .slice a l c] w fun e w' => e = .returned (.bool true) ∧ Below w.heap.size w w' :=
  holds_calls n k a l c xs w (ints_of h).1
end Go.Proofs.Ytcfjooeagfollaa.Dia
