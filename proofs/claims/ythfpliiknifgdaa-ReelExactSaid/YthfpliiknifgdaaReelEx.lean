/- The law ReelExact: the document's reel, and the walk. -/
import Derived.Test.YthfpliiknifgdaaReelLaw
import Derived.Test.YthfpliiknifgdaaMainsEx
import Derived.Deep.CutRange
import Derived.Deep.CutBlock
namespace Go.Proofs.Ythfpliiknifgdaa.Reel
open Go.RowKit Go.Proofs.Ythfpliiknifgdaa.Mem Go.Proofs.Ythfpliiknifgdaa.Bytes Go.Proofs.Ythfpliiknifgdaa.Mains
set_option linter.unusedSimpArgs false
set_option linter.unusedVariables false

/-- The document's reel. -/
def R.cells (r : R) : List Value := [.string (bs r.data), .int .i64 (r.safe : Int), .int .i64 (r.size : Int)]
theorem rcells_at {w : World} {b : Nat} {e : TypeId} {r : R} (h : Row w b e r.cells) :
    w.cell? ⟨b, 0, none⟩ = some (.string (bs r.data)) ∧ w.cell? ⟨b, 1, none⟩ = some (.int .i64 (r.safe : Int)) ∧ w.cell? ⟨b, 2, none⟩ = some (.int .i64 (r.size : Int))
    ∧ w.frozen? ⟨b, 0, none⟩ = false ∧ w.frozen? ⟨b, 1, none⟩ = false ∧ w.frozen? ⟨b, 2, none⟩ = false :=
  ⟨h.cell rfl, h.cell rfl, h.cell rfl, h.frozen 0 (by simp [R.cells]), h.frozen 1 (by simp [R.cells]), h.frozen 2 (by simp [R.cells])⟩

theorem room_min' (n : Int) : ∀ W : World, (Builtin.min_ #[3, 3] 3 #[.int .i64 n, .int .i64 262144]).run Try.prog W = .ok (.int .i64 (if 262144 < n then 262144 else n)) W := by
  intro W
  rw [min_of_two, min2_ints]
  simp
theorem room_max' (n : Int) : ∀ W : World, (Builtin.max_ #[3, 3] 3 #[.int .i64 0, .int .i64 (if 262144 < n then 262144 else n)]).run Try.prog W = .ok (.int .i64 ((room n : Nat) : Int)) W := by
  intro W
  rw [max_of_two, max2_ints]
  have : (if (0 : Int) < (if 262144 < n then 262144 else n) then (if 262144 < n then 262144 else n) else (0 : Int)) = ((room n : Nat) : Int) := by
    unfold room
    repeat' split
    all_goals omega
  rw [this]
  simp

set_option maxHeartbeats 400000 in
theorem refnew_calls (n : Int) (w : World) :
    Calls Try.prog 22 #[.int .i64 n] w fun e w' => e = .returned (.pointer (some ⟨w.heap.size, 0, none⟩)) ∧ w' = w.alloc (.cells (R.fresh (room n)).cells.toArray 47) := by
  have h1 := room_min' n
  have h2 := room_max' n
  go_enter Try.func22, Try.ntmps22
  go_wp2
  all_goals
    go_ret
    exact ⟨rfl, rfl⟩

set_option maxHeartbeats 1600000 in
set_option maxRecDepth 4000 in
theorem refsettle_calls (b : Nat) (r : R) (n : Int) (w : World) (h : Row w b 47 r.cells) (hk : r.ok) :
    Calls Try.prog 24 #[.pointer (some ⟨b, 0, none⟩), .int .i64 n] w fun e w' => e = .returned (.tuple #[]) ∧ Row w' b 47 (r.cut (kept r n)).cells ∧ Chg (One b) w w' := by
  obtain ⟨hk1, hk2, hk3⟩ := hk
  obtain ⟨c0, c1, c2, f0, f1, f2⟩ := rcells_at h
  have hbl := bs_len r.data
  have H := Lib.hid h
  clear h
  go_enter Try.func24, Try.ntmps24
  go_wp2
  go_quiet (fail)
  go_wp2
  have hkd : (r.data.length : Int) - (r.safe : Int) = ((r.data.length - r.safe : Nat) : Int) := by omega
  rw [hkd]
  have hkn := kept_num (r := r) n hk1 (by omega)
  have hkl := kept_le (r := r) n hk1
  have hnz : ((r.data.length - r.safe : Nat) : Int) + 1 ≠ 0 := by omega
  have hnz' : ((((r.data.length - r.safe : Nat) : Int) + 1) == 0) = false := by simp; omega
  have hw1 : IntKind.i64.wrap (((r.data.length - r.safe : Nat) : Int) + 1) = ((r.data.length - r.safe : Nat) : Int) + 1 := by rw [IntKind.wrap_i64]; omega
  have hw2 : IntKind.u64.wrap (((r.data.length - r.safe : Nat) : Int) + 1) = ((r.data.length - r.safe : Nat) : Int) + 1 := by simp only [IntKind.wrap, IntKind.bits, IntKind.signed]; simp; omega
  have hex : (bs r.data).extract 0 (kept r n) = bs (r.data.take (kept r n)) := by rw [extract_take]; rfl
  have hsz : (bs (r.data.take (kept r n))).size = kept r n := by rw [bs_len]; simp; omega
  replace c0 : (w.drewN nq).cell? ⟨b, 0, none⟩ = some (.string (bs r.data)) := c0
  replace c1 : (w.drewN nq).cell? ⟨b, 1, none⟩ = some (.int .i64 (r.safe : Int)) := c1
  replace f0 : (w.drewN nq).frozen? ⟨b, 0, none⟩ = false := f0
  replace f1 : (w.drewN nq).frozen? ⟨b, 1, none⟩ = false := f1
  have hc0 : Chg (One b) w (w.drewN nq) := (Chg.refl _ _).drewN _
  have HR := Lib.hid (H.out.drewN nq)
  clear hkd c2 f2 H
  generalize w.drewN nq = w4 at *
  go_region
  all_goals
    go_wp2
    go_end0
    exact ⟨rfl, (((Row.drew HR.out).set 0 _).set 1 _).cast rfl, ((hc0.drew).put _ _).put _ _⟩

/-- A deed as it lies in cells. -/
abbrev act : Cod (Int × Int × ByteArray × Unit) := Cod.pair (Cod.int .i64) (Cod.pair (Cod.int .i64) (Cod.pair Cod.str Cod.unit))
/-- A field's address, as the walk spells it. -/
theorem add_field (ad : Addr) (n k : Nat) : (⟨(ad.add n).block, (ad.add n).off + (k + 1), none⟩ : Addr) = ad.add (n + (k + 1)) := by
  unfold Addr.add
  rw [if_neg (show ¬ n + (k + 1) = 0 by omega)]
  split
  · simp_all
  · simp; omega
theorem act_at {w w' : World} {a : Option Addr} {n cap : Nat} {xs : List (Int × Int × ByteArray × Unit)} (h : SlcIn act w a n cap xs) {i : Nat} (hi : i < n) :
    ∃ ad k z s, a = some ad ∧ (z : Int) ≤ 9223372036854775807 ∧ ∀ w', Below w.heap.size w w' → w'.cell? (ad.add (i * 3)) = some (.int .i64 k) ∧ w'.cell? ⟨(ad.add (i * 3)).block, (ad.add (i * 3)).off + 1, none⟩ = some (.int .i64 z) ∧ w'.cell? ⟨(ad.add (i * 3)).block, (ad.add (i * 3)).off + 2, none⟩ = some (.string s) := by
  obtain ⟨ad, cs, x, ha, hx, hc, hR⟩ := h.at (Below.refl _ w) hi
  obtain ⟨c1, c2, rfl, ⟨rfl, _⟩, c3, c4, rfl, ⟨rfl, hz⟩, c5, c6, rfl, ⟨rfl, _⟩, hu⟩ := hR
  cases hu
  refine ⟨ad, x.1, x.2.1, x.2.2.1, ha, wf_le hz, fun w' hb => ?_⟩
  have h0 := hc 0 (by decide)
  have h1 := hc 1 (by decide)
  have h2 := hc 2 (by decide)
  simp [act, Cod.pair, Cod.int, Cod.str, Cod.unit] at h0 h1 h2
  rw [add_field ad (i * 3) 0, add_field ad (i * 3) 1]
  exact ⟨(hb.cell (World.block_lt_of_cell? w _ h0)).trans h0, (hb.cell (World.block_lt_of_cell? w _ h1)).trans h1, (hb.cell (World.block_lt_of_cell? w _ h2)).trans h2⟩

set_option maxHeartbeats 40000000 in
set_option maxRecDepth 8000 in
theorem exact_calls (n : Int) (a : Option Addr) (l c : Nat) (xs : List (Int × Int × ByteArray × Unit)) (w : World) (h : SlcIn act w a l c xs) :
    Calls Try.prog 5 #[.int .i64 n, .slice a l c] w fun e w' => e = .returned (.bool true) ∧ Below w.heap.size w w' := by
  have hl0 := h.len.2
  go_enter Try.func5, Try.ntmps5
  go_wp2_with fail
  refine (awake_calls _).mono ?_
  rintro e w1 ⟨rfl, hb⟩
  go_wp2_with fail
  refine (Mains.new_calls _).mono ?_
  rintro e w2 ⟨rfl, rfl⟩
  have hm : Row (w1.alloc (.cells M.fresh.cells.toArray 75)) w1.heap.size 75 M.fresh.cells := Row.new _ _ _
  have hB : w.heap.size ≤ w1.heap.size := hb.size
  have hB2 : w1.heap.size < (w1.alloc (.cells M.fresh.cells.toArray 75)).heap.size := by simp
  replace hb : Below w.heap.size w (w1.alloc (.cells M.fresh.cells.toArray 75)) := hb.alloc hb.size _
  generalize w1.alloc (.cells M.fresh.cells.toArray 75) = w2 at hm hb hB2 ⊢
  generalize w1.heap.size = B at hm hB hB2 ⊢
  go_wp2_with fail
  have hr2 : Row (w2.alloc (.cells M.fresh.cells.toArray 41)) w2.heap.size 41 M.fresh.cells := Row.new _ _ _
  have hC2 : w2.heap.size < (w2.alloc (.cells M.fresh.cells.toArray 41)).heap.size := by simp
  replace hm := hm.alloc (.cells M.fresh.cells.toArray 41)
  replace hb : Below w.heap.size w (w2.alloc (.cells M.fresh.cells.toArray 41)) := hb.alloc hb.size _
  change Calls _ _ _ (w2.alloc (.cells M.fresh.cells.toArray 41)) _
  generalize w2.alloc (.cells M.fresh.cells.toArray 41) = w3 at hm hr2 hb hC2 ⊢
  generalize w2.heap.size = C at hr2 hB2 hC2 ⊢
  refine (Reel.new_calls B n w3 (by omega)).mono ?_
  rintro e w4 ⟨rfl, hf, hb2, hs2⟩
  replace hm := hm.below hb2 (by omega)
  replace hr2 := hr2.below hb2 (by omega)
  replace hb := below_next hb hb2 (Nat.le_refl _)
  have hbC : C < w3.heap.size := hC2
  have hb4 : w3.heap.size < w4.heap.size := by omega
  clear hb2 hs2 hC2
  generalize w3.heap.size = b at *
  go_wp2_with fail
  refine (refnew_calls n w4).mono ?_
  rintro e w5 ⟨rfl, rfl⟩
  have hR : Row (w4.alloc (.cells (R.fresh (room n)).cells.toArray 47)) w4.heap.size 47 (R.fresh (room n)).cells := Row.new _ _ _
  have hD2 : w4.heap.size + 1 = (w4.alloc (.cells (R.fresh (room n)).cells.toArray 47)).heap.size := by simp
  replace hm := hm.alloc (.cells (R.fresh (room n)).cells.toArray 47)
  replace hr2 := hr2.alloc (.cells (R.fresh (room n)).cells.toArray 47)
  replace hf := hf.alloc (.cells (R.fresh (room n)).cells.toArray 47)
  replace hb : Below w.heap.size w (w4.alloc (.cells (R.fresh (room n)).cells.toArray 47)) := hb.alloc hb.size _
  generalize w4.alloc (.cells (R.fresh (room n)).cells.toArray 47) = w5 at *
  have hr := hf.is (F := From (w4.heap.size + 1)) (fun x => by have : w4.heap.size + 1 ≤ B := x; omega) (fun x => by have : w4.heap.size + 1 ≤ b := x; omega) (fun k hk => show w4.heap.size + 1 ≤ k by omega)
  have hFC : ¬ From (w4.heap.size + 1) C := fun x => by have : w4.heap.size + 1 ≤ C := x; omega
  have hFD : ¬ From (w4.heap.size + 1) w4.heap.size := fun x => by have : w4.heap.size + 1 ≤ w4.heap.size := x; omega
  have hFw : ∀ k, From (w4.heap.size + 1) k → w.heap.size ≤ k := fun k hk => by have : w4.heap.size + 1 ≤ k := hk; omega
  clear hf hD2
  generalize From (w4.heap.size + 1) = F at *
  generalize w4.heap.size = D at *
  go_wp2_with fail
  go_loopw [9] (fun i wr => ∃ (j : Nat) (m : M) (r : R), j ≤ l ∧ j ≤ 60 ∧ i = .int .i64 j ∧ Is wr F B b r ∧ Row wr B 75 m.cells ∧ Row wr C 41 m.cells ∧ Row wr D 47 r.cells ∧ m.fit j ∧ Below w.heap.size w wr) (fun i _ => 60 - (intOf i).toNat)
  case atStart => exact ⟨0, _, _, by omega, by omega, rfl, hr, hm, hr2, hR, ⟨by decide, by decide, by decide, by decide⟩, hb⟩
  case round =>
    clear hr hm hr2 hR hb
    obtain ⟨j, m, r, hj0, hj1, rfl, hr, hm, hr2, hR, hfit, hb⟩ := hrel
    by_cases hlt : j < l ∧ j < 60
    · obtain ⟨g0, g1⟩ := hlt
      obtain ⟨ad, k, z, s, rfl, hz, hx⟩ := act_at (w' := w) h g0
      obtain ⟨x0, x1, x2⟩ := hx _ hb
      by_cases hbig : 100 < s.size
      · have hbig' : (100 : Int) < (s.size : Int) := by omega
        go_wp2
        go_ret
        exact ⟨rfl, hb.alloc hb.size _⟩
      · have hbig' : ¬ ((100 : Int) < (s.size : Int)) := by omega
        have HX := Lib.hid hx
        clear hx
        go_upto_block 2 with (fail)
        have hBX : wr.heap.size ≠ B := fun e => by have := hm.lt; omega
        have hCX : C ≠ wr.heap.size := fun e => by have := hr2.lt; omega
        have hDX : D ≠ wr.heap.size := fun e => by have := hR.lt; omega
        have hbX : wr.heap.size ≠ b := fun e => hr.2.2.1 (e ▸ hr.2.2.2.1 _ (Nat.le_refl _))
        have hX : Row (wr.alloc (.cells [.int .i64 k, .int .i64 z, .string s].toArray 45)) wr.heap.size 45 [.int .i64 k, .int .i64 z, .string s] := Row.new _ _ _
        have hFF : ∀ q, (F q ∧ q ≠ wr.heap.size) → F q := fun q hq => hq.1
        have hFX : ¬ (F wr.heap.size ∧ wr.heap.size ≠ wr.heap.size) := fun x => x.2 rfl
        have hFB : ¬ F B := hr.2.1
        have hFb : ¬ F b := hr.2.2.1
        have hXw : w.heap.size ≤ wr.heap.size := hb.size
        replace hr := hr.beside (.cells [.int .i64 k, .int .i64 z, .string s].toArray 45)
        replace hm := hm.alloc (.cells [.int .i64 k, .int .i64 z, .string s].toArray 45)
        replace hr2 := hr2.alloc (.cells [.int .i64 k, .int .i64 z, .string s].toArray 45)
        replace hR := hR.alloc (.cells [.int .i64 k, .int .i64 z, .string s].toArray 45)
        replace hb : Below w.heap.size w (wr.alloc (.cells [.int .i64 k, .int .i64 z, .string s].toArray 45)) := hb.alloc hb.size _
        change Code.wp _ _ _ _ (wr.alloc (.cells [.int .i64 k, .int .i64 z, .string s].toArray 45))
        generalize wr.alloc (.cells [.int .i64 k, .int .i64 z, .string s].toArray 45) = w6 at hX hr hm hr2 hR hb ⊢
        have hFC2 : ¬ (F C ∧ C ≠ wr.heap.size) := fun x => hFC x.1
        have hFD2 : ¬ (F D ∧ D ≠ wr.heap.size) := fun x => hFD x.1
        obtain ⟨G, hG⟩ : ∃ G : Nat → Prop, G = fun q => F q ∧ q ≠ wr.heap.size := ⟨_, rfl⟩
        have hGF : ∀ q, G q → F q := by rw [hG]; exact hFF
        have hGX : ¬ G wr.heap.size := by rw [hG]; exact hFX
        have hGC : ¬ G C := by rw [hG]; exact hFC2
        have hGD : ¬ G D := by rw [hG]; exact hFD2
        rw [← hG] at hr
        clear hFF hFX hFC2 hFD2 hG x0 x1 x2
        generalize wr.heap.size = X at *
        go_cut [11, 12, 13, 14, 15, 16] from 29 to 250 (fun s1 s2 s3 s4 s5 s6 wx => ∃ (m : M) (r : R), Is wx F B b r ∧ Row wx B 75 m.cells ∧ Row wx C 41 m.cells ∧ Row wx D 47 r.cells ∧ m.fit (j + 1) ∧ Below w.heap.size w wx)
        case first =>
          obtain ⟨f1, f2, f3, f4⟩ := id hfit
          have hfo : -1 ≤ m.fuse ∧ m.fuse ≤ 9223372036854775807 := ⟨f1, f2⟩
          have hbo : 0 ≤ m.boots ∧ m.boots ≤ 4611686018427387904 := ⟨f3, by omega⟩
          have hOC : ¬ Own G B b C := by rintro (e | e | e); omega; omega; exact hGC e
          have hOD : ¬ Own G B b D := by rintro (e | e | e); omega; omega; exact hGD e
          have hOX : ¬ Own G B b X := by rintro (e | e | e); exact hBX e; exact hbX e; exact hGX e
          have hbw : w.heap.size ≤ b := by omega
          have hGw : ∀ q, G q → w.heap.size ≤ q := fun q hq => hFw q (hGF q hq)
          have hfit1 : m.fit (j + 1) := ⟨f1, f2, f3, by omega⟩
          have hfitd : ∀ act n : Int, n ≤ 9223372036854775807 → (m.did act n).fit (j + 1) := fun act n hn => M.fit_did hfit act n hn
          have HD := Lib.hid hfitd
          obtain ⟨hk1, hk2, hk3⟩ := hr.2.2.2.2.1
          have hbl := bs_len r.data
          clear f1 f2 f3 f4 hfitd
          by_cases q1 : k = 1
          · as_aux_lemma =>
              subst q1
              by_cases hfull : r.full s = true
              · have hg : ¬ ((s.size : Int) ≤ (r.size : Int) - (r.data.length : Int)) := by simp [R.full] at hfull; omega
                have y0 := hX.cell (i := 2) rfl
                go_wp2_with fail
                refine (append_calls G B b m r s _ hr hm hfo).mono ?_
                rintro e w7 ⟨rfl, hr7, hm7, hc⟩
                rw [show appErr m r s = 5 by simp [appErr, appR, appM, hfull]]
                rw [show appR m r s = r by simp [appErr, appR, appM, hfull]] at hr7
                rw [show appM m r s = m by simp [appErr, appR, appM, hfull]] at hm7
                clear y0
                replace hb := below_own hb hc hB hbw hGw
                replace hr2 := hr2.chg hc hOC
                replace hR := hR.chg hc hOD
                replace hX := hX.chg hc hOX
                clear hc hr hm
                obtain ⟨c0, c1, c2, e0, e1, e2⟩ := rcells_at hR
                have y1 := hX.cell (i := 1) rfl
                have y2 := hX.cell (i := 2) rfl
                go_wp2
                go_quiet (fail)
                go_wp2
                replace hr2 := hr2.drewN nq
                replace hr7 := hr7.drewN nq
                replace hm7 := hm7.drewN nq
                replace hR := hR.drewN nq
                replace hX := hX.drewN nq
                replace hb := below_drewN hb nq
                go_meet
                exact ⟨m, r, (hr7).wider hGF hFB hFb, hm7, hr2, hR, hfit1, hb⟩
              · have hg : (s.size : Int) ≤ (r.size : Int) - (r.data.length : Int) := by simp [R.full] at hfull; omega
                rcases errUse_cases m with he | he
                · have y0 := hX.cell (i := 2) rfl
                  go_wp2_with fail
                  refine (append_calls G B b m r s _ hr hm hfo).mono ?_
                  rintro e w7 ⟨rfl, hr7, hm7, hc⟩
                  rw [show appErr m r s = 0 by simp [appErr, appR, appM, hfull, he]]
                  rw [show appR m r s = r.add s by simp [appErr, appR, appM, hfull, he]] at hr7
                  rw [show appM m r s = m.used by simp [appErr, appR, appM, hfull, he]] at hm7
                  clear y0
                  replace hb := below_own hb hc hB hbw hGw
                  replace hr2 := hr2.chg hc hOC
                  replace hR := hR.chg hc hOD
                  replace hX := hX.chg hc hOX
                  clear hc hr hm
                  obtain ⟨c0, c1, c2, e0, e1, e2⟩ := rcells_at hR
                  have y1 := hX.cell (i := 1) rfl
                  have y2 := hX.cell (i := 2) rfl
                  go_wp2
                  go_quiet (fail)
                  replace hr2 := hr2.drewN nq
                  replace hr7 := hr7.drewN nq
                  replace hm7 := hm7.drewN nq
                  replace hR := hR.drewN nq
                  replace hX := hX.drewN nq
                  replace hb := below_drewN hb nq
                  go_wp2_with fail
                  refine (do_calls C m 1 0 _ hr2 hfo hbo).mono ?_
                  rintro e w8 ⟨rfl, hr28, hc⟩
                  replace hb := below_one hb hc (Nat.le_refl _) (show w.heap.size ≤ C by omega)
                  rw [show M.errDo m 1 = 0 from he]
                  clear he
                  have hr8 := hr7.chg hc (show ¬ b = C by omega) (fun q hq e => hGC (by have : q = C := e; rwa [this] at hq))
                  have hm8 := hm7.chg hc (show ¬ B = C by omega)
                  replace hR := hR.chg hc (show ¬ D = C by omega)
                  replace hX := hX.chg hc (show ¬ X = C from fun e => hCX e.symm)
                  clear hc hr7 hm7 hr2 c0 c1 c2 e0 e1 e2 y1 y2
                  obtain ⟨c0, c1, c2, e0, e1, e2⟩ := rcells_at hR
                  have y1 := hX.cell (i := 1) rfl
                  have y2 := hX.cell (i := 2) rfl
                  go_wp2
                  go_region
                  all_goals
                    go_wp2
                    go_meet
                    exact ⟨m.used, r.add s, (hr8.drew.chg ((Chg.refl (One D) _).put 0 _) (show ¬ b = D by omega) (fun q hq e => hGD (by have : q = D := e; rwa [this] at hq))).wider hGF hFB hFb, hm8.drew.chg ((Chg.refl (One D) _).put 0 _) (show ¬ B = D by omega), hr28.drew.chg ((Chg.refl (One D) _).put 0 _) (show ¬ C = D by omega), (hR.drew.set 0 _).cast (by rw [← add_bs]; rfl), HD.out 1 0 (by decide), below_one hb.drew ((Chg.refl (One D) _).put 0 _) (Nat.le_refl _) (show w.heap.size ≤ D by omega)⟩
                · have y0 := hX.cell (i := 2) rfl
                  go_wp2_with fail
                  refine (append_calls G B b m r s _ hr hm hfo).mono ?_
                  rintro e w7 ⟨rfl, hr7, hm7, hc⟩
                  rw [show appErr m r s = 4 by simp [appErr, appR, appM, hfull, he]]
                  rw [show appR m r s = r by simp [appErr, appR, appM, hfull, he]] at hr7
                  rw [show appM m r s = m.used by simp [appErr, appR, appM, hfull, he]] at hm7
                  clear y0
                  replace hb := below_own hb hc hB hbw hGw
                  replace hr2 := hr2.chg hc hOC
                  replace hR := hR.chg hc hOD
                  replace hX := hX.chg hc hOX
                  clear hc hr hm
                  obtain ⟨c0, c1, c2, e0, e1, e2⟩ := rcells_at hR
                  have y1 := hX.cell (i := 1) rfl
                  have y2 := hX.cell (i := 2) rfl
                  go_wp2
                  go_quiet (fail)
                  replace hr2 := hr2.drewN nq
                  replace hr7 := hr7.drewN nq
                  replace hm7 := hm7.drewN nq
                  replace hR := hR.drewN nq
                  replace hX := hX.drewN nq
                  replace hb := below_drewN hb nq
                  go_wp2_with fail
                  refine (do_calls C m 1 0 _ hr2 hfo hbo).mono ?_
                  rintro e w8 ⟨rfl, hr28, hc⟩
                  replace hb := below_one hb hc (Nat.le_refl _) (show w.heap.size ≤ C by omega)
                  rw [show M.errDo m 1 = 4 from he]
                  clear he
                  have hr8 := hr7.chg hc (show ¬ b = C by omega) (fun q hq e => hGC (by have : q = C := e; rwa [this] at hq))
                  have hm8 := hm7.chg hc (show ¬ B = C by omega)
                  replace hR := hR.chg hc (show ¬ D = C by omega)
                  replace hX := hX.chg hc (show ¬ X = C from fun e => hCX e.symm)
                  clear hc hr7 hm7 hr2 c0 c1 c2 e0 e1 e2 y1 y2
                  obtain ⟨c0, c1, c2, e0, e1, e2⟩ := rcells_at hR
                  have y1 := hX.cell (i := 1) rfl
                  have y2 := hX.cell (i := 2) rfl
                  go_wp2
                  go_meet
                  exact ⟨m.used, r, (hr8).wider hGF hFB hFb, hm8, hr28, hR, HD.out 1 0 (by decide), hb⟩
          · have p1 := case_ne q1
            by_cases q2 : k = 2
            · as_aux_lemma =>
                subst q2
                rcases errUse_cases m with he | he
                · go_wp2_with fail
                  refine (do_calls C m 1 0 _ hr2 hfo hbo).mono ?_
                  rintro e w7 ⟨rfl, hr2, hc⟩
                  replace hb := below_one hb hc (Nat.le_refl _) (show w.heap.size ≤ C by omega)
                  replace hr := hr.chg hc (show ¬ b = C by omega) (fun q hq e => hGC (by have : q = C := e; rwa [this] at hq))
                  replace hm := hm.chg hc (show ¬ B = C by omega)
                  replace hR := hR.chg hc (show ¬ D = C by omega)
                  replace hX := hX.chg hc (show ¬ X = C from fun e => hCX e.symm)
                  clear hc
                  rw [show M.errDo m 1 = 0 from he]
                  go_wp2_with fail
                  refine (sync_calls G B b m r _ hr hm hfo).mono ?_
                  rintro e w8 ⟨rfl, hr8, hm8, hc⟩
                  rw [show m.errUse = 0 from he]
                  rw [show syncR m r = r.synced by simp [syncR, he]] at hr8
                  replace hb := below_own hb hc hB hbw hGw
                  replace hr2 := hr2.chg hc hOC
                  replace hR := hR.chg hc hOD
                  replace hX := hX.chg hc hOX
                  clear hc hr hm
                  obtain ⟨c0, c1, c2, e0, e1, e2⟩ := rcells_at hR
                  have y1 := hX.cell (i := 1) rfl
                  have y2 := hX.cell (i := 2) rfl
                  clear he
                  go_wp2
                  go_meet
                  exact ⟨m.used, r.synced, (hr8.chg ((Chg.refl (One D) _).put 1 _) (show ¬ b = D by omega) (fun q hq e => hGD (by have : q = D := e; rwa [this] at hq))).wider hGF hFB hFb, hm8.chg ((Chg.refl (One D) _).put 1 _) (show ¬ B = D by omega), hr2.chg ((Chg.refl (One D) _).put 1 _) (show ¬ C = D by omega), (hR.set 1 _).cast rfl, HD.out 1 0 (by decide), below_one hb ((Chg.refl (One D) _).put 1 _) (Nat.le_refl _) (show w.heap.size ≤ D by omega)⟩
                · go_wp2_with fail
                  refine (do_calls C m 1 0 _ hr2 hfo hbo).mono ?_
                  rintro e w7 ⟨rfl, hr2, hc⟩
                  replace hb := below_one hb hc (Nat.le_refl _) (show w.heap.size ≤ C by omega)
                  replace hr := hr.chg hc (show ¬ b = C by omega) (fun q hq e => hGC (by have : q = C := e; rwa [this] at hq))
                  replace hm := hm.chg hc (show ¬ B = C by omega)
                  replace hR := hR.chg hc (show ¬ D = C by omega)
                  replace hX := hX.chg hc (show ¬ X = C from fun e => hCX e.symm)
                  clear hc
                  rw [show M.errDo m 1 = 4 from he]
                  go_wp2_with fail
                  refine (sync_calls G B b m r _ hr hm hfo).mono ?_
                  rintro e w8 ⟨rfl, hr8, hm8, hc⟩
                  rw [show m.errUse = 4 from he]
                  rw [show syncR m r = r by simp [syncR, he]] at hr8
                  replace hb := below_own hb hc hB hbw hGw
                  replace hr2 := hr2.chg hc hOC
                  replace hR := hR.chg hc hOD
                  replace hX := hX.chg hc hOX
                  clear hc hr hm
                  obtain ⟨c0, c1, c2, e0, e1, e2⟩ := rcells_at hR
                  have y1 := hX.cell (i := 1) rfl
                  have y2 := hX.cell (i := 2) rfl
                  clear he
                  go_wp2
                  go_meet
                  exact ⟨m.used, r, (hr8).wider hGF hFB hFb, hm8, hr2, hR, HD.out 1 0 (by decide), hb⟩
            · have p2 := case_ne q2
              by_cases q3 : k = 3
              · as_aux_lemma =>
                  subst q3
                  by_cases hh : r.has z = true
                  · have hh' := hh
                    simp [R.has] at hh'
                    obtain ⟨kz, rfl⟩ : ∃ kz : Nat, z = (kz : Int) := ⟨z.toNat, by omega⟩
                    have hz0 : kz ≤ r.data.length := by omega
                    clear hh'
                    rcases errUse_cases m with he | he
                    · have y0 := hX.cell (i := 1) rfl
                      go_wp2_with fail
                      refine (trim_calls G B b m r kz _ hr hm hfo).mono ?_
                      rintro e w7 ⟨rfl, hr7, hm7, hc⟩
                      rw [show trimErr m r kz = 0 by simp [trimErr, hh, he]]
                      rw [show trimR m r kz = r.cut kz by simp [trimR, hh, he]] at hr7
                      rw [show trimM m r kz = m.used by simp [trimM, hh]] at hm7
                      clear y0
                      replace hb := below_own hb hc hB hbw hGw
                      replace hr2 := hr2.chg hc hOC
                      replace hR := hR.chg hc hOD
                      replace hX := hX.chg hc hOX
                      clear hc hr hm
                      obtain ⟨c0, c1, c2, e0, e1, e2⟩ := rcells_at hR
                      have y1 := hX.cell (i := 1) rfl
                      have y2 := hX.cell (i := 2) rfl
                      clear hh
                      go_wp2
                      go_quiet (fail)
                      replace hr2 := hr2.drewN nq
                      replace hr7 := hr7.drewN nq
                      replace hm7 := hm7.drewN nq
                      replace hR := hR.drewN nq
                      replace hX := hX.drewN nq
                      replace hb := below_drewN hb nq
                      go_wp2_with fail
                      refine (do_calls C m 1 0 _ hr2 hfo hbo).mono ?_
                      rintro e w8 ⟨rfl, hr28, hc⟩
                      replace hb := below_one hb hc (Nat.le_refl _) (show w.heap.size ≤ C by omega)
                      rw [show M.errDo m 1 = 0 from he]
                      clear he
                      have hr8 := hr7.chg hc (show ¬ b = C by omega) (fun q hq e => hGC (by have : q = C := e; rwa [this] at hq))
                      have hm8 := hm7.chg hc (show ¬ B = C by omega)
                      replace hR := hR.chg hc (show ¬ D = C by omega)
                      replace hX := hX.chg hc (show ¬ X = C from fun e => hCX e.symm)
                      clear hc hr7 hm7 hr2 c0 c1 c2 e0 e1 e2 y1 y2
                      obtain ⟨c0, c1, c2, e0, e1, e2⟩ := rcells_at hR
                      have y1 := hX.cell (i := 1) rfl
                      have y2 := hX.cell (i := 2) rfl
                      have hex : (bs r.data).extract 0 kz = bs (r.data.take kz) := by rw [extract_take]; rfl
                      have hcc : (r.cut kz).cells = [.string (bs (r.data.take kz)), .int .i64 (kz : Int), .int .i64 (r.size : Int)] := rfl
                      have HCC := Lib.hid hcc
                      clear hcc
                      go_wp2
                      go_region
                      all_goals
                        go_wp2
                        go_meet
                        have hcg := ((Chg.refl (One D) w8.drew).put 0 (.string (bs (r.data.take kz)))).put 1 (.int .i64 (kz : Int))
                        exact ⟨m.used, r.cut kz, (hr8.drew.chg hcg (show ¬ b = D by omega) (fun q hq e => hGD (by have : q = D := e; rwa [this] at hq))).wider hGF hFB hFb, hm8.drew.chg hcg (show ¬ B = D by omega), hr28.drew.chg hcg (show ¬ C = D by omega), ((hR.drew.set 0 _).set 1 _).cast HCC.out.symm, HD.out 1 0 (by decide), below_one hb.drew hcg (Nat.le_refl _) (show w.heap.size ≤ D by omega)⟩
                    · have y0 := hX.cell (i := 1) rfl
                      go_wp2_with fail
                      refine (trim_calls G B b m r kz _ hr hm hfo).mono ?_
                      rintro e w7 ⟨rfl, hr7, hm7, hc⟩
                      rw [show trimErr m r kz = 4 by simp [trimErr, hh, he]]
                      rw [show trimR m r kz = r by simp [trimR, hh, he]] at hr7
                      rw [show trimM m r kz = m.used by simp [trimM, hh]] at hm7
                      clear y0
                      replace hb := below_own hb hc hB hbw hGw
                      replace hr2 := hr2.chg hc hOC
                      replace hR := hR.chg hc hOD
                      replace hX := hX.chg hc hOX
                      clear hc hr hm
                      obtain ⟨c0, c1, c2, e0, e1, e2⟩ := rcells_at hR
                      have y1 := hX.cell (i := 1) rfl
                      have y2 := hX.cell (i := 2) rfl
                      clear hh
                      go_wp2
                      go_quiet (fail)
                      replace hr2 := hr2.drewN nq
                      replace hr7 := hr7.drewN nq
                      replace hm7 := hm7.drewN nq
                      replace hR := hR.drewN nq
                      replace hX := hX.drewN nq
                      replace hb := below_drewN hb nq
                      go_wp2_with fail
                      refine (do_calls C m 1 0 _ hr2 hfo hbo).mono ?_
                      rintro e w8 ⟨rfl, hr28, hc⟩
                      replace hb := below_one hb hc (Nat.le_refl _) (show w.heap.size ≤ C by omega)
                      rw [show M.errDo m 1 = 4 from he]
                      clear he
                      have hr8 := hr7.chg hc (show ¬ b = C by omega) (fun q hq e => hGC (by have : q = C := e; rwa [this] at hq))
                      have hm8 := hm7.chg hc (show ¬ B = C by omega)
                      replace hR := hR.chg hc (show ¬ D = C by omega)
                      replace hX := hX.chg hc (show ¬ X = C from fun e => hCX e.symm)
                      clear hc hr7 hm7 hr2 c0 c1 c2 e0 e1 e2 y1 y2
                      obtain ⟨c0, c1, c2, e0, e1, e2⟩ := rcells_at hR
                      have y1 := hX.cell (i := 1) rfl
                      have y2 := hX.cell (i := 2) rfl
                      go_wp2
                      go_meet
                      exact ⟨m.used, r, (hr8).wider hGF hFB hFb, hm8, hr28, hR, HD.out 1 0 (by decide), hb⟩
                  · have hh' := hh
                    simp [R.has] at hh'
                    by_cases hz0 : z < 0
                    · have hz3 : ¬ (0 ≤ z) := by omega
                      have hz4 : decide (0 ≤ z) = false := by simp; omega
                      clear hh'
                      have y0 := hX.cell (i := 1) rfl
                      go_wp2_with fail
                      refine (trim_calls G B b m r z _ hr hm hfo).mono ?_
                      rintro e w7 ⟨rfl, hr7, hm7, hc⟩
                      rw [show trimErr m r z = 1 by simp [trimErr, hh]]
                      rw [show trimR m r z = r by simp [trimR, hh]] at hr7
                      rw [show trimM m r z = m by simp [trimM, hh]] at hm7
                      clear y0
                      replace hb := below_own hb hc hB hbw hGw
                      replace hr2 := hr2.chg hc hOC
                      replace hR := hR.chg hc hOD
                      replace hX := hX.chg hc hOX
                      clear hc hr hm
                      obtain ⟨c0, c1, c2, e0, e1, e2⟩ := rcells_at hR
                      have y1 := hX.cell (i := 1) rfl
                      have y2 := hX.cell (i := 2) rfl
                      clear hh
                      go_wp2
                      go_quiet (fail)
                      go_wp2
                      replace hr2 := hr2.drewN nq
                      replace hr7 := hr7.drewN nq
                      replace hm7 := hm7.drewN nq
                      replace hR := hR.drewN nq
                      replace hX := hX.drewN nq
                      replace hb := below_drewN hb nq
                      go_meet
                      exact ⟨m, r, (hr7).wider hGF hFB hFb, hm7, hr2, hR, hfit1, hb⟩
                    · have hz1 : ¬ (z ≤ (r.data.length : Int)) := by have := hh' (by omega); omega
                      have hz2 : 0 ≤ z := by omega
                      clear hh'
                      have y0 := hX.cell (i := 1) rfl
                      go_wp2_with fail
                      refine (trim_calls G B b m r z _ hr hm hfo).mono ?_
                      rintro e w7 ⟨rfl, hr7, hm7, hc⟩
                      rw [show trimErr m r z = 1 by simp [trimErr, hh]]
                      rw [show trimR m r z = r by simp [trimR, hh]] at hr7
                      rw [show trimM m r z = m by simp [trimM, hh]] at hm7
                      clear y0
                      replace hb := below_own hb hc hB hbw hGw
                      replace hr2 := hr2.chg hc hOC
                      replace hR := hR.chg hc hOD
                      replace hX := hX.chg hc hOX
                      clear hc hr hm
                      obtain ⟨c0, c1, c2, e0, e1, e2⟩ := rcells_at hR
                      have y1 := hX.cell (i := 1) rfl
                      have y2 := hX.cell (i := 2) rfl
                      clear hh
                      go_wp2
                      go_quiet (fail)
                      go_wp2
                      replace hr2 := hr2.drewN nq
                      replace hr7 := hr7.drewN nq
                      replace hm7 := hm7.drewN nq
                      replace hR := hR.drewN nq
                      replace hX := hX.drewN nq
                      replace hb := below_drewN hb nq
                      go_meet
                      exact ⟨m, r, (hr7).wider hGF hFB hFb, hm7, hr2, hR, hfit1, hb⟩
              · have p3 := case_ne q3
                by_cases q4 : k = 4
                · as_aux_lemma =>
                    subst q4
                    cases hon : m.on
                    · have y0 := hX.cell (i := 1) rfl
                      go_wp2_with fail
                      refine (settle_calls G B b m r z _ hr hm).mono ?_
                      rintro e w7 ⟨rfl, hr7, hm7, hc⟩
                      rw [show settleErr m = 0 by simp [settleErr, hon]]
                      rw [show settleR m r z = r.cut (kept r z) by simp [settleR, hon]] at hr7
                      clear y0
                      replace hb := below_own hb hc hB hbw hGw
                      replace hr2 := hr2.chg hc hOC
                      replace hR := hR.chg hc hOD
                      replace hX := hX.chg hc hOX
                      clear hc hr hm
                      obtain ⟨c0, c1, c2, e0, e1, e2⟩ := rcells_at hR
                      have y1 := hX.cell (i := 1) rfl
                      have y2 := hX.cell (i := 2) rfl
                      obtain ⟨d0, -, -, -, -, -⟩ := cells_at hr2
                      rw [hon] at d0
                      clear hon
                      go_wp2_with fail
                      refine (refsettle_calls D r z _ hR ⟨hk1, hk2, hk3⟩).mono ?_
                      rintro e w8 ⟨rfl, hR8, hc⟩
                      replace hb := below_one hb hc (Nat.le_refl _) (show w.heap.size ≤ D by omega)
                      replace hr7 := hr7.chg hc (show ¬ b = D by omega) (fun q hq e => hGD (by have : q = D := e; rwa [this] at hq))
                      replace hm7 := hm7.chg hc (show ¬ B = D by omega)
                      replace hr2 := hr2.chg hc (show ¬ C = D by omega)
                      clear hc hR c0 c1 c2 e0 e1 e2 y1 y2 hX d0
                      go_wp2
                      go_meet
                      exact ⟨m, r.cut (kept r z), (hr7).wider hGF hFB hFb, hm7, hr2, hR8, hfit1, hb⟩
                    · have y0 := hX.cell (i := 1) rfl
                      go_wp2_with fail
                      refine (settle_calls G B b m r z _ hr hm).mono ?_
                      rintro e w7 ⟨rfl, hr7, hm7, hc⟩
                      rw [show settleErr m = 13 by simp [settleErr, hon]]
                      rw [show settleR m r z = r by simp [settleR, hon]] at hr7
                      clear y0
                      replace hb := below_own hb hc hB hbw hGw
                      replace hr2 := hr2.chg hc hOC
                      replace hR := hR.chg hc hOD
                      replace hX := hX.chg hc hOX
                      clear hc hr hm
                      obtain ⟨c0, c1, c2, e0, e1, e2⟩ := rcells_at hR
                      have y1 := hX.cell (i := 1) rfl
                      have y2 := hX.cell (i := 2) rfl
                      obtain ⟨d0, -, -, -, -, -⟩ := cells_at hr2
                      rw [hon] at d0
                      clear hon
                      go_wp2
                      go_roundw
                      case rel => exact ⟨j + 1, m, r, by omega, by omega, by go_num, hr7.wider hGF hFB hFb, hm7, hr2, hR, hfit1, hb⟩
                      case measure => simp [intOf]; omega
                · have p4 := case_ne q4
                  by_cases q5 : k = 5
                  · as_aux_lemma =>
                      subst q5
                      go_wp2_with fail
                      refine (off_calls B m _ hm).mono ?_
                      rintro e w7 ⟨rfl, hm7, hc⟩
                      replace hb := below_one hb hc (Nat.le_refl _) hB
                      have hr7 := hr.mains hc
                      replace hr2 := hr2.chg hc (show ¬ C = B by omega)
                      replace hR := hR.chg hc (show ¬ D = B by omega)
                      replace hX := hX.chg hc (show ¬ X = B from hBX)
                      clear hc hr hm
                      obtain ⟨c0, c1, c2, e0, e1, e2⟩ := rcells_at hR
                      have y1 := hX.cell (i := 1) rfl
                      have y2 := hX.cell (i := 2) rfl
                      go_wp2_with fail
                      refine (do_calls C m 3 0 _ hr2 hfo hbo).mono ?_
                      rintro e w8 ⟨rfl, hr28, hc⟩
                      replace hb := below_one hb hc (Nat.le_refl _) (show w.heap.size ≤ C by omega)
                      have hr8 := hr7.chg hc (show ¬ b = C by omega) (fun q hq e => hGC (by have : q = C := e; rwa [this] at hq))
                      have hm8 := hm7.chg hc (show ¬ B = C by omega)
                      replace hR := hR.chg hc (show ¬ D = C by omega)
                      replace hX := hX.chg hc (show ¬ X = C from fun e => hCX e.symm)
                      clear hc hr7 hm7 hr2 c0 c1 c2 e0 e1 e2 y1 y2
                      obtain ⟨c0, c1, c2, e0, e1, e2⟩ := rcells_at hR
                      have y1 := hX.cell (i := 1) rfl
                      have y2 := hX.cell (i := 2) rfl
                      go_wp2
                      go_meet
                      exact ⟨m.did 3 0, r, (hr8).wider hGF hFB hFb, hm8, hr28, hR, HD.out 3 0 (by first | exact hz | decide), hb⟩
                  · have p5 := case_ne q5
                    by_cases q6 : k = 6
                    · as_aux_lemma =>
                        subst q6
                        go_wp2_with fail
                        refine (on_calls B m _ hm hbo).mono ?_
                        rintro e w7 ⟨rfl, hm7, hc⟩
                        replace hb := below_one hb hc (Nat.le_refl _) hB
                        have hr7 := hr.mains hc
                        replace hr2 := hr2.chg hc (show ¬ C = B by omega)
                        replace hR := hR.chg hc (show ¬ D = B by omega)
                        replace hX := hX.chg hc (show ¬ X = B from hBX)
                        clear hc hr hm
                        obtain ⟨c0, c1, c2, e0, e1, e2⟩ := rcells_at hR
                        have y1 := hX.cell (i := 1) rfl
                        have y2 := hX.cell (i := 2) rfl
                        go_wp2_with fail
                        refine (do_calls C m 4 0 _ hr2 hfo hbo).mono ?_
                        rintro e w8 ⟨rfl, hr28, hc⟩
                        replace hb := below_one hb hc (Nat.le_refl _) (show w.heap.size ≤ C by omega)
                        have hr8 := hr7.chg hc (show ¬ b = C by omega) (fun q hq e => hGC (by have : q = C := e; rwa [this] at hq))
                        have hm8 := hm7.chg hc (show ¬ B = C by omega)
                        replace hR := hR.chg hc (show ¬ D = C by omega)
                        replace hX := hX.chg hc (show ¬ X = C from fun e => hCX e.symm)
                        clear hc hr7 hm7 hr2 c0 c1 c2 e0 e1 e2 y1 y2
                        obtain ⟨c0, c1, c2, e0, e1, e2⟩ := rcells_at hR
                        have y1 := hX.cell (i := 1) rfl
                        have y2 := hX.cell (i := 2) rfl
                        go_wp2
                        go_meet
                        exact ⟨m.did 4 0, r, (hr8).wider hGF hFB hFb, hm8, hr28, hR, HD.out 4 0 (by first | exact hz | decide), hb⟩
                    · have p6 := case_ne q6
                      as_aux_lemma =>
                        have y0 := hX.cell (i := 1) rfl
                        go_wp2_with fail
                        refine (fuse_calls B m z _ hm).mono ?_
                        rintro e w7 ⟨rfl, hm7, hc⟩
                        clear y0
                        replace hb := below_one hb hc (Nat.le_refl _) hB
                        have hr7 := hr.mains hc
                        replace hr2 := hr2.chg hc (show ¬ C = B by omega)
                        replace hR := hR.chg hc (show ¬ D = B by omega)
                        replace hX := hX.chg hc (show ¬ X = B from hBX)
                        clear hc hr hm
                        obtain ⟨c0, c1, c2, e0, e1, e2⟩ := rcells_at hR
                        have y1 := hX.cell (i := 1) rfl
                        have y2 := hX.cell (i := 2) rfl
                        go_wp2_with fail
                        refine (do_calls C m 2 z _ hr2 hfo hbo).mono ?_
                        rintro e w8 ⟨rfl, hr28, hc⟩
                        replace hb := below_one hb hc (Nat.le_refl _) (show w.heap.size ≤ C by omega)
                        have hr8 := hr7.chg hc (show ¬ b = C by omega) (fun q hq e => hGC (by have : q = C := e; rwa [this] at hq))
                        have hm8 := hm7.chg hc (show ¬ B = C by omega)
                        replace hR := hR.chg hc (show ¬ D = C by omega)
                        replace hX := hX.chg hc (show ¬ X = C from fun e => hCX e.symm)
                        clear hc hr7 hm7 hr2 c0 c1 c2 e0 e1 e2 y1 y2
                        obtain ⟨c0, c1, c2, e0, e1, e2⟩ := rcells_at hR
                        have y1 := hX.cell (i := 1) rfl
                        have y2 := hX.cell (i := 2) rfl
                        go_wp2
                        go_meet
                        exact ⟨m.did 2 z, r, (hr8).wider hGF hFB hFb, hm8, hr28, hR, HD.out 2 z (by first | exact hz | decide), hb⟩
        case rest =>
          clear hr hm hr2 hR hb hX hfit
          obtain ⟨m, r, hr, hm, hr2, hR, hfit, hb⟩ := hcut
          obtain ⟨on, fu, bo⟩ := m
          cases on
          · as_aux_lemma =>
            go_wp2_with fail
            refine (read_calls _ _ _ ⟨false, fu, bo⟩ _ _ hr hm).mono ?_
            rintro e w10 ⟨rfl, rfl⟩
            rw [show readS ⟨false, fu, bo⟩ r = ⟨#[]⟩ from rfl, show readE ⟨false, fu, bo⟩ = 4 from rfl]
            obtain ⟨d0, d1, d2, -, -, -⟩ := cells_at hr2
            simp only at d0 d1 d2
            obtain ⟨c0, c1, c2, -, -, -⟩ := rcells_at hR
            obtain ⟨hk1, hk2, hk3⟩ := hr.2.2.2.2.1
            have hbl := bs_len r.data
            have hsub : ((r.size - r.data.length : Nat) : Int) = (r.size : Int) - (r.data.length : Int) := by omega
            go_wp2
            go_quiet ((first | (go_at_call 21; exact Calls.quiet_of_same (len_calls F B b r _ (hr.drewN _))) | (go_at_call 15; exact Calls.quiet_of_same (safe_calls F B b r _ (hr.drewN _))) | (go_at_call 14; exact Calls.quiet_of (left_calls F B b r _ (hr.drewN _)))))
            go_wp2
            go_roundw
            case rel => exact ⟨j + 1, _, r, by omega, by omega, by go_num, hr.drewN _, hm.drewN _, hr2.drewN _, hR.drewN _, hfit, below_drewN hb _⟩
            case measure => simp [intOf]; omega
          · as_aux_lemma =>
            go_wp2_with fail
            refine (read_calls _ _ _ ⟨true, fu, bo⟩ _ _ hr hm).mono ?_
            rintro e w10 ⟨rfl, rfl⟩
            rw [show readS ⟨true, fu, bo⟩ r = bs r.data from rfl, show readE ⟨true, fu, bo⟩ = 0 from rfl]
            obtain ⟨d0, d1, d2, -, -, -⟩ := cells_at hr2
            simp only at d0 d1 d2
            obtain ⟨c0, c1, c2, -, -, -⟩ := rcells_at hR
            obtain ⟨hk1, hk2, hk3⟩ := hr.2.2.2.2.1
            have hbl := bs_len r.data
            have hsub : ((r.size - r.data.length : Nat) : Int) = (r.size : Int) - (r.data.length : Int) := by omega
            go_wp2
            go_quiet ((first | (go_at_call 21; exact Calls.quiet_of_same (len_calls F B b r _ (hr.drewN _))) | (go_at_call 15; exact Calls.quiet_of_same (safe_calls F B b r _ (hr.drewN _))) | (go_at_call 14; exact Calls.quiet_of (left_calls F B b r _ (hr.drewN _)))))
            go_wp2
            go_roundw
            case rel => exact ⟨j + 1, _, r, by omega, by omega, by go_num, hr.drewN _, hm.drewN _, hr2.drewN _, hR.drewN _, hfit, below_drewN hb _⟩
            case measure => simp [intOf]; omega
    · have hcond : l ≤ j ∨ 60 ≤ j := by omega
      by_cases g0 : j < l
      · have g2 : 60 ≤ j := by omega
        clear hcond hlt
        go_wp2
        go_ret
        exact ⟨rfl, hb⟩
      · have g0' : l ≤ j := by omega
        clear hcond hlt
        go_wp2
        go_ret
        exact ⟨rfl, hb⟩
theorem exact_row (n : Int) (a : Option Addr) (l c : Nat) (xs : List (Int × Int × ByteArray × Unit)) (w : World) (hn : (Lit.int .i64 n).wf = true) (h : SlcIn act w a l c xs) :
    Calls Try.prog 5 #[.int .i64 n, .slice a l c] w fun e w' => e = .returned (.bool true) ∧ Below w.heap.size w w' :=
  exact_calls n a l c xs w h
end Go.Proofs.Ythfpliiknifgdaa.Reel
