/- diary.Log.Add. -/
import Derived.Test.YtcfjooeagfollaaDiaO
namespace Go.Proofs.Ytcfjooeagfollaa.Dia
open Go.RowKit Go.Proofs.Ytcfjooeagfollaa.Mem Go.Proofs.Ytcfjooeagfollaa.Bytes Go.Proofs.Ytcfjooeagfollaa.Mains Go.Proofs.Ytcfjooeagfollaa.Reel Go.Proofs.Ytcfjooeagfollaa.Note
set_option linter.unusedSimpArgs false
set_option linter.unusedVariables false
set_option maxRecDepth 20000

theorem nbytes_good (x : Sr) (w : World) (h : x.Has w) (hg : x.r.good = true) : Calls Try.prog 113 #[.agg x.recCells.toArray] w fun e w' => e = .returned (.tuple #[.string (bs x.r.bytes), .int .i64 0]) ∧ Below w.heap.size w w' :=
  bytes_good x.r hg _ _ _ _ _ _ _ _ _ w h.1 h.2.1 h.2.2
theorem nbytes_bad (x : Sr) (w : World) (h : x.Has w) (hg : x.r.good = false) : Calls Try.prog 113 #[.agg x.recCells.toArray] w fun e w' => e = .returned (.tuple #[.string ⟨#[]⟩, .int .i64 1]) ∧ Below w.heap.size w w' :=
  bytes_bad x.r hg _ _ _ _ _ _ _ _ _ w h.1 h.2.1 h.2.2
section
variable {w : World} {d : Option Nat} {B b L mb : Nat} {m : M} {r : R} {n : Nat} {g : Int → Option Rec} {last held : Int}
set_option maxHeartbeats 2000000 in
theorem add_bad (h : Dia w d B b L mb m r n g last held) (x : Sr) (hx : x.Has w) (hg : x.r.good = false) :
    Calls Try.prog 52 #[.pointer (some ⟨L, 0, none⟩), .agg x.recCells.toArray] w fun e w' => e = .returned (.tuple #[.int .i64 0, .int .i64 1]) ∧ Below w.heap.size w w' := by
  have X := Lib.hid (Row.new w 58 x.recCells)
  have B0 := Lib.hid ((Below.refl w.heap.size w).alloc (Nat.le_refl _) (.cells x.recCells.toArray 58))
  have BC := Lib.hid (nbytes_bad x _ (hx.keep B0.out) hg)
  clear h hx hg
  go_enter Try.func52, Try.ntmps52
  go_wp2_with (refine load_row X.out 58 Try.underlying58 rfl (by kernel_rfl) rfl rfl rfl ?_)
  refine BC.out.mono ?_
  rintro e w1 ⟨rfl, k1⟩
  have B1 := Lib.hid (B0.out.trans (k1.mono B0.out.size))
  clear k1
  go_wp2_with fail
  go_ret2
  exact ⟨rfl, B1.out⟩
set_option maxHeartbeats 2000000 in
theorem add_full (h : Dia w d B b L mb m r n g last held) (x : Sr) (hx : x.Has w) (hg : x.r.good = true) (hf : ((r.size - r.data.length : Nat) : Int) - held < (x.r.bytes.length : Int)) :
    Calls Try.prog 52 #[.pointer (some ⟨L, 0, none⟩), .agg x.recCells.toArray] w fun e w' => e = .returned (.tuple #[.int .i64 0, .int .i64 5]) ∧ Below w.heap.size w w' := by
  have X := Lib.hid (Row.new w 58 x.recCells)
  have B0 := Lib.hid ((Below.refl w.heap.size w).alloc (Nat.le_refl _) (.cells x.recCells.toArray 58))
  have BC := Lib.hid (nbytes_good x _ (hx.keep B0.out) hg)
  have HH := Lib.hid h
  obtain ⟨sb, hsb⟩ : ∃ l, x.r.bytes = l := ⟨_, rfl⟩
  rw [hsb] at BC hf
  have hz : (bs sb).size = sb.length := bs_size _
  clear h hx hg hsb
  go_enter Try.func52, Try.ntmps52
  go_wp2_with (refine load_row X.out 58 Try.underlying58 rfl (by kernel_rfl) rfl rfl rfl ?_)
  refine BC.out.mono ?_
  rintro e w1 ⟨rfl, k1⟩
  have B1 := Lib.hid (B0.out.trans (k1.mono B0.out.size))
  clear k1
  go_wp2_with fail
  refine (room_calls (HH.out.below B1.out)).mono ?_
  rintro e w2 ⟨rfl, q, rfl⟩
  go_wp2_with fail
  go_ret2
  exact ⟨rfl, below_drewN B1.out q⟩
def AddPost (w : World) (d : Option Nat) (B b L mb : Nat) (m : M) (r : R) (n : Nat) (g : Int → Option Rec) (held : Int) (q : Rec) (e : Ending) (w' : World) : Prop :=
  e = .returned (.tuple #[.int .i64 ((r.data.length : Int) + 1), .int .i64 0]) ∧ (∃ d', Dia w' d' B b L mb m (r.add (bs q.bytes)) (n + 1) (fun j => if j = (r.data.length : Int) + 1 then some q else g j) ((r.data.length : Int) + 1) held ∧ ∀ k, d' = some k → d = some k ∨ w.heap.size ≤ k) ∧ Chg (fun k => Reel.Own (Tight d w) B b k ∨ k = L ∨ k = mb) w w'
set_option maxHeartbeats 4000000 in
theorem add_calls (h : Dia w d B b L mb m r n g last held) (x : Sr) (hx : x.Has w) (hc : x.Caps) (ho : x.Off (Own d B b L mb)) (hg : x.r.good = true) (hf : (x.r.bytes.length : Int) ≤ ((r.size - r.data.length : Nat) : Int) - held) (hon : m.on = true) (hfu : m.fuse = -1) (hnew : g ((r.data.length : Int) + 1) = none) (hn : n < 1000000) :
    Calls Try.prog 52 #[.pointer (some ⟨L, 0, none⟩), .agg x.recCells.toArray] w fun e w' => AddPost w d B b L mb m r n g held x.r e w' := by
  have X := Lib.hid (Row.new w 58 x.recCells)
  have B0 := Lib.hid ((Below.refl w.heap.size w).alloc (Nat.le_refl _) (.cells x.recCells.toArray 58))
  have BC := Lib.hid (nbytes_good x _ (hx.keep B0.out) hg)
  have HH := Lib.hid h
  have XH := Lib.hid hx
  have XC := Lib.hid hc
  have XO := Lib.hid ho
  have SM := Lib.hid (good_small hg)
  have GN := Lib.hid hnew
  have LN := Lib.hid hn
  obtain ⟨l1, l2⟩ := h.hl
  obtain ⟨k1, k2, k3⟩ := h.reel.2.2.2.2.1
  have hus : m.errUse = 0 ∧ m.used = m := by
    obtain ⟨on, fu, bo⟩ := m
    simp only at hon hfu
    subst hon hfu
    exact ⟨by simp [M.errUse], by simp [M.used]⟩
  obtain ⟨sb, hsb⟩ : ∃ l, x.r.bytes = l := ⟨_, rfl⟩
  unfold AddPost
  rw [hsb] at BC hf ⊢
  have hz : (bs sb).size = sb.length := bs_size _
  have hnf : r.full (bs sb) = false := by unfold R.full; rw [hz]; simp; omega
  have AE : appErr m r (bs sb) = 0 := by unfold appErr; rw [hnf]; exact hus.1
  have AM : appM m r (bs sb) = m := by unfold appM; rw [hnf]; exact hus.2
  have AR : appR m r (bs sb) = r.add (bs sb) := by unfold appR; rw [hnf, hus.1]; rfl
  have hd1 : decide (((r.size - r.data.length : Nat) : Int) - held < (sb.length : Int)) = false := by simp; omega
  have hAL : (r.add (bs sb)).data.length = r.data.length + sb.length := by unfold R.add; simp; rfl
  have hAS : (r.add (bs sb)).size = r.size := rfl
  have hi1 : IntKind.i64.wrap ((r.data.length : Int) + 1) = (r.data.length : Int) + 1 := IntWalk.i64_in _ (by omega)
  have AC := Lib.hid (fun (w1 : World) (hb : Below w.heap.size w w1) => (show Calls Try.prog 26 #[.pointer (some ⟨b, 0, none⟩), .string (bs sb)] w1 fun e w' => e = .returned (.int .i64 0) ∧ Reel.Is w' (Tight d w1) B b (r.add (bs sb)) ∧ Row w' B 147 m.cells ∧ Chg (Reel.Own (Tight d w1) B b) w1 w' from by
    have := append_calls _ _ _ m r (bs sb) w1 (h.below hb).reel (h.below hb).pow (by omega)
    rwa [AE, AM, AR] at this))
  have HAL := Lib.hid hAL
  have HAS := Lib.hid hAS
  clear h hx hc ho hg hon hfu hnew hn hus hsb hnf AE AM AR hAL hAS
  go_enter Try.func52, Try.ntmps52
  go_wp2_with (refine load_row X.out 58 Try.underlying58 rfl (by kernel_rfl) rfl rfl rfl ?_)
  refine BC.out.mono ?_
  rintro e w1 ⟨rfl, kk⟩
  have B1 := Lib.hid (B0.out.trans (kk.mono B0.out.size))
  have X1 := Lib.hid (X.out.below kk X.out.lt)
  clear kk
  go_wp2_with fail
  refine (room_calls (HH.out.below B1.out)).mono ?_
  rintro e w2 ⟨rfl, q, rfl⟩
  have B2 := Lib.hid (below_drewN B1.out q)
  have X2 := Lib.hid (X1.out.drewN q)
  have H2 := Lib.hid (HH.out.below B2.out)
  have y0 := H2.out.log.cell (i := 0) rfl
  go_wp2_with fail
  refine (len_calls _ _ _ _ _ H2.out.reel).mono ?_
  rintro e w3 ⟨rfl, rfl⟩
  go_wp2_with fail
  refine (AC.out _ B2.out).mono ?_
  rintro e w4 ⟨rfl, hR, hM, hC⟩
  obtain ⟨d', hD, hd'⟩ := H2.out.reeled hR hM hC (by rw [HAL.out, HAS.out]; omega)
  have H4 := Lib.hid hD
  have DD := Lib.hid hd'
  have C4 := Lib.hid ((Chg.of_below (S := Reel.Own (Tight d w) B b) B2.out).next hC (fun j hj e => by
    rcases e with e | e | e | e
    · exact .inl e
    · exact .inr (.inl e)
    · exact .inr (.inr (.inl e))
    · have := B2.out.size; omega))
  have X4 := Lib.hid (X2.out.chg hC (fun e => by
    have hs := HH.out.pow.lt
    have hs2 : b < w.heap.size := by
      rcases Nat.lt_or_ge b w.heap.size with h | h
      · exact h
      · exact absurd (.inr h) HH.out.reel.2.2.1
    rcases e with e | e | e | e
    · omega
    · omega
    · have := (HH.out.hd _ e).1; omega
    · have := X2.out.lt; omega))
  have XH4 := Lib.hid ((XH.out.keep B2.out).chg hC ((XO.out.both (XH.out.keep B2.out).off).mono (fun k e => by
    rcases e with e | e | e | e
    · exact .inl (.inr (.inl e))
    · exact .inl (.inr (.inr (.inl e)))
    · exact .inl (.inl e)
    · exact .inr e)))
  clear hR hM hC hD hd' y0
  go_wp2_with fail
  obtain ⟨f, hf4, hh4⟩ := H4.out.map
  have hfn : f ((r.data.length : Int) + 1) = none := by
    have := hh4 ((r.data.length : Int) + 1)
    cases hq : f ((r.data.length : Int) + 1) with
    | none => rfl
    | some v =>
      rw [hq] at this
      obtain ⟨y, e, _⟩ := this
      rw [GN.out] at e
      cases e
  have I4 := Lib.hid hf4
  have M4 := Lib.hid hh4
  have FN := Lib.hid hfn
  have L4 := Lib.hid H4.out.log
  have y1 := L4.out.cell (i := 1) rfl
  have KB := Lib.hid (Below.refl w4.heap.size w4).drew
  have LL := Lib.hid L4.out.drew
  have XX := Lib.hid X4.out.drew
  have hmw : mb < w.heap.size := by
    obtain ⟨f0, hf0, _⟩ := HH.out.map
    exact hf0.lt
  have hml : L ≠ mb := fun e => H4.out.apart.2.2.2.2 e.symm
  have hwf : (Lit.int .i64 ((r.data.length : Int) + 1)).wf = true := wf_i64 (by omega) (by omega)
  clear hf4 hh4 hfn y1 BC AC
  refine Reg.start (fun w' => w'.cell? ⟨L, 1, none⟩ = some (.map (some mb)) ∧ Row w' w.heap.size 58 x.recCells) (fun i => i == 14) (by kernel_rfl) ⟨LL.out.cell rfl, XX.out⟩ (fun hHeld => ?_)
  generalize w4.drew = wd at *
  refine Reg.takeI 0 (v := ?_) rfl (by kernel_rfl) (by kernel_rfl) (by kernel_rfl) (by kernel_rfl) (fun _ _ _ h => h) (by rfl) ?_ hHeld ?_
  rotate_left 1
  · (intro w hSw; (try dsimp only at hSw); go_simp; try with_reducible rfl)
  try simp only [Act.put, List.setIfInBounds_toArray, List.set_cons_zero, List.set_cons_succ]
  refine Reg.takeI 1 (v := ?_) rfl (by kernel_rfl) (by kernel_rfl) (by kernel_rfl) (by kernel_rfl) (fun _ _ _ h => h) (by rfl) ?_ hHeld ?_
  rotate_left 1
  · (intro w hSw; (try dsimp only at hSw); go_simp; try with_reducible rfl)
  try simp only [Act.put, List.setIfInBounds_toArray, List.set_cons_zero, List.set_cons_succ]
  refine Reg.takeI 2 (v := ?_) rfl (by kernel_rfl) (by kernel_rfl) (by kernel_rfl) (by kernel_rfl) (fun _ _ _ h => h) (by rfl) ?_ hHeld ?_
  rotate_left 1
  · (intro w hSw; (try dsimp only at hSw); go_simp; try with_reducible rfl)
  try simp only [Act.put, List.setIfInBounds_toArray, List.set_cons_zero, List.set_cons_succ]
  refine Reg.takeI 3 (v := ?_) rfl (by kernel_rfl) (by kernel_rfl) (by kernel_rfl) (by kernel_rfl) (fun _ _ _ h => h) (by rfl) ?_ hHeld ?_
  rotate_left 1
  · (intro w hSw; (try dsimp only at hSw); go_simp; try with_reducible rfl)
  try simp only [Act.put, List.setIfInBounds_toArray, List.set_cons_zero, List.set_cons_succ]
  refine Reg.takeI 4 (v := ?_) rfl (by kernel_rfl) (by kernel_rfl) (by kernel_rfl) (by kernel_rfl) (fun _ _ _ h => h) (by rfl) ?_ hHeld ?_
  rotate_left 1
  · (intro w hSw; (try dsimp only at hSw); go_simp; try with_reducible rfl)
  try simp only [Act.put, List.setIfInBounds_toArray, List.set_cons_zero, List.set_cons_succ]
  refine Reg.takeI 5 (v := ?_) rfl (by kernel_rfl) (by kernel_rfl) (by kernel_rfl) (by kernel_rfl) (fun _ _ _ h => h) (by rfl) ?_ hHeld ?_
  rotate_left 1
  · (intro w hSw; (try dsimp only at hSw); go_simp; try with_reducible rfl)
  try simp only [Act.put, List.setIfInBounds_toArray, List.set_cons_zero, List.set_cons_succ]
  refine Reg.takeI 6 (v := .agg x.recCells.toArray) rfl (by kernel_rfl) (by kernel_rfl) (by kernel_rfl) (by kernel_rfl) (fun _ _ _ h => h) (by rfl) ?_ hHeld ?_
  · intro w hSw
    exact exec_row hSw.2 58 Try.underlying58 rfl (by kernel_rfl) (by rfl) (by rfl)
  try simp only [Act.put, List.setIfInBounds_toArray, List.set_cons_zero, List.set_cons_succ]
  refine Reg.takeI 8 (v := ?_) rfl (by kernel_rfl) (by kernel_rfl) (by kernel_rfl) (by kernel_rfl) (fun _ _ _ h => h) (by rfl) ?_ hHeld ?_
  rotate_left 1
  · (intro w hSw; (try dsimp only at hSw); go_simp; try with_reducible rfl)
  try simp only [Act.put, List.setIfInBounds_toArray, List.set_cons_zero, List.set_cons_succ]
  refine Reg.oneI 7 rfl (by kernel_rfl) (by rfl) (fun K hK => ?_)
  go_simp
  go_at_call 86
  refine (copied_calls _ _ _ ((XH4.out.keep KB.out).rec XC.out) SM.out).mono ?_
  rintro e w8 ⟨⟨v, rfl, hN⟩, k8⟩
  have SZ8 := Lib.hid KB.out.size
  replace KB := Lib.hid (KB.out.trans (k8.mono KB.out.size))
  replace LL := Lib.hid (LL.out.below k8 LL.out.lt)
  replace XX := Lib.hid (XX.out.below k8 XX.out.lt)
  obtain ⟨z, _, hzr, hzv, hzH, hzC, hzO⟩ := sr_of_new hN 0
  subst hzv
  have ZR := Lib.hid hzr
  have ZH := Lib.hid hzH
  have ZC := Lib.hid hzC
  have ZO := Lib.hid (hzO.mono (S2 := fun k => k < w4.heap.size) (fun k hk => Nat.lt_of_lt_of_le hk SZ8.out))
  clear k8 hN hzr hzH hzC hzO SZ8
  go_wp2_with fail
  refine hK.out _ _ (fun _ => ⟨LL.out.cell rfl, XX.out⟩) (fun hHeld => ?_)
  replace hHeld := hHeld (by first | rfl | trivial)
  clear hK K
  try simp only [Act.put, List.setIfInBounds_toArray, List.set_cons_zero, List.set_cons_succ]
  refine Reg.oneI 9 rfl (by kernel_rfl) (by rfl) (fun K hK => ?_)
  obtain ⟨st, w9, hr9, hC9, hz9, hfin⟩ := (I4.out.below KB.out I4.out.lt).entry_new (t := 156) (e := 58) Try.underlying3 Try.underlying156 (by have := LN.out; unfold maxLen; omega) (z := .agg #[.int .i64 0, .int .i64 0, .int .i64 0, .int .i64 0, .slice none 0 0, .int .i64 0, .int .i64 0, .string ⟨#[]⟩, .string ⟨#[]⟩, .slice none 0 0, .slice none 0 0]) (fun u => by kernel_rfl) hwf FN.out
  replace LL := Lib.hid (LL.out.chg hC9 (fun e => hml e))
  replace XX := Lib.hid (XX.out.chg hC9 (fun e => by have e : w.heap.size = mb := e; omega))
  go_simp
  refine hK.out _ _ (fun _ => ⟨LL.out.cell rfl, XX.out⟩) (fun hHeld => ?_)
  replace hHeld := hHeld (by first | rfl | trivial)
  clear hK K
  try simp only [Act.put, List.setIfInBounds_toArray, List.set_cons_zero, List.set_cons_succ]
  refine Reg.takeI 10 (v := ?_) rfl (by kernel_rfl) (by kernel_rfl) (by kernel_rfl) (by kernel_rfl) (fun _ _ _ h => h) (by rfl) ?_ hHeld ?_
  rotate_left 1
  · (intro w hSw; (try dsimp only at hSw); go_simp; try with_reducible rfl)
  try simp only [Act.put, List.setIfInBounds_toArray, List.set_cons_zero, List.set_cons_succ]
  refine Reg.oneI 11 rfl (by kernel_rfl) (by rfl) (fun K hK => ?_)
  obtain ⟨w10, hr11, hI10, hC10, hz10⟩ := hfin w9 (.agg z.recCells.toArray) rfl
  simp only [goInt] at hr11
  replace LL := Lib.hid (LL.out.chg hC10 (fun e => hml e))
  replace XX := Lib.hid (XX.out.chg hC10 (fun e => by have e : w.heap.size = mb := e; omega))
  go_simp
  refine hK.out _ _ (fun _ => ⟨LL.out.cell rfl, XX.out⟩) (fun hHeld => ?_)
  replace hHeld := hHeld (by first | rfl | trivial)
  clear hK K
  try simp only [Act.put, List.setIfInBounds_toArray, List.set_cons_zero, List.set_cons_succ]
  refine Reg.oneI 12 rfl (by kernel_rfl) (by rfl) (fun K hK => ?_)
  go_simp
  refine hK.out _ _ (fun _ => ⟨LL.out.cell rfl, XX.out⟩) (fun hHeld => ?_)
  replace hHeld := hHeld (by first | rfl | trivial)
  clear hK K
  try simp only [Act.put, List.setIfInBounds_toArray, List.set_cons_zero, List.set_cons_succ]
  refine Reg.takeI 13 (v := ?_) rfl (by kernel_rfl) (by kernel_rfl) (by kernel_rfl) (by kernel_rfl) (fun _ _ _ h => h) (by rfl) ?_ hHeld ?_
  rotate_left 1
  · (intro w hSw; (try dsimp only at hSw); go_simp; try with_reducible rfl)
  try simp only [Act.put, List.setIfInBounds_toArray, List.set_cons_zero, List.set_cons_succ]
  refine Reg.oneI 14 rfl (by kernel_rfl) (by rfl) (fun K hK => ?_)
  have hL10 := LL.out
  have y2 := hL10.cell (i := 2) rfl
  have f2 := hL10.frozen 2 (by simp [lcells])
  go_simp
  refine hK.out _ _ (fun h => by cases h) (fun _ => ?_)
  clear hK K
  try simp only [Act.put, List.setIfInBounds_toArray, List.set_cons_zero, List.set_cons_succ]
  refine Reg.doneI (by kernel_rfl) ?_
  have c1 : Chg (fun k => k = mb ∨ k = L) w4 w8 := Chg.of_below KB.out
  have c2 := c1.next hC9 (fun k hk e => .inl e)
  have c3 := c2.next hC10 (fun k hk e => .inl e)
  have hput : Chg (One L) w10 (w10.setCell ⟨L, 2, none⟩ (.int .i64 ((r.data.length : Int) + 1))) := (Chg.refl _ _).put 2 _
  have c4 := c3.next hput (fun k hk e => .inr e)
  obtain ⟨a1, a2, a3, a4, a5⟩ := H4.out.apart
  have hLl := H4.out.log.lt
  have hml4 := I4.out.lt
  have hBl := H4.out.pow.lt
  have hbl : b < w4.heap.size := by
    rcases Nat.lt_or_ge b w4.heap.size with h | h
    · exact h
    · exact absurd (.inr h) H4.out.reel.2.2.1
  have hzz := ((ZH.out.chg hC9 (ZO.out.mono (fun k e => by have e : k = mb := e; show k < w4.heap.size; omega))).chg hC10 (ZO.out.mono (fun k e => by have e : k = mb := e; show k < w4.heap.size; omega))).chg hput (ZO.out.mono (fun k e => by have e : k = L := e; show k < w4.heap.size; omega))
  have hstep := Held.step M4.out c4 (fun k hk e => by
    rcases e with e | e
    · exact .inr (.inr (.inr (.inr e)))
    · exact .inr (.inr (.inr (.inl e)))) (k := (r.data.length : Int) + 1) hzz ZC.out (ZO.out.mono (fun k e => by
    show k < w4.heap.size
    rcases e with e | e | e | e | e
    · exact (H4.out.hd k e).1
    · omega
    · omega
    · omega
    · omega)) (by rw [ZR.out]; exact SM.out)
  rw [ZR.out] at hstep
  have hD11 : Dia (w10.setCell ⟨L, 2, none⟩ (.int .i64 ((r.data.length : Int) + 1))) d' B b L mb m (r.add (bs sb)) (n + 1) (fun j => if j = (r.data.length : Int) + 1 then some x.r else g j) ((r.data.length : Int) + 1) held :=
    ⟨is_chg H4.out.reel hBl c4 (fun e => by rcases e with e | e; exact a4 e.symm; exact a2 e.symm) (fun k e x => by rcases x with x | x; exact (H4.out.hd k e).2.2 x; exact (H4.out.hd k e).2.1 x), H4.out.pow.chg c4 (fun e => by rcases e with e | e; exact a3 e.symm; exact a1 e.symm), (LL.out.set 2 _).cast rfl, ⟨_, hI10.chg hput (fun e => hml (show mb = L from e).symm), hstep⟩, fun k e => ⟨Nat.lt_of_lt_of_le (H4.out.hd k e).1 c4.size, (H4.out.hd k e).2⟩, H4.out.apart, H4.out.hl, ⟨by omega, by omega⟩, by have := LN.out; omega⟩
  have FIN := Lib.hid hD11
  have CF := Lib.hid (show Chg (fun k => Reel.Own (Tight d w) B b k ∨ k = L ∨ k = mb) w _ from (C4.out.mono (fun k _ e => .inl e)).next c4 (fun k _ e => by rcases e with e | e; exact .inr (.inr e); exact .inr (.inl e)))
  clear hD11 hstep hzz c1 c2 c3 c4 hput hI10 hC9 hC10 hr9 hr11 hfin hz9 hz10 y2 f2 hL10
  go_wp2_with fail
  go_ret2
  exact ⟨rfl, ⟨d', FIN.out, fun k e => (DD.out k e).imp id (fun h => Nat.le_trans B2.out.size h)⟩, CF.out⟩
end
end Go.Proofs.Ytcfjooeagfollaa.Dia
