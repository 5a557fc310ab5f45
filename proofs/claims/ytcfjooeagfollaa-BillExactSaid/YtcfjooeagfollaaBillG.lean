/- bill.Good. -/
import Derived.Test.YtcfjooeagfollaaBillS
namespace Go.Proofs.Ytcfjooeagfollaa.Bill
open Go.RowKit Go.Proofs.Ytcfjooeagfollaa.Mem Go.Proofs.Ytcfjooeagfollaa.Bytes Go.Proofs.Ytcfjooeagfollaa.Num Go.Proofs.Ytcfjooeagfollaa.Sign
set_option linter.unusedSimpArgs false
set_option linter.unusedVariables false
set_option maxRecDepth 20000

theorem told_vs {w : World} {m : Mv} (h : Vs w m.w.ra m.w.row) : Vs w m.told.w.ra m.told.w.row := by
  obtain ⟨k, n, a, ⟨wk, wt, key, high, ra, rc, row, c, val, wn⟩, p, q⟩ := m
  unfold Mv.told Wsh.told Wsh.only Mv.only noW
  simp only at h ⊢
  split
  · split
    · split
      · exact h
      · split
        · exact Vs.nil _ _
        · split
          · exact Vs.nil _ _
          · split
            · exact Vs.nil _ _
            · split
              · exact Vs.nil _ _
              · exact Vs.nil _ _
    · exact Vs.nil _ _
  · split
    · exact Vs.nil _ _
    · split
      · exact Vs.nil _ _
      · exact Vs.nil _ _
theorem told_len {m : Mv} : m.told.w.row.length ≤ m.w.row.length := by
  obtain ⟨k, n, a, ⟨wk, wt, key, high, ra, rc, row, c, val, wn⟩, p, q⟩ := m
  unfold Mv.told Wsh.told Wsh.only Mv.only noW
  simp only
  split
  · split
    · split
      · exact Nat.le_refl _
      · split
        · exact Nat.zero_le _
        · split
          · exact Nat.zero_le _
          · split
            · exact Nat.zero_le _
            · split
              · exact Nat.zero_le _
              · exact Nat.zero_le _
    · exact Nat.zero_le _
  · split
    · exact Nat.zero_le _
    · split
      · exact Nat.zero_le _
      · exact Nat.zero_le _
theorem vs_block {w : World} {a : Option Addr} {l : List V} (h : Vs w a l) : ∀ ad, a = some ad → l ≠ [] → ad.block < w.heap.size := fun ad e hne => by
  obtain ⟨ad', e', hl, _⟩ := h 0 (by cases l with | nil => exact absurd rfl hne | cons _ _ => simp)
  rw [e] at e'
  cases e'
  exact hl
theorem mcells_one (m : Mv) : ∀ v ∈ m.cells, v.oneCell' = true := by simp [Mv.cells, Value.oneCell']
theorem pen_below {b B : Nat} {F : Nat → Prop} {w0 w w' : World} (hB : Below B w0 w) (h : Chg (BldX.Own F b) w w') (hF : ∀ k, F k → B ≤ k) (hb : B ≤ b) (hs : B ≤ w.heap.size) : Below B w0 w' :=
  hB.trans (h.below hs (fun k hk => by
    rcases hk with e | e
    · have e : k = b := e
      omega
    · exact hF k e))
set_option maxHeartbeats 4000000 in
theorem good_calls (m : Mv) (w : World) (hM : Vs w m.w.ra m.w.row) (hf : m.w.fits) (hr : m.w.row.length ≤ 1000) :
    Calls Try.prog 46 #[.agg m.cells.toArray] w fun e w' => e = .returned (.bool m.good) ∧ Below w.heap.size w w' := by
  have h0 := Row.new w 94 m.cells
  have hX := h0.alloc (.cells #[.pointer none, .slice none 0 0, .bool false] 188)
  have hb := ((Below.refl w.heap.size w).alloc (Nat.le_refl _) (.cells m.cells.toArray 94)).alloc (by simp) (.cells #[.pointer none, .slice none 0 0, .bool false] 188)
  have hp : Pen ((w.alloc (.cells m.cells.toArray 94)).alloc (.cells #[.pointer none, .slice none 0 0, .bool false] 188)) (fun k => w.heap.size + 1 < k) (w.heap.size + 1) [] false :=
    BldX.Is.fresh (Wide.new_at (by simp)) (by omega) (fun k hk => by simp at hk; omega)
  have hB := vs_block hM
  have hMV := move_calls (fun k => w.heap.size + 1 < k) (w.heap.size + 1) [] false m _ hp (hM.keep hb) (fun ad e z x => by
    have := hB ad e z
    rcases x with x | x
    · have x : ad.block = w.heap.size + 1 := x
      omega
    · have x : w.heap.size + 1 < ad.block := x
      omega) hf (by simp) hr
  unfold MovePost at hMV
  rw [List.nil_append, Bool.false_or] at hMV
  have hgood : m.good = (!m.bad && m.told.same m) := rfl
  obtain ⟨D, hD⟩ : ∃ D, m.bad = D := ⟨_, rfl⟩
  obtain ⟨G, hG⟩ : ∃ G, m.told.same m = G := ⟨_, rfl⟩
  have SC := Lib.hid (fun wx (hk : Below w.heap.size w wx) => same_calls m.told m wx (told_vs (hM.keep hk)) (hM.keep hk) (by have := @told_len m; omega) (by omega))
  rw [hG] at SC
  rw [hgood, hD, hG]
  rw [hD] at hMV
  obtain ⟨TD, hT⟩ : ∃ T, m.told = T := ⟨_, rfl⟩
  rw [hT] at hMV SC
  have MC := Lib.hid hMV
  have X := Lib.hid hX
  have B := Lib.hid hb
  clear hgood hD hG hT hMV h0 hX hb hp hM hf hB
  go_enter Try.func46, Try.ntmps46
  go_wp2_with (refine load_row X.out 94 Try.underlying94 rfl (by kernel_rfl) rfl rfl rfl ?_)
  refine MC.out.mono ?_
  rintro e w1 ⟨rfl, h1, k1⟩
  have P1 := Lib.hid h1
  have X1 := Lib.hid (X.out.chg k1 (fun e => by
    rcases e with e | e
    · have e : w.heap.size = w.heap.size + 1 := e
      omega
    · have e : w.heap.size + 1 < w.heap.size := e
      omega))
  have B1 := Lib.hid (pen_below B.out k1 (fun k hk => by have hk : w.heap.size + 1 < k := hk; omega) (by omega) B.out.size)
  clear k1 h1 MC
  have RZ := Lib.hid (Row.new w1 94 [.int .i64 0, .int .i64 0, .int .i64 0, .int .i64 0, .int .i64 0, .int .i64 0, .int .i64 0, .string ⟨#[]⟩, .int .i64 0, .int .i64 0, .string ⟨#[]⟩, .slice none 0 0, .int .i64 0, .int .i64 0, .int .i64 0, .string ⟨#[]⟩, .int .i64 0, .int .i64 0, .int .i64 0])
  obtain ⟨p2, g2⟩ := Pen.flag P1.out
  have SZ := Lib.hid P1.out.lt
  have PA := Lib.hid (BldX.Is.beside P1.out (.cells #[.int .i64 0, .int .i64 0, .int .i64 0, .int .i64 0, .int .i64 0, .int .i64 0, .int .i64 0, .string ⟨#[]⟩, .int .i64 0, .int .i64 0, .string ⟨#[]⟩, .slice none 0 0, .int .i64 0, .int .i64 0, .int .i64 0, .string ⟨#[]⟩, .int .i64 0, .int .i64 0, .int .i64 0] 94))
  have XA := Lib.hid (X1.out.alloc (.cells #[.int .i64 0, .int .i64 0, .int .i64 0, .int .i64 0, .int .i64 0, .int .i64 0, .int .i64 0, .string ⟨#[]⟩, .int .i64 0, .int .i64 0, .string ⟨#[]⟩, .slice none 0 0, .int .i64 0, .int .i64 0, .int .i64 0, .string ⟨#[]⟩, .int .i64 0, .int .i64 0, .int .i64 0] 94))
  have BA := Lib.hid (B1.out.alloc B1.out.size (.cells #[.int .i64 0, .int .i64 0, .int .i64 0, .int .i64 0, .int .i64 0, .int .i64 0, .int .i64 0, .string ⟨#[]⟩, .int .i64 0, .int .i64 0, .string ⟨#[]⟩, .slice none 0 0, .int .i64 0, .int .i64 0, .int .i64 0, .string ⟨#[]⟩, .int .i64 0, .int .i64 0, .int .i64 0] 94))
  have LX := Lib.hid X1.out.lt
  clear p2 g2
  cases D
  · go_wp2_with (first | (refine store_row RZ.out TD.cells 94 (by kernel_rfl) rfl (mcells_one _) rfl rfl rfl rfl ?_; intro w2 h2 k2 z2; have Z2 := Lib.hid h2; have X2 := Lib.hid (XA.out.chg k2 (fun e => by have e := (show w.heap.size = w1.heap.size from e); have := LX.out; omega)); have P2 := Lib.hid (Pen.flag (BldX.Is.chg PA.out k2 (fun e => by have e := (show w.heap.size + 1 = w1.heap.size from e); have := SZ.out; omega) (fun k hk e => hk.2 e))).1; have B2 := Lib.hid (BA.out.trans (k2.below (B := w.heap.size) BA.out.size (fun k e => by have e := (show k = w1.heap.size from e); have := LX.out; omega))); clear h2 k2 z2; have p2 := P2.out) | (refine load_row_g Z2.out 94 Try.underlying94 rfl (by kernel_rfl) (by rfl) rfl rfl ?_) | (refine load_row_g X2.out 94 Try.underlying94 rfl (by kernel_rfl) (by rfl) rfl rfl ?_))
    refine (SC.out _ B2.out).mono ?_
    rintro e w3 ⟨rfl, k3⟩
    have B3 := Lib.hid (B2.out.trans (k3.mono B2.out.size))
    clear k3 p2
    go_wp2_with fail
    go_ret
    exact ⟨by cases G <;> rfl, B3.out⟩
  · go_wp2_with (first | (refine store_row RZ.out TD.cells 94 (by kernel_rfl) rfl (mcells_one _) rfl rfl rfl rfl ?_; intro w2 h2 k2 z2; have P2 := Lib.hid (Pen.flag (BldX.Is.chg PA.out k2 (fun e => by have e := (show w.heap.size + 1 = w1.heap.size from e); have := SZ.out; omega) (fun k hk e => hk.2 e))).1; have B2 := Lib.hid (BA.out.trans (k2.below (B := w.heap.size) BA.out.size (fun k e => by have e := (show k = w1.heap.size from e); have := LX.out; omega))); clear h2 k2 z2; have p2 := P2.out))
    go_ret
    exact ⟨rfl, B2.out⟩
end Go.Proofs.Ytcfjooeagfollaa.Bill
