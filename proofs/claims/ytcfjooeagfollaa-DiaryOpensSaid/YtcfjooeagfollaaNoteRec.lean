/- note.eye.record: a record that is read. -/
import Derived.Test.YtcfjooeagfollaaNoteBytes
import Derived.Test.YtcfjooeagfollaaApp
import Derived.Test.YtcfjooeagfollaaAgg
import Derived.Deep.RegionHeld3
import Derived.Deep.Cut
import Derived.Deep.CutBlock
import Derived.Deep.DeepCutAuto
namespace Go.Proofs.Ytcfjooeagfollaa.Note
open Go.RowKit Go.Proofs.Ytcfjooeagfollaa.Mem Go.Proofs.Ytcfjooeagfollaa.Bytes
set_option linter.unusedSimpArgs false
set_option linter.unusedVariables false
set_option maxRecDepth 20000

theorem take_of {b : Nat} {s s' : St} {n : Nat} {l : List UInt8} (q : eTake s n = (l, s')) (w : World) (h : Eye w b s) (hn : n ≤ 9223372036854775807) (hs : s.1.length ≤ 9223372036854775807) :
    Calls Try.prog 181 #[.pointer (some ⟨b, 0, none⟩), .int .i64 (n : Int)] w fun e w' => e = .returned (.string (bs l)) ∧ Eye w' b s' ∧ Chg (One b) w w' := by
  have h := take_calls b s n w h hn hs
  rw [q] at h
  exact h
theorem enum_of {b : Nat} {s s' : St} {k n : Nat} (q : eNum s k = (n, s')) (w : World) (h : Eye w b s) (hk : k ≤ 4) (hs : s.1.length ≤ 9223372036854775807) :
    Calls Try.prog 166 #[.pointer (some ⟨b, 0, none⟩), .int .i64 (k : Int)] w fun e w' => e = .returned (.int .i64 (n : Int)) ∧ Eye w' b s' ∧ Chg (One b) w w' := by
  have h := enum_calls b s k w h hk hs
  rw [q] at h
  exact h

set_option maxHeartbeats 400000 in
theorem etext_of {b : Nat} {s s' : St} {l : List UInt8} (q : eText s = (l, s')) (w : World) (h : Eye w b s) (hs : s.1.length ≤ 9223372036854775807) :
    Calls Try.prog 182 #[.pointer (some ⟨b, 0, none⟩)] w fun e w' => e = .returned (.string (bs l)) ∧ Eye w' b s' ∧ Chg (One b) w w' := by
  obtain ⟨n, s1, h1⟩ : ∃ n s1, eNum s 1 = (n, s1) := ⟨_, _, rfl⟩
  have hn := eNum_lt s 1
  have hr := eNum_rest s 1
  rw [h1] at hn hr
  have h2 : eTake s1 n = (l, s') := by rw [← q]; unfold eText; rw [h1]
  have H1 := Lib.hid h1
  have H2 := Lib.hid h2
  clear h1 h2 q
  simp only at hn hr
  go_enter Try.func182, Try.ntmps182
  go_wp2_with fail
  refine (enum_of H1.out _ h (by omega) hs).mono ?_
  rintro e w1 ⟨rfl, h1, hc1⟩
  go_wp2_with fail
  refine (take_of H2.out _ h1 (by omega) (by omega)).mono ?_
  rintro e w2 ⟨rfl, h2, hc2⟩
  go_wp2
  go_ret
  exact ⟨rfl, h2, hc1.trans hc2⟩

/-! ### rows of a record -/
def loopP {α : Type} (f : St → α × St) : Nat → St → List α × St
  | 0, s => ([], s)
  | k + 1, s => if s.2 then ([], s) else ((f s).1 :: (loopP f k (f s).2).1, (loopP f k (f s).2).2)
def getImage (s : St) : (Int × ByteArray) × St := (((eNum s 2).1, bs (eTake (eNum s 2).2 256).1), (eTake (eNum s 2).2 256).2)
def getPair (k1 k2 : Nat) (s : St) : (Int × Int) × St := (((eNum s k1).1, (eNum (eNum s k1).2 k2).1), (eNum (eNum s k1).2 k2).2)
def parse (s : St) : Rec × St :=
  let a := eNum s 1
  let b := eNum a.2 4
  let c := eNum b.2 4
  let d := eNum c.2 4
  let u := eNum d.2 1
  let t := eNum u.2 1
  let k := eText t.2
  let v := eText k.2
  let np := eNum v.2 1
  let ps := loopP getImage np.1 np.2
  let no := eNum ps.2 1
  let os := loopP (getPair 4 4) no.1 no.2
  let nd := eNum os.2 2
  let ds := loopP (getPair 2 4) nd.1 nd.2
  (⟨a.1, b.1, c.1, d.1, u.1, t.1, bs k.1, bs v.1, ps.1, os.1, ds.1⟩, ds.2)

/-- A loop on its way: m rounds are left at most, acc was read. -/
def Going {α : Type} (f : St → α × St) (all : List α) (e : St) (m : Nat) (acc : List α) (s : St) : Prop := ∃ rest, loopP f m s = (rest, e) ∧ all = acc ++ rest
theorem Going.start {α : Type} {f : St → α × St} {all : List α} {e : St} {m : Nat} {s : St} (h : loopP f m s = (all, e)) : Going f all e m [] s := ⟨all, h, rfl⟩
theorem Going.step {α : Type} {f : St → α × St} {all : List α} {e : St} {m : Nat} {acc : List α} {s s' : St} {x : α} (h : Going f all e (m + 1) acc s) (hs : s.2 = false) (hf : f s = (x, s')) : Going f all e m (acc ++ [x]) s' := by
  obtain ⟨rest, h1, h2⟩ := h
  simp only [loopP, hs, hf, Bool.false_eq_true, if_false] at h1
  rw [Prod.mk.injEq] at h1
  exact ⟨_, by rw [← h1.2], by rw [h2, ← h1.1]; simp⟩
theorem Going.stop {α : Type} {f : St → α × St} {all : List α} {e : St} {m : Nat} {acc : List α} {s : St} (h : Going f all e m acc s) (hm : m = 0 ∨ s.2 = true) : all = acc ∧ e = s := by
  obtain ⟨rest, h1, h2⟩ := h
  have : loopP f m s = ([], s) := by
    rcases hm with rfl | hm
    · rfl
    · cases m with
      | zero => rfl
      | succ m => simp [loopP, hm]
  rw [this, Prod.mk.injEq] at h1
  exact ⟨by rw [h2, ← h1.1]; simp, h1.2.symm⟩
theorem loopP_rest {α : Type} (f : St → α × St) (hf : ∀ s, (f s).2.1.length ≤ s.1.length) (k : Nat) : ∀ s : St, (loopP f k s).2.1.length ≤ s.1.length ∧ (loopP f k s).1.length ≤ k := by
  induction k with
  | zero => intro s; exact ⟨Nat.le_refl _, Nat.le_refl _⟩
  | succ k ih =>
    intro s
    unfold loopP
    split
    · exact ⟨Nat.le_refl _, by simp⟩
    · have h1 := ih (f s).2
      have h2 := hf s
      exact ⟨Nat.le_trans h1.1 h2, by simpa using h1.2⟩
theorem getImage_rest (s : St) : (getImage s).2.1.length ≤ s.1.length := Nat.le_trans (eTake_rest _ _) (eNum_rest _ _)
theorem getPair_rest (k1 k2 : Nat) (s : St) : (getPair k1 k2 s).2.1.length ≤ s.1.length := Nat.le_trans (eNum_rest _ _) (eNum_rest _ _)

theorem info_image : (Try.prog.info? 161).map (fun i => (i.zero, i.size, i.bytes)) = some (some (.agg #[.int .i64 0, .string ⟨#[]⟩]), 2, 24) := by kernel_rfl
theorem info_open : (Try.prog.info? 163).map (fun i => (i.zero, i.size, i.bytes)) = some (some (.agg #[.int .i64 0, .int .i64 0]), 2, 16) := by kernel_rfl
theorem info_dirty : (Try.prog.info? 165).map (fun i => (i.zero, i.size, i.bytes)) = some (some (.agg #[.int .i64 0, .int .i64 0]), 2, 16) := by kernel_rfl
def imgCells (x : Int × ByteArray) : List Value := [.int .i64 x.1, .string x.2]
def numCells (x : Int × Int) : List Value := [.int .i64 x.1, .int .i64 x.2]

/-- What lies behind the blocks of a world. -/
def Above (w : World) (a : Option Addr) : Prop := ∀ ad, a = some ad → w.heap.size ≤ ad.block
theorem own_len {w : World} {base : Nat} {e : TypeId} {sz : Nat} {v : Value} {n m : Nat} {xs : List Value} (h : w.ownsRow base e sz v n xs) (e' : n = m) : w.ownsRow base e sz v m xs := e' ▸ h
theorem pairs_of_own {Y : Type} {g : Y → Value} {w : World} {base : Nat} {e : TypeId} {v : Value} {n : Nat} {xs : List (Int × Y)} (h : w.ownsRow base e 2 v n (xs.flatMap fun x => [.int .i64 x.1, g x.2])) (hn : n = xs.length) (hm : n ≤ 9223372036854775807) : ∃ a cap, v = .slice a n cap ∧ Pairs g w a n xs ∧ ∀ ad, a = some ad → base ≤ ad.block := by
  obtain ⟨a, cap, rfl, _, hs⟩ := Reel.own_shape h
  refine ⟨a, cap, rfl, ⟨hn.symm, hm, fun i x hx => ?_⟩, fun ad had => (h.lt ad.block (by rcases hs with ⟨rfl, _⟩ | ⟨k, rfl⟩ <;> cases had; rfl)).1⟩
  have hi : i < xs.length := by
    rcases Nat.lt_or_ge i xs.length with h' | h'
    · exact h'
    · rw [List.getElem?_eq_none h'] at hx; cases hx
  rcases hs with ⟨rfl, h0, _⟩ | ⟨k, rfl⟩
  · omega
  have key : ∀ (ys : List (Int × Y)) (i : Nat) (x : Int × Y), ys[i]? = some x → (ys.flatMap fun x => [Value.int .i64 x.1, g x.2])[i * 2]? = some (.int .i64 x.1) ∧ (ys.flatMap fun x => [Value.int .i64 x.1, g x.2])[i * 2 + 1]? = some (g x.2) := by
    intro ys
    induction ys with
    | nil => intro i x hx; simp at hx
    | cons y ys ih =>
      intro i x hx
      cases i with
      | zero => simp at hx; subst hx; simp
      | succ i =>
        have := ih i x (by simpa using hx)
        rw [List.flatMap_cons, show (i + 1) * 2 = i * 2 + 2 by omega, show i * 2 + 2 + 1 = (i * 2 + 1) + 2 by omega]
        simpa using this
  have hk := key xs i x hx
  have c0 := h.cells (g := k) rfl (i * 2) _ hk.1
  have c1 := h.cells (g := k) rfl (i * 2 + 1) _ hk.2
  have e0 : (⟨k, 0, none⟩ : Addr).add (i * 2) = ⟨k, i * 2, none⟩ := by unfold Addr.add; split <;> simp_all
  have e1 : (⟨k, 0, none⟩ : Addr).add (i * 2 + 1) = ⟨k, i * 2 + 1, none⟩ := by unfold Addr.add; split <;> simp_all
  rw [e0] at c0
  rw [e1] at c1
  exact ⟨⟨k, 0, none⟩, rfl, by rw [e0]; exact c0, by rw [e0]; exact c1⟩

set_option maxHeartbeats 4000000 in
set_option maxRecDepth 8000 in
theorem record_aux (b : Nat) (s s1 s2 s3 s4 s5 s6 s7 s8 s9 sp s10 so s11 sd : St) (v1 v2 v3 v4 v5 v6 np no nd : Nat) (ky vl : List UInt8) (ps : List (Int × ByteArray)) (os ds : List (Int × Int)) (w : World) (h : Eye w b s) (hs : s.1.length ≤ 100000)
    (q1 : Hid (eNum s 1 = (v1, s1))) (q2 : Hid (eNum s1 4 = (v2, s2))) (q3 : Hid (eNum s2 4 = (v3, s3))) (q4 : Hid (eNum s3 4 = (v4, s4))) (q5 : Hid (eNum s4 1 = (v5, s5))) (q6 : Hid (eNum s5 1 = (v6, s6)))
    (q7 : Hid (eText s6 = (ky, s7))) (q8 : Hid (eText s7 = (vl, s8))) (q9 : Hid (eNum s8 1 = (np, s9))) (q10 : Hid (loopP getImage np s9 = (ps, sp))) (q11 : Hid (eNum sp 1 = (no, s10))) (q12 : Hid (loopP (getPair 4 4) no s10 = (os, so)))
    (q13 : Hid (eNum so 2 = (nd, s11))) (q14 : Hid (loopP (getPair 2 4) nd s11 = (ds, sd)))
    (z : s1.1.length ≤ 100000 ∧ s2.1.length ≤ 100000 ∧ s3.1.length ≤ 100000 ∧ s4.1.length ≤ 100000 ∧ s5.1.length ≤ 100000 ∧ s6.1.length ≤ 100000 ∧ s7.1.length ≤ 100000 ∧ s8.1.length ≤ 100000 ∧ s9.1.length ≤ 100000 ∧ sp.1.length ≤ 100000 ∧ s10.1.length ≤ 100000 ∧ so.1.length ≤ 100000 ∧ s11.1.length ≤ 100000 ∧ np < 256 ∧ no < 256 ∧ nd < 65536) :
    Calls Try.prog 168 #[.pointer (some ⟨b, 0, none⟩)] w fun e w' => (∃ a0 n0 c0 a1 n1 c1 a2 n2 c2, e = .returned (.agg ((⟨v1, v2, v3, v4, v5, v6, bs ky, bs vl, ps, os, ds⟩ : Rec).cells (.slice a0 n0 c0) (.slice a1 n1 c1) (.slice a2 n2 c2)).toArray) ∧ Pairs Value.string w' a0 n0 ps ∧ Pairs (Value.int .i64) w' a1 n1 os ∧ Pairs (Value.int .i64) w' a2 n2 ds ∧ Above w a0 ∧ Above w a1 ∧ Above w a2 ∧ n0 ≤ c0 ∧ n1 ≤ c1 ∧ n2 ≤ c2) ∧ Eye w' b sd ∧ Chg (One b) w w' := by
  obtain ⟨z1, z2, z3, z4, z5, z6, z7, z8, z9, zp, z10, zo, z11, zn1, zn2, zn3⟩ := z
  go_enter Try.func168, Try.ntmps168
  have hR := Row.new' w 58 #[.int .i64 0, .int .i64 0, .int .i64 0, .int .i64 0, .slice none 0 0, .int .i64 0, .int .i64 0, .string ⟨#[]⟩, .string ⟨#[]⟩, .slice none 0 0, .slice none 0 0]
  have hc := (Chg.refl (One b) w).alloc (.cells #[.int .i64 0, .int .i64 0, .int .i64 0, .int .i64 0, .slice none 0 0, .int .i64 0, .int .i64 0, .string ⟨#[]⟩, .string ⟨#[]⟩, .slice none 0 0, .slice none 0 0] 58)
  have hblt := h.lt
  replace h := h.alloc (.cells #[.int .i64 0, .int .i64 0, .int .i64 0, .int .i64 0, .slice none 0 0, .int .i64 0, .int .i64 0, .string ⟨#[]⟩, .string ⟨#[]⟩, .slice none 0 0, .slice none 0 0] 58)
  have hbw : w.heap.size ≠ b := by omega
  go_wp2_with fail
  refine (enum_of q1.out _ h (by omega) (by omega)).mono ?_
  rintro e w1 ⟨rfl, h1, hc1⟩
  replace hc := hc.trans hc1
  replace hR := hR.chg hc1 hbw
  replace h := h1
  clear h1 hc1
  go_wp2_with fail
  refine (enum_of q2.out _ h (by omega) (by omega)).mono ?_
  rintro e w1 ⟨rfl, h1, hc1⟩
  replace hc := hc.trans hc1
  replace hR := hR.chg hc1 hbw
  replace h := h1
  clear h1 hc1
  go_wp2_with fail
  refine (enum_of q3.out _ h (by omega) (by omega)).mono ?_
  rintro e w1 ⟨rfl, h1, hc1⟩
  replace hc := hc.trans hc1
  replace hR := hR.chg hc1 hbw
  replace h := h1
  clear h1 hc1
  go_wp2_with fail
  refine (enum_of q4.out _ h (by omega) (by omega)).mono ?_
  rintro e w4 ⟨rfl, h1, hc1⟩
  replace hc := hc.trans hc1
  replace hR := hR.chg hc1 hbw
  replace h := h1
  clear h1 hc1
  have hC := Row.new' w4 58 #[.int .i64 v1, .int .i64 v2, .int .i64 v3, .int .i64 v4, .slice none 0 0, .int .i64 0, .int .i64 0, .string ⟨#[]⟩, .string ⟨#[]⟩, .slice none 0 0, .slice none 0 0]
  have hcb : w4.heap.size ≠ b := by have := h.lt; omega
  have hRc : w.heap.size < w4.heap.size := hR.lt
  replace h := h.alloc (.cells #[.int .i64 v1, .int .i64 v2, .int .i64 v3, .int .i64 v4, .slice none 0 0, .int .i64 0, .int .i64 0, .string ⟨#[]⟩, .string ⟨#[]⟩, .slice none 0 0, .slice none 0 0] 58)
  replace hc := hc.alloc (.cells #[.int .i64 v1, .int .i64 v2, .int .i64 v3, .int .i64 v4, .slice none 0 0, .int .i64 0, .int .i64 0, .string ⟨#[]⟩, .string ⟨#[]⟩, .slice none 0 0, .slice none 0 0] 58)
  replace hR := hR.alloc (.cells #[.int .i64 v1, .int .i64 v2, .int .i64 v3, .int .i64 v4, .slice none 0 0, .int .i64 0, .int .i64 0, .string ⟨#[]⟩, .string ⟨#[]⟩, .slice none 0 0, .slice none 0 0] 58)
  go_wp2_with fail
  refine (enum_of q5.out _ h (by omega) (by omega)).mono ?_
  rintro e w1 ⟨rfl, h1, hc1⟩
  replace hc := hc.trans hc1
  replace hR := hR.chg hc1 hbw
  replace hC := hC.chg hc1 hcb
  replace h := h1
  clear h1 hc1
  go_wp2_with fail
  refine (enum_of q6.out _ h (by omega) (by omega)).mono ?_
  rintro e w1 ⟨rfl, h1, hc1⟩
  replace hc := hc.trans hc1
  replace hR := hR.chg hc1 hbw
  replace hC := hC.chg hc1 hcb
  replace h := h1
  clear h1 hc1
  have x5 := hC.cell (i := 5) rfl
  have f5 := hC.frozen 5 (by simp)
  have x6 := hC.cell (i := 6) rfl
  have f6 := hC.frozen 6 (by simp)
  go_wp2_with fail
  clear x5 f5 x6 f6
  replace hC := hC.set 5 (.int .i64 v5)
  replace h := h.set_ne ⟨w4.heap.size, 5, none⟩ (.int .i64 v5) hcb
  replace hR := hR.set_ne ⟨w4.heap.size, 5, none⟩ (.int .i64 v5) (by show w4.heap.size ≠ w.heap.size; omega)
  replace hc := hc.setCell (a := ⟨w4.heap.size, 5, none⟩) (fun hx => absurd hx (by show ¬ w4.heap.size < w.heap.size; omega)) (.int .i64 v5)
  replace hC := hC.set 6 (.int .i64 v6)
  replace h := h.set_ne ⟨w4.heap.size, 6, none⟩ (.int .i64 v6) hcb
  replace hR := hR.set_ne ⟨w4.heap.size, 6, none⟩ (.int .i64 v6) (by show w4.heap.size ≠ w.heap.size; omega)
  replace hc := hc.setCell (a := ⟨w4.heap.size, 6, none⟩) (fun hx => absurd hx (by show ¬ w4.heap.size < w.heap.size; omega)) (.int .i64 v6)
  simp only [List.set] at hC
  refine (etext_of q7.out _ h (by omega)).mono ?_
  rintro e w1 ⟨rfl, h1, hc1⟩
  replace hc := hc.trans hc1
  replace hR := hR.chg hc1 hbw
  replace hC := hC.chg hc1 hcb
  replace h := h1
  clear h1 hc1
  have x7 := hC.cell (i := 7) rfl
  have f7 := hC.frozen 7 (by simp)
  go_wp2_with fail
  clear x7 f7
  replace hC := hC.set 7 (.string (bs ky))
  replace h := h.set_ne ⟨w4.heap.size, 7, none⟩ (.string (bs ky)) hcb
  replace hR := hR.set_ne ⟨w4.heap.size, 7, none⟩ (.string (bs ky)) (by show w4.heap.size ≠ w.heap.size; omega)
  replace hc := hc.setCell (a := ⟨w4.heap.size, 7, none⟩) (fun hx => absurd hx (by show ¬ w4.heap.size < w.heap.size; omega)) (.string (bs ky))
  simp only [List.set] at hC
  refine (etext_of q8.out _ h (by omega)).mono ?_
  rintro e w1 ⟨rfl, h1, hc1⟩
  replace hc := hc.trans hc1
  replace hR := hR.chg hc1 hbw
  replace hC := hC.chg hc1 hcb
  replace h := h1
  clear h1 hc1
  have x8 := hC.cell (i := 8) rfl
  have f8 := hC.frozen 8 (by simp)
  go_wp2_with fail
  clear x8 f8
  replace hC := hC.set 8 (.string (bs vl))
  replace h := h.set_ne ⟨w4.heap.size, 8, none⟩ (.string (bs vl)) hcb
  replace hR := hR.set_ne ⟨w4.heap.size, 8, none⟩ (.string (bs vl)) (by show w4.heap.size ≠ w.heap.size; omega)
  replace hc := hc.setCell (a := ⟨w4.heap.size, 8, none⟩) (fun hx => absurd hx (by show ¬ w4.heap.size < w.heap.size; omega)) (.string (bs vl))
  simp only [List.set] at hC
  refine (enum_of q9.out _ h (by omega) (by omega)).mono ?_
  rintro e wp ⟨rfl, h1, hc1⟩
  replace hc := hc.trans hc1
  replace hR := hR.chg hc1 hbw
  replace hC := hC.chg hc1 hcb
  replace h := h1
  clear h1 hc1
  have hcp := hC.lt
  have hgo := Going.start q10.out

  have hcp1 := hC.lt
  obtain ⟨H1, hH1⟩ : ∃ H1, H1 = wp.heap.size := ⟨_, rfl⟩
  have hbH1 : b < wp.heap.size := h.lt
  have hRH1 : w.heap.size < wp.heap.size := hR.lt
  go_wp2_with fail
  go_loopw [4] (fun n wr => ∃ (m : Nat) (acc : List (Int × ByteArray)) (sj : St) (v : Value), n = .int .i64 (m : Int) ∧ Going getImage ps sp m acc sj ∧ acc.length + m ≤ 255 ∧ sj.1.length ≤ 100000 ∧ Eye wr b sj ∧ Row wr w4.heap.size 58 [.int .i64 v1, .int .i64 v2, .int .i64 v3, .int .i64 v4, v, .int .i64 v5, .int .i64 v6, .string (bs ky), .string (bs vl), .slice none 0 0, .slice none 0 0] ∧ Row wr w.heap.size 58 [.int .i64 0, .int .i64 0, .int .i64 0, .int .i64 0, .slice none 0 0, .int .i64 0, .int .i64 0, .string ⟨#[]⟩, .string ⟨#[]⟩, .slice none 0 0, .slice none 0 0] ∧ wr.ownsRow H1 161 2 v acc.length (acc.flatMap imgCells) ∧ H1 ≤ wr.heap.size ∧ Chg (One b) w wr) (fun n _ => (intOf n).toNat)
  case atStart => exact ⟨np, [], s9, .slice none 0 0, rfl, Going.start q10.out, by simp; omega, z9, h, hC, hR, World.ownsRow_nil _ _ _ _, by omega, hc⟩
  case round =>
    clear hC hR h hc
    obtain ⟨m, acc, sj, v, rfl, hgo, hml, hsl, h, hC, hR, hown, hH, hc⟩ := hrel
    have HG := Lib.hid hgo
    clear hgo
    have e1 := h.cell (i := 1) rfl
    go_upto_region 6 with (fail)
    go_cut [45] from 37 to 45 (fun t wx => t = .bool (decide (0 < m) && !sj.2) ∧ wx = wr)
    case first =>
      by_cases hm : m = 0
      · subst hm
        go_wp2_with fail
        go_meet
        exact ⟨rfl, rfl⟩
      · have hm' : (0 : Int) < (m : Int) := by omega
        go_wp2_with fail
        go_meet
        exact ⟨by rw [show decide (0 < m) = true by simp; omega]; rfl, rfl⟩
    case rest =>
      obtain ⟨rfl, rfl⟩ := hcut
      cases hq : (decide (0 < m) && !sj.2)
      rotate_left
      · simp only [Bool.and_eq_true, decide_eq_true_eq, Bool.not_eq_true'] at hq
        obtain ⟨hm, hbad⟩ := hq
        obtain ⟨m', rfl⟩ : ∃ m', m = m' + 1 := ⟨m - 1, by omega⟩
        obtain ⟨pg, t1, g1⟩ : ∃ pg t1, eNum sj 2 = (pg, t1) := ⟨_, _, rfl⟩
        obtain ⟨dt, t2, g2⟩ : ∃ dt t2, eTake t1 256 = (dt, t2) := ⟨_, _, rfl⟩
        have hf : getImage sj = (((pg : Int), bs dt), t2) := by
          unfold getImage
          rw [g1]
          show (((pg : Int), bs (eTake t1 256).1), (eTake t1 256).2) = _
          rw [g2]
        have hnx := HG.out.step hbad hf
        have l1 := eNum_rest sj 2
        have l2 := eTake_rest t1 256
        rw [g1] at l1
        rw [g2] at l2
        have HN := Lib.hid hnx
        have G1 := Lib.hid g1
        have G2 := Lib.hid g2
        clear hnx g1 g2 hf hbad e1
        simp only at l1 l2
        go_wp2_with fail
        refine (enum_of G1.out _ h (by omega) (by omega)).mono ?_
        rintro e wa ⟨rfl, h1, hc1⟩
        have hne : ∀ k, v.ownBlock = some k → ¬ One b k := fun k hk hx => by have := (hown.lt k hk).1; have hx' : k = b := hx; omega
        replace hc := hc.trans hc1
        replace hR := hR.chg hc1 hbw
        replace hC := hC.chg hc1 hcb
        replace hown := Reel.own_chg hown hc1 hne
        replace hH := Nat.le_trans hH hc1.size
        replace h := h1
        clear h1 hc1
        have x4 := hC.cell (i := 4) rfl
        have f4 := hC.frozen 4 (by simp)
        go_wp2_with fail
        have x4d : wa.drew.cell? ⟨w4.heap.size, 4, none⟩ = some v := x4
        go_region_law (first
            | (refine app1_step (news := [.int .i64 (pg : Int), .string (bs dt)]) hob (Below.refl H1 _) (Nat.le_trans hH hc1.size) 52 Try.underlying52 info_image rfl (by decide) (by decide) (by omega) rfl (by simp [Value.oneCell']) rfl rfl rfl rfl ?_
               intro v' wd hod hbd hgd
               obtain ⟨a', cap', rfl, _⟩ := Reel.own_shape hod
               have hCd := hCb.grown hgd (fun e => by have := (hob.lt _ e.symm).1; omega)
               have x4c := hCd.cell (i := 4) rfl
               have f4c := hCd.frozen 4 (by simp))
            | (go_simp
               go_at_call 181
               refine (take_of G2.out _ h.drew (by omega) (by omega)).mono ?_
               rintro e wb ⟨rfl, h1, hc1⟩
               have hCb := hC.drew.chg hc1 hcb
               have hob := Reel.own_chg (w := wa.drew) hown hc1 hne
               have x4a := hCb.cell (i := 4) rfl
               have x4b := (hCb.alloc (.cells #[.int .i64 (pg : Int), .string (bs dt)] 161)).cell (i := 4) rfl
               clear hown))
        all_goals
          have hRd := (hR.drew.chg hc1 hbw).grown hgd (fun e => by have := (hob.lt _ e.symm).1; omega)
          have hEd := h1.grown hgd (fun e => by have := (hob.lt _ e.symm).1; omega)
          have hcd := (hc.drew.trans hc1).next (Chg.of_grown hgd) (fun k hk hx => by have := (hob.lt k hx.symm).1; omega)
          have hset : Chg (One w4.heap.size) wd (wd.setCell ⟨w4.heap.size, 4, none⟩ (.slice a' (acc.length + 1) cap')) := (Chg.refl _ _).put _ _
          have hcd2 := hcd.next hset (fun k hk hx => by have hx' : k = w4.heap.size := hx; omega)
          have hEd2 := hEd.chg hset (fun hx => hcb (Eq.symm hx))
          have hRd2 := hRd.chg hset (by show ¬ w.heap.size = w4.heap.size; omega)
          have hCd2 := (hCd.set 4 (.slice a' (acc.length + 1) cap'))
          have hod2 := Reel.own_chg hod hset (fun k hk hx => by have := (hod.lt k hk).1; have hx' : k = w4.heap.size := hx; omega)
          have hH2 : H1 ≤ (wd.setCell ⟨w4.heap.size, 4, none⟩ (.slice a' (acc.length + 1) cap')).heap.size := Nat.le_trans hH (Nat.le_trans hc1.size (Nat.le_trans hgd.size hset.size))
          simp only [List.set] at hCd2
          have hof : (acc ++ [((pg : Int), bs dt)]).flatMap imgCells = acc.flatMap imgCells ++ [.int .i64 (pg : Int), .string (bs dt)] := by rw [List.flatMap_append]; rfl
          have hlen1 : acc.length + 1 = (acc ++ [((pg : Int), bs dt)]).length := by simp
          rw [← hof] at hod2
          have HOD : Hid (World.ownsRow _ H1 161 2 (.slice a' (acc.length + 1) cap') (acc ++ [((pg : Int), bs dt)]).length ((acc ++ [((pg : Int), bs dt)]).flatMap imgCells)) := Lib.hid (own_len hod2 hlen1)
          have HRD := Lib.hid hRd2
          have HCD := Lib.hid hCd2
          have HED := Lib.hid hEd2
          have HCC := Lib.hid hcd2
          clear hod2 hRd2 hCd2 hEd2 hcd2 hof hset hcd hEd hRd hob hod hbd hgd x4c f4c x4a x4b x4 f4 x4d hCd hCb h1 hc1 h hC hR hc hlen1
          go_wp2_with fail
          exact ⟨⟨m', acc ++ [((pg : Int), bs dt)], t2, .slice a' (acc.length + 1) cap', by go_num, HN.out, by have := hml; simp; try omega, by omega, HED.out, HCD.out, HRD.out, HOD.out, hH2, HCC.out⟩, by simp only [intOf]; omega⟩
      · have hst : m = 0 ∨ sj.2 = true := by
          rcases Nat.eq_zero_or_pos m with e | e
          · exact .inl e
          · exact .inr (by simpa [e] using hq)
        obtain ⟨hall, hend⟩ := HG.out.stop hst
        have HALL1 := Lib.hid hall
        have HEND1 := Lib.hid hend
        clear hq HG e1 hst hall hend
        rw [← HALL1.out] at hown
        rw [← HEND1.out] at h
        have hp := hown
        clear hown
        obtain ⟨a0, c0, rfl, hz0, _⟩ := Reel.own_shape hp
        go_wp2_with fail
        refine (enum_of q11.out _ h (by omega) (by omega)).mono ?_
        rintro e wo ⟨rfl, h1, hc1⟩
        replace hc := hc.trans hc1
        replace hR := hR.chg hc1 hbw
        replace hC := hC.chg hc1 hcb
        replace hp := Reel.own_chg hp hc1 (fun k hk hx => by have := (hp.lt k hk).1; have hx' : k = b := hx; omega)
        replace h := h1
        clear h1 hc1
        have hcp2 := hC.lt
        obtain ⟨H2, hH2⟩ : ∃ H2, H2 = wo.heap.size := ⟨_, rfl⟩
        have hbH2 : b < wo.heap.size := h.lt
        have hRH2 : w.heap.size < wo.heap.size := hR.lt
        have hpl : ∀ k, (.slice a0 ps.length c0 : Value).ownBlock = some k → H1 ≤ k ∧ k < H2 := fun k hk => by have := hp.lt k hk; omega
        go_wp2_with fail
        go_loopw [6] (fun n wr => ∃ (m : Nat) (acc : List (Int × Int)) (sj : St) (v : Value), n = .int .i64 (m : Int) ∧ Going (getPair 4 4) os so m acc sj ∧ acc.length + m ≤ 255 ∧ sj.1.length ≤ 100000 ∧ Eye wr b sj ∧ Row wr w4.heap.size 58 [.int .i64 v1, .int .i64 v2, .int .i64 v3, .int .i64 v4, (.slice a0 ps.length c0 : Value), .int .i64 v5, .int .i64 v6, .string (bs ky), .string (bs vl), v, .slice none 0 0] ∧ Row wr w.heap.size 58 [.int .i64 0, .int .i64 0, .int .i64 0, .int .i64 0, .slice none 0 0, .int .i64 0, .int .i64 0, .string ⟨#[]⟩, .string ⟨#[]⟩, .slice none 0 0, .slice none 0 0] ∧ wr.ownsRow H2 163 2 v acc.length (acc.flatMap numCells) ∧ H2 ≤ wr.heap.size ∧ Chg (One b) w wr ∧ wr.ownsRow H1 161 2 (.slice a0 ps.length c0 : Value) ps.length (ps.flatMap imgCells)) (fun n _ => (intOf n).toNat)
        case atStart => exact ⟨no, [], s10, .slice none 0 0, rfl, Going.start q12.out, by simp; omega, z10, h, hC, hR, World.ownsRow_nil _ _ _ _, by omega, hc, hp⟩
        case round =>
          clear hC hR h hc hp
          obtain ⟨m, acc, sj, v, rfl, hgo, hml, hsl, h, hC, hR, hown, hH, hc, hp⟩ := hrel
          have HG := Lib.hid hgo
          clear hgo
          have e1 := h.cell (i := 1) rfl
          go_upto_region 11 with (fail)
          go_cut [69] from 61 to 69 (fun t wx => t = .bool (decide (0 < m) && !sj.2) ∧ wx = wr)
          case first =>
            by_cases hm : m = 0
            · subst hm
              go_wp2_with fail
              go_meet
              exact ⟨rfl, rfl⟩
            · have hm' : (0 : Int) < (m : Int) := by omega
              go_wp2_with fail
              go_meet
              exact ⟨by rw [show decide (0 < m) = true by simp; omega]; rfl, rfl⟩
          case rest =>
            obtain ⟨rfl, rfl⟩ := hcut
            cases hq : (decide (0 < m) && !sj.2)
            rotate_left
            · simp only [Bool.and_eq_true, decide_eq_true_eq, Bool.not_eq_true'] at hq
              obtain ⟨hm, hbad⟩ := hq
              obtain ⟨m', rfl⟩ : ∃ m', m = m' + 1 := ⟨m - 1, by omega⟩
              obtain ⟨pg, t1, g1⟩ : ∃ pg t1, eNum sj 4 = (pg, t1) := ⟨_, _, rfl⟩
              obtain ⟨dt, t2, g2⟩ : ∃ dt t2, eNum t1 4 = (dt, t2) := ⟨_, _, rfl⟩
              have hf : (getPair 4 4) sj = (((pg : Int), (dt : Int)), t2) := by
                unfold getPair
                rw [g1]
                show (((pg : Int), ((eNum t1 4).1 : Int)), (eNum t1 4).2) = _
                rw [g2]
              have hnx := HG.out.step hbad hf
              have l1 := eNum_rest sj 4
              have l2 := eNum_rest t1 4
              rw [g1] at l1
              rw [g2] at l2
              have HN := Lib.hid hnx
              have G1 := Lib.hid g1
              have G2 := Lib.hid g2
              clear hnx g1 g2 hf hbad e1
              simp only at l1 l2
              go_wp2_with fail
              refine (enum_of G1.out _ h (by omega) (by omega)).mono ?_
              rintro e wa ⟨rfl, h1, hc1⟩
              have hne : ∀ k, v.ownBlock = some k → ¬ One b k := fun k hk hx => by have := (hown.lt k hk).1; have hx' : k = b := hx; omega
              replace hc := hc.trans hc1
              replace hR := hR.chg hc1 hbw
              replace hC := hC.chg hc1 hcb
              replace hown := Reel.own_chg hown hc1 hne
              have hpne : ∀ k, (.slice a0 ps.length c0 : Value).ownBlock = some k → ¬ One b k := fun k hk hx => by have := (hpl k hk).1; have hx' : k = b := hx; omega
              replace hp := Reel.own_chg hp hc1 hpne
              replace hH := Nat.le_trans hH hc1.size
              replace h := h1
              clear h1 hc1
              have x4 := hC.cell (i := 9) rfl
              have f4 := hC.frozen 9 (by simp)
              go_wp2_with fail
              have x4d : wa.drew.cell? ⟨w4.heap.size, 9, none⟩ = some v := x4
              go_region_law (first
                  | (refine app1_step (news := [.int .i64 (pg : Int), .int .i64 (dt : Int)]) hob (Below.refl H2 _) (Nat.le_trans hH hc1.size) 55 Try.underlying55 info_open rfl (by decide) (by decide) (by omega) rfl (by simp [Value.oneCell']) rfl rfl rfl rfl ?_
                     intro v' wd hod hbd hgd
                     obtain ⟨a', cap', rfl, _⟩ := Reel.own_shape hod
                     have hCd := hCb.grown hgd (fun e => by have := (hob.lt _ e.symm).1; omega)
                     have x4c := hCd.cell (i := 9) rfl
                     have f4c := hCd.frozen 9 (by simp))
                  | (go_simp
                     go_at_call 166
                     refine (enum_of G2.out _ h.drew (by omega) (by omega)).mono ?_
                     rintro e wb ⟨rfl, h1, hc1⟩
                     have hCb := hC.drew.chg hc1 hcb
                     have hob := Reel.own_chg (w := wa.drew) hown hc1 hne
                     have x4a := hCb.cell (i := 9) rfl
                     have x4b := (hCb.alloc (.cells #[.int .i64 (pg : Int), .int .i64 (dt : Int)] 163)).cell (i := 9) rfl
                     clear hown))
              all_goals
                have hRd := (hR.drew.chg hc1 hbw).grown hgd (fun e => by have := (hob.lt _ e.symm).1; omega)
                have hEd := h1.grown hgd (fun e => by have := (hob.lt _ e.symm).1; omega)
                have hcd := (hc.drew.trans hc1).next (Chg.of_grown hgd) (fun k hk hx => by have := (hob.lt k hx.symm).1; omega)
                have hset : Chg (One w4.heap.size) wd (wd.setCell ⟨w4.heap.size, 9, none⟩ (.slice a' (acc.length + 1) cap')) := (Chg.refl _ _).put _ _
                have hcd2 := hcd.next hset (fun k hk hx => by have hx' : k = w4.heap.size := hx; omega)
                have hEd2 := hEd.chg hset (fun hx => hcb (Eq.symm hx))
                have hRd2 := hRd.chg hset (by show ¬ w.heap.size = w4.heap.size; omega)
                have hCd2 := (hCd.set 9 (.slice a' (acc.length + 1) cap'))
                have hod2 := Reel.own_chg hod hset (fun k hk hx => by have := (hod.lt k hk).1; have hx' : k = w4.heap.size := hx; omega)
                have hH2 : H2 ≤ (wd.setCell ⟨w4.heap.size, 9, none⟩ (.slice a' (acc.length + 1) cap')).heap.size := Nat.le_trans hH (Nat.le_trans hc1.size (Nat.le_trans hgd.size hset.size))
                simp only [List.set] at hCd2
                have hp2 := Reel.own_chg (Reel.own_chg (Reel.own_chg (w := wa.drew) hp hc1 hpne) (Chg.of_grown hgd) (fun k hk hx => by have := (hpl k hk).2; have := (hob.lt k hx.symm).1; omega)) hset (fun k hk hx => by have := (hpl k hk).1; have hx' : k = w4.heap.size := hx; omega)
                have hof : (acc ++ [((pg : Int), (dt : Int))]).flatMap numCells = acc.flatMap numCells ++ [.int .i64 (pg : Int), .int .i64 (dt : Int)] := by rw [List.flatMap_append]; rfl
                have hlen1 : acc.length + 1 = (acc ++ [((pg : Int), (dt : Int))]).length := by simp
                rw [← hof] at hod2
                have HOD : Hid (World.ownsRow _ H2 163 2 (.slice a' (acc.length + 1) cap') (acc ++ [((pg : Int), (dt : Int))]).length ((acc ++ [((pg : Int), (dt : Int))]).flatMap numCells)) := Lib.hid (own_len hod2 hlen1)
                have HRD := Lib.hid hRd2
                have HCD := Lib.hid hCd2
                have HED := Lib.hid hEd2
                have HCC := Lib.hid hcd2
                clear hod2 hRd2 hCd2 hEd2 hcd2 hof hset hcd hEd hRd hob hod hbd hgd x4c f4c x4a x4b x4 f4 x4d hCd hCb h1 hc1 h hC hR hc hlen1
                go_wp2_with fail
                exact ⟨⟨m', acc ++ [((pg : Int), (dt : Int))], t2, .slice a' (acc.length + 1) cap', by go_num, HN.out, by have := hml; simp; try omega, by omega, HED.out, HCD.out, HRD.out, HOD.out, hH2, HCC.out, hp2⟩, by simp only [intOf]; omega⟩
            · have hst : m = 0 ∨ sj.2 = true := by
                rcases Nat.eq_zero_or_pos m with e | e
                · exact .inl e
                · exact .inr (by simpa [e] using hq)
              obtain ⟨hall, hend⟩ := HG.out.stop hst
              have HALL2 := Lib.hid hall
              have HEND2 := Lib.hid hend
              clear hq HG e1 hst hall hend
              rw [← HALL2.out] at hown
              rw [← HEND2.out] at h
              have ho := hown
              clear hown
              obtain ⟨a1, c1, rfl, hz1, _⟩ := Reel.own_shape ho
              go_wp2_with fail
              refine (enum_of q13.out _ h (by omega) (by omega)).mono ?_
              rintro e wq ⟨rfl, h1, hc1⟩
              replace hc := hc.trans hc1
              replace hR := hR.chg hc1 hbw
              replace hC := hC.chg hc1 hcb
              replace hp := Reel.own_chg hp hc1 (fun k hk hx => by have := (hp.lt k hk).1; have hx' : k = b := hx; omega)
              replace ho := Reel.own_chg ho hc1 (fun k hk hx => by have := (ho.lt k hk).1; have hx' : k = b := hx; omega)
              replace h := h1
              clear h1 hc1
              have hcp3 := hC.lt
              obtain ⟨H3, hH3⟩ : ∃ H3, H3 = wq.heap.size := ⟨_, rfl⟩
              have hbH3 : b < wq.heap.size := h.lt
              have hRH3 : w.heap.size < wq.heap.size := hR.lt
              have hpl : ∀ k, (.slice a0 ps.length c0 : Value).ownBlock = some k → H1 ≤ k ∧ k < H3 := fun k hk => by have := hp.lt k hk; omega
              have hol : ∀ k, (.slice a1 os.length c1 : Value).ownBlock = some k → H2 ≤ k ∧ k < H3 := fun k hk => by have := ho.lt k hk; omega
              go_wp2_with fail
              go_loopw [8] (fun n wr => ∃ (m : Nat) (acc : List (Int × Int)) (sj : St) (v : Value), n = .int .i64 (m : Int) ∧ Going (getPair 2 4) ds sd m acc sj ∧ acc.length + m ≤ 65535 ∧ sj.1.length ≤ 100000 ∧ Eye wr b sj ∧ Row wr w4.heap.size 58 [.int .i64 v1, .int .i64 v2, .int .i64 v3, .int .i64 v4, (.slice a0 ps.length c0 : Value), .int .i64 v5, .int .i64 v6, .string (bs ky), .string (bs vl), (.slice a1 os.length c1 : Value), v] ∧ Row wr w.heap.size 58 [.int .i64 0, .int .i64 0, .int .i64 0, .int .i64 0, .slice none 0 0, .int .i64 0, .int .i64 0, .string ⟨#[]⟩, .string ⟨#[]⟩, .slice none 0 0, .slice none 0 0] ∧ wr.ownsRow H3 165 2 v acc.length (acc.flatMap numCells) ∧ H3 ≤ wr.heap.size ∧ Chg (One b) w wr ∧ wr.ownsRow H1 161 2 (.slice a0 ps.length c0 : Value) ps.length (ps.flatMap imgCells) ∧ wr.ownsRow H2 163 2 (.slice a1 os.length c1 : Value) os.length (os.flatMap numCells)) (fun n _ => (intOf n).toNat)
              case atStart => exact ⟨nd, [], s11, .slice none 0 0, rfl, Going.start q14.out, by simp; omega, z11, h, hC, hR, World.ownsRow_nil _ _ _ _, by omega, hc, hp, ho⟩
              case round =>
                clear hC hR h hc hp ho
                obtain ⟨m, acc, sj, v, rfl, hgo, hml, hsl, h, hC, hR, hown, hH, hc, hp, ho⟩ := hrel
                have HG := Lib.hid hgo
                clear hgo
                have e1 := h.cell (i := 1) rfl
                go_upto_region 16 with (fail)
                go_cut [93] from 85 to 93 (fun t wx => t = .bool (decide (0 < m) && !sj.2) ∧ wx = wr)
                case first =>
                  by_cases hm : m = 0
                  · subst hm
                    go_wp2_with fail
                    go_meet
                    exact ⟨rfl, rfl⟩
                  · have hm' : (0 : Int) < (m : Int) := by omega
                    go_wp2_with fail
                    go_meet
                    exact ⟨by rw [show decide (0 < m) = true by simp; omega]; rfl, rfl⟩
                case rest =>
                  obtain ⟨rfl, rfl⟩ := hcut
                  cases hq : (decide (0 < m) && !sj.2)
                  rotate_left
                  · simp only [Bool.and_eq_true, decide_eq_true_eq, Bool.not_eq_true'] at hq
                    obtain ⟨hm, hbad⟩ := hq
                    obtain ⟨m', rfl⟩ : ∃ m', m = m' + 1 := ⟨m - 1, by omega⟩
                    obtain ⟨pg, t1, g1⟩ : ∃ pg t1, eNum sj 2 = (pg, t1) := ⟨_, _, rfl⟩
                    obtain ⟨dt, t2, g2⟩ : ∃ dt t2, eNum t1 4 = (dt, t2) := ⟨_, _, rfl⟩
                    have hf : (getPair 2 4) sj = (((pg : Int), (dt : Int)), t2) := by
                      unfold getPair
                      rw [g1]
                      show (((pg : Int), ((eNum t1 4).1 : Int)), (eNum t1 4).2) = _
                      rw [g2]
                    have hnx := HG.out.step hbad hf
                    have l1 := eNum_rest sj 2
                    have l2 := eNum_rest t1 4
                    rw [g1] at l1
                    rw [g2] at l2
                    have HN := Lib.hid hnx
                    have G1 := Lib.hid g1
                    have G2 := Lib.hid g2
                    clear hnx g1 g2 hf hbad e1
                    simp only at l1 l2
                    go_wp2_with fail
                    refine (enum_of G1.out _ h (by omega) (by omega)).mono ?_
                    rintro e wa ⟨rfl, h1, hc1⟩
                    have hne : ∀ k, v.ownBlock = some k → ¬ One b k := fun k hk hx => by have := (hown.lt k hk).1; have hx' : k = b := hx; omega
                    replace hc := hc.trans hc1
                    replace hR := hR.chg hc1 hbw
                    replace hC := hC.chg hc1 hcb
                    replace hown := Reel.own_chg hown hc1 hne
                    have hpne : ∀ k, (.slice a0 ps.length c0 : Value).ownBlock = some k → ¬ One b k := fun k hk hx => by have := (hpl k hk).1; have hx' : k = b := hx; omega
                    replace hp := Reel.own_chg hp hc1 hpne
                    have hone : ∀ k, (.slice a1 os.length c1 : Value).ownBlock = some k → ¬ One b k := fun k hk hx => by have := (hol k hk).1; have hx' : k = b := hx; omega
                    replace ho := Reel.own_chg ho hc1 hone
                    replace hH := Nat.le_trans hH hc1.size
                    replace h := h1
                    clear h1 hc1
                    have x4 := hC.cell (i := 10) rfl
                    have f4 := hC.frozen 10 (by simp)
                    go_wp2_with fail
                    have x4d : wa.drew.cell? ⟨w4.heap.size, 10, none⟩ = some v := x4
                    go_region_law (first
                        | (refine app1_step (news := [.int .i64 (pg : Int), .int .i64 (dt : Int)]) hob (Below.refl H3 _) (Nat.le_trans hH hc1.size) 56 Try.underlying56 info_dirty rfl (by decide) (by decide) (by omega) rfl (by simp [Value.oneCell']) rfl rfl rfl rfl ?_
                           intro v' wd hod hbd hgd
                           obtain ⟨a', cap', rfl, _⟩ := Reel.own_shape hod
                           have hCd := hCb.grown hgd (fun e => by have := (hob.lt _ e.symm).1; omega)
                           have x4c := hCd.cell (i := 10) rfl
                           have f4c := hCd.frozen 10 (by simp))
                        | (go_simp
                           go_at_call 166
                           refine (enum_of G2.out _ h.drew (by omega) (by omega)).mono ?_
                           rintro e wb ⟨rfl, h1, hc1⟩
                           have hCb := hC.drew.chg hc1 hcb
                           have hob := Reel.own_chg (w := wa.drew) hown hc1 hne
                           have x4a := hCb.cell (i := 10) rfl
                           have x4b := (hCb.alloc (.cells #[.int .i64 (pg : Int), .int .i64 (dt : Int)] 165)).cell (i := 10) rfl
                           clear hown))
                    all_goals
                      have hRd := (hR.drew.chg hc1 hbw).grown hgd (fun e => by have := (hob.lt _ e.symm).1; omega)
                      have hEd := h1.grown hgd (fun e => by have := (hob.lt _ e.symm).1; omega)
                      have hcd := (hc.drew.trans hc1).next (Chg.of_grown hgd) (fun k hk hx => by have := (hob.lt k hx.symm).1; omega)
                      have hset : Chg (One w4.heap.size) wd (wd.setCell ⟨w4.heap.size, 10, none⟩ (.slice a' (acc.length + 1) cap')) := (Chg.refl _ _).put _ _
                      have hcd2 := hcd.next hset (fun k hk hx => by have hx' : k = w4.heap.size := hx; omega)
                      have hEd2 := hEd.chg hset (fun hx => hcb (Eq.symm hx))
                      have hRd2 := hRd.chg hset (by show ¬ w.heap.size = w4.heap.size; omega)
                      have hCd2 := (hCd.set 10 (.slice a' (acc.length + 1) cap'))
                      have hod2 := Reel.own_chg hod hset (fun k hk hx => by have := (hod.lt k hk).1; have hx' : k = w4.heap.size := hx; omega)
                      have hH2 : H3 ≤ (wd.setCell ⟨w4.heap.size, 10, none⟩ (.slice a' (acc.length + 1) cap')).heap.size := Nat.le_trans hH (Nat.le_trans hc1.size (Nat.le_trans hgd.size hset.size))
                      simp only [List.set] at hCd2
                      have hp2 := Reel.own_chg (Reel.own_chg (Reel.own_chg (w := wa.drew) hp hc1 hpne) (Chg.of_grown hgd) (fun k hk hx => by have := (hpl k hk).2; have := (hob.lt k hx.symm).1; omega)) hset (fun k hk hx => by have := (hpl k hk).1; have hx' : k = w4.heap.size := hx; omega)
                      have ho2 := Reel.own_chg (Reel.own_chg (Reel.own_chg (w := wa.drew) ho hc1 hone) (Chg.of_grown hgd) (fun k hk hx => by have := (hol k hk).2; have := (hob.lt k hx.symm).1; omega)) hset (fun k hk hx => by have := (hol k hk).1; have hx' : k = w4.heap.size := hx; omega)
                      have hof : (acc ++ [((pg : Int), (dt : Int))]).flatMap numCells = acc.flatMap numCells ++ [.int .i64 (pg : Int), .int .i64 (dt : Int)] := by rw [List.flatMap_append]; rfl
                      have hlen1 : acc.length + 1 = (acc ++ [((pg : Int), (dt : Int))]).length := by simp
                      rw [← hof] at hod2
                      have HOD : Hid (World.ownsRow _ H3 165 2 (.slice a' (acc.length + 1) cap') (acc ++ [((pg : Int), (dt : Int))]).length ((acc ++ [((pg : Int), (dt : Int))]).flatMap numCells)) := Lib.hid (own_len hod2 hlen1)
                      have HRD := Lib.hid hRd2
                      have HCD := Lib.hid hCd2
                      have HED := Lib.hid hEd2
                      have HCC := Lib.hid hcd2
                      clear hod2 hRd2 hCd2 hEd2 hcd2 hof hset hcd hEd hRd hob hod hbd hgd x4c f4c x4a x4b x4 f4 x4d hCd hCb h1 hc1 h hC hR hc hlen1
                      go_wp2_with fail
                      exact ⟨⟨m', acc ++ [((pg : Int), (dt : Int))], t2, .slice a' (acc.length + 1) cap', by go_num, HN.out, by have := hml; simp; try omega, by omega, HED.out, HCD.out, HRD.out, HOD.out, hH2, HCC.out, hp2, ho2⟩, by simp only [intOf]; omega⟩
                  · have hst : m = 0 ∨ sj.2 = true := by
                      rcases Nat.eq_zero_or_pos m with e | e
                      · exact .inl e
                      · exact .inr (by simpa [e] using hq)
                    obtain ⟨hall, hend⟩ := HG.out.stop hst
                    have HALL3 := Lib.hid hall
                    have HEND3 := Lib.hid hend
                    clear hq HG e1 hst hall hend
                    rw [← HALL3.out] at hown
                    rw [← HEND3.out] at h
                    obtain ⟨a2, c2, rfl, hz2, _⟩ := Reel.own_shape hown
                    have HC := Lib.hid hc
                    have HH := Lib.hid h
                    have HO := Lib.hid ho
                    have HP := Lib.hid hp
                    have HW := Lib.hid hown
                    clear hc h ho hp hown
                    go_wp2_with (first
                      | (refine load_row hC 58 Try.underlying58 rfl (by kernel_rfl) rfl rfl rfl ?_)
                      | (refine store_row hR (Rec.cells ⟨v1, v2, v3, v4, v5, v6, bs ky, bs vl, ps, os, ds⟩ (.slice a0 ps.length c0) (.slice a1 os.length c1) (.slice a2 ds.length c2)) 58 (by kernel_rfl) rfl (by simp [Rec.cells, Value.oneCell']) rfl rfl rfl rfl ?_; intro wz hRz hcz hsz))
                    have hWb : ∀ k, One w.heap.size k → k = w.heap.size := fun k hk => hk
                    have hp9 := Reel.own_chg HP.out hcz (fun k hk hx => by have := (hpl k hk).1; have := hWb k hx; omega)
                    have ho9 := Reel.own_chg HO.out hcz (fun k hk hx => by have := (hol k hk).1; have := hWb k hx; omega)
                    have hw9 := Reel.own_chg HW.out hcz (fun k hk hx => by have := (HW.out.lt k hk).1; have := hWb k hx; omega)
                    have hh9 := HH.out.chg hcz (fun hx => hbw (Eq.symm hx))
                    have hc9 := HC.out.next hcz (fun k hk hx => by have := hWb k hx; omega)
                    have b1 : ps.length ≤ np := by have := (loopP_rest getImage getImage_rest np s9).2; rw [q10.out] at this; exact this
                    have b2 : os.length ≤ no := by have := (loopP_rest (getPair 4 4) (getPair_rest 4 4) no s10).2; rw [q12.out] at this; exact this
                    have b3 : ds.length ≤ nd := by have := (loopP_rest (getPair 2 4) (getPair_rest 2 4) nd s11).2; rw [q14.out] at this; exact this
                    obtain ⟨_, _, e0, p0, u0⟩ := pairs_of_own (g := Value.string) hp9 rfl (by omega)
                    obtain ⟨_, _, e1, p1, u1⟩ := pairs_of_own (g := Value.int .i64) ho9 rfl (by omega)
                    obtain ⟨_, _, e2, p2, u2⟩ := pairs_of_own (g := Value.int .i64) hw9 rfl (by omega)
                    simp only [Value.slice.injEq] at e0 e1 e2
                    obtain ⟨rfl, _, rfl⟩ := e0
                    obtain ⟨rfl, _, rfl⟩ := e1
                    obtain ⟨rfl, _, rfl⟩ := e2
                    exact ret_row hRz Try.results168 Try.underlying58 rfl (by kernel_rfl) rfl rfl ⟨⟨_, _, _, _, _, _, _, _, _, rfl, p0, p1, p2, fun ad h => by have := u0 ad h; omega, fun ad h => by have := u1 ad h; omega, fun ad h => by have := u2 ad h; omega, hz0, hz1, hz2⟩, HEND3.out ▸ hh9, hc9⟩
end Go.Proofs.Ytcfjooeagfollaa.Note
