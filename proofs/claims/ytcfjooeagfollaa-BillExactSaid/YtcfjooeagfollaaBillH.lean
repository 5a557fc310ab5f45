/- bill.eye.move. Printed by bill_emove.py -/
import Derived.Test.YtcfjooeagfollaaBillF
import Derived.Test.YtcfjooeagfollaaBillG
namespace Go.Proofs.Ytcfjooeagfollaa.Bill
open Go.RowKit Go.Proofs.Ytcfjooeagfollaa.Mem Go.Proofs.Ytcfjooeagfollaa.Bytes Go.Proofs.Ytcfjooeagfollaa.Num Go.Proofs.Ytcfjooeagfollaa.Sign
set_option linter.unusedSimpArgs false
set_option linter.unusedVariables false
set_option maxRecDepth 20000

def eMove (s : St) : Mv × St :=
  if (eOne s).1 = 1 then (if (eOne (eOne (eOne s).2).2).1 = 4 then (⟨1, (eOne (eOne s).2).1, 4, (eWish (eOne (eOne (eOne s).2).2).2).1, 0, 0⟩, (eWish (eOne (eOne (eOne s).2).2).2).2)
    else (⟨1, (eOne (eOne s).2).1, (eOne (eOne (eOne s).2).2).1, noW, 0, 0⟩, (eOne (eOne (eOne s).2).2).2))
  else if (eOne s).1 = 2 ∨ (eOne s).1 = 3 ∨ (eOne s).1 = 4 ∨ (eOne s).1 = 8 then (⟨(eOne s).1, (eOne (eOne s).2).1, 0, noW, 0, 0⟩, (eOne (eOne s).2).2)
  else if (eOne s).1 = 9 then (⟨9, (eOne (eOne s).2).1, 0, noW, (eNum (eOne (eOne s).2).2 8).1, (eNum (eNum (eOne (eOne s).2).2 8).2 8).1⟩, (eNum (eNum (eOne (eOne s).2).2 8).2 8).2)
  else (Mv.only (eOne s).1, (eOne s).2)
theorem eNum_rest (s : St) (k : Nat) : (eNum s k).2.1.length ≤ s.1.length := eTake_rest s k
theorem num_to {b : Nat} {s s' : St} {z : Int} (q : eNum s 8 = (z, s')) (w : World) (h : Eye w b s) (hs : s.1.length ≤ 9223372036854775000) :
    Calls Try.prog 157 #[.pointer (some ⟨b, 0, none⟩), .int .i64 8] w fun e w' => e = .returned (.int .i64 z) ∧ Eye w' b s' ∧ Chg (One b) w w' := by
  have h1 := enum_calls b s 8 w h (by omega) (by omega)
  rw [q] at h1
  exact h1
def Mv.at (m : Mv) (a : Option Addr) (c : Nat) : Mv := ⟨m.k, m.n, m.a, ⟨m.w.k, m.w.t, m.w.key, m.w.high, a, c, m.w.row, m.w.c, m.w.val, m.w.n⟩, m.p, m.q⟩
def MRes (B : Nat) (m : Mv) (e : Ending) (w' : World) : Prop := ∃ a c, e = .returned (.agg (m.at a c).cells.toArray) ∧ Vs w' a m.w.row ∧ ∀ ad, a = some ad → m.w.row ≠ [] → B ≤ ad.block
def MReads (b : Nat) (s : St) (w : World) (x : Mv) (s' : St) : Prop := Calls Try.prog 108 #[.pointer (some ⟨b, 0, none⟩)] w fun e w' => MRes w.heap.size x e w' ∧ Eye w' b s' ∧ Chg (One b) w w'
theorem mres_none {B : Nat} {x : Mv} {w' : World} (h1 : x.w.ra = none) (h2 : x.w.rc = 0) (h3 : x.w.row = []) : MRes B x (.returned (.agg x.cells.toArray)) w' := by
  obtain ⟨mk, mn, ma, ⟨k, t, key, high, ra, rc, row, c, val, n⟩, p, q⟩ := x
  simp only at h1 h2 h3
  subst h1 h2 h3
  exact ⟨none, 0, rfl, Vs.nil _ _, fun ad e => by cases e⟩

set_option maxHeartbeats 8000000 in
theorem emove_14 (b : Nat) (s : St) (w : World) (h : Eye w b s) (hs : s.1.length ≤ 9223372036854774000) (s0 : St) (z0 : ((eOne s).1 : Int) = 1) (q0 : (eOne s).2 = s0) (s1 s2 s3 : St) (n : Int) (ws : Wsh) (z1 : ((eOne s0).1 : Int) = n) (q1 : (eOne s0).2 = s1) (z2 : ((eOne s1).1 : Int) = 4) (q2 : (eOne s1).2 = s2) (q3 : eWish s2 = (ws, s3)) : MReads b s w ⟨1, n, 4, ws, 0, 0⟩ s3 := by
  have hlt := h.lt
  unfold MReads
  have Y := Lib.hid (Row.new w 94 [.int .i64 0, .int .i64 0, .int .i64 0, .int .i64 0, .int .i64 0, .int .i64 0, .int .i64 0, .string ⟨#[]⟩, .int .i64 0, .int .i64 0, .string ⟨#[]⟩, .slice none 0 0, .int .i64 0, .int .i64 0, .int .i64 0, .string ⟨#[]⟩, .int .i64 0, .int .i64 0, .int .i64 0])
  have E := Lib.hid (h.alloc (.cells #[.int .i64 0, .int .i64 0, .int .i64 0, .int .i64 0, .int .i64 0, .int .i64 0, .int .i64 0, .string ⟨#[]⟩, .int .i64 0, .int .i64 0, .string ⟨#[]⟩, .slice none 0 0, .int .i64 0, .int .i64 0, .int .i64 0, .string ⟨#[]⟩, .int .i64 0, .int .i64 0, .int .i64 0] 94))
  have C := Lib.hid ((Chg.refl (One b) w).alloc (.cells #[.int .i64 0, .int .i64 0, .int .i64 0, .int .i64 0, .int .i64 0, .int .i64 0, .int .i64 0, .string ⟨#[]⟩, .int .i64 0, .int .i64 0, .string ⟨#[]⟩, .slice none 0 0, .int .i64 0, .int .i64 0, .int .i64 0, .string ⟨#[]⟩, .int .i64 0, .int .i64 0, .int .i64 0] 94))
  have r0 := eOne_rest s
  rw [q0] at r0
  have Q0 := Lib.hid q0
  have Z0 := Lib.hid z0
  clear q0 z0 h
  have r1 := eOne_rest s0
  rw [q1] at r1
  have r2 := eOne_rest s1
  rw [q2] at r2
  have WR := Lib.hid (fun wx hx => wish_reads b s2 wx hx (by omega))
  rw [q3] at WR
  have Z1 := Lib.hid z1
  have Q1 := Lib.hid q1
  have Z2 := Lib.hid z2
  have Q2 := Lib.hid q2
  clear z1 q1 z2 q2 q3
  go_enter Try.func108, Try.ntmps108
  go_wp2_with fail
  refine (one_to Z0.out Q0.out _ E.out (by omega)).mono ?_
  rintro e w1 ⟨rfl, hE, kc⟩
  have hsz := Nat.le_trans C.out.size kc.size
  have hyl := (Y.out.chg kc (fun e => by have e : w.heap.size = b := e; omega)).lt
  replace Y := Lib.hid ((Y.out.chg kc (fun e => by have e : w.heap.size = b := e; omega)).alloc (.cells #[.int .i64 0, .int .i64 0, .int .i64 0, .int .i64 0, .int .i64 0, .int .i64 0, .int .i64 0, .string ⟨#[]⟩, .int .i64 0, .int .i64 0, .string ⟨#[]⟩, .slice none 0 0, .int .i64 0, .int .i64 0, .int .i64 0, .string ⟨#[]⟩, .int .i64 0, .int .i64 0, .int .i64 0] 94))
  replace C := Lib.hid ((C.out.trans kc).alloc (.cells #[.int .i64 0, .int .i64 0, .int .i64 0, .int .i64 0, .int .i64 0, .int .i64 0, .int .i64 0, .string ⟨#[]⟩, .int .i64 0, .int .i64 0, .string ⟨#[]⟩, .slice none 0 0, .int .i64 0, .int .i64 0, .int .i64 0, .string ⟨#[]⟩, .int .i64 0, .int .i64 0, .int .i64 0] 94))
  replace E := Lib.hid (hE.alloc (.cells #[.int .i64 0, .int .i64 0, .int .i64 0, .int .i64 0, .int .i64 0, .int .i64 0, .int .i64 0, .string ⟨#[]⟩, .int .i64 0, .int .i64 0, .string ⟨#[]⟩, .slice none 0 0, .int .i64 0, .int .i64 0, .int .i64 0, .string ⟨#[]⟩, .int .i64 0, .int .i64 0, .int .i64 0] 94))
  have X := Lib.hid (Row.new w1 94 [.int .i64 0, .int .i64 0, .int .i64 0, .int .i64 0, .int .i64 0, .int .i64 0, .int .i64 0, .string ⟨#[]⟩, .int .i64 0, .int .i64 0, .string ⟨#[]⟩, .slice none 0 0, .int .i64 0, .int .i64 0, .int .i64 0, .string ⟨#[]⟩, .int .i64 0, .int .i64 0, .int .i64 0])
  have hb1 : b ≠ w1.heap.size := by omega
  have hb2 : w1.heap.size ≠ b := by omega
  have hy1 : w.heap.size ≠ w1.heap.size := by omega
  have hy2 : w.heap.size ≠ b := by omega
  clear hE kc
  go_wp2_with (first | (refine store_row X.out [.int .i64 1, .int .i64 0, .int .i64 0, .int .i64 0, .int .i64 0, .int .i64 0, .int .i64 0, .string ⟨#[]⟩, .int .i64 0, .int .i64 0, .string ⟨#[]⟩, .slice none 0 0, .int .i64 0, .int .i64 0, .int .i64 0, .string ⟨#[]⟩, .int .i64 0, .int .i64 0, .int .i64 0] 94 (by kernel_rfl) rfl (by simp [Value.oneCell']) rfl rfl rfl rfl ?_; intro w2 hz kz zz; replace E := Lib.hid (E.out.chg kz hb1); replace Y := Lib.hid (Y.out.chg kz hy1); replace C := Lib.hid (chg_new C.out kz (by omega)); replace X := Lib.hid hz; clear hz kz zz; have x0 := X.out.cell (i := 0) rfl))
  clear x0
  have HW := Lib.hid (show w.heap.size ≤ w1.heap.size from by omega)
  generalize w1.heap.size = g at *
  refine (one_to Z1.out Q1.out _ E.out (by omega)).mono ?_
  rintro e w3 ⟨rfl, hE, kc⟩
  replace X := Lib.hid (X.out.chg kc hb2)
  replace Y := Lib.hid (Y.out.chg kc hy2)
  replace C := Lib.hid (C.out.trans kc)
  replace E := Lib.hid hE
  clear hE kc
  have x1 := X.out.cell (i := 1) rfl
  have g1 := X.out.frozen 1 (by simp)
  go_wp2_with fail
  replace X := Lib.hid ((X.out.set 1 (.int .i64 n)).cast (cs' := [.int .i64 1, .int .i64 n, .int .i64 0, .int .i64 0, .int .i64 0, .int .i64 0, .int .i64 0, .string ⟨#[]⟩, .int .i64 0, .int .i64 0, .string ⟨#[]⟩, .slice none 0 0, .int .i64 0, .int .i64 0, .int .i64 0, .string ⟨#[]⟩, .int .i64 0, .int .i64 0, .int .i64 0]) rfl)
  replace Y := Lib.hid (Y.out.set_ne ⟨g, 1, none⟩ (.int .i64 n) (Ne.symm hy1))
  replace E := Lib.hid (E.out.set_ne ⟨g, 1, none⟩ (.int .i64 n) hb2)
  replace C := Lib.hid (chg_new C.out ((Chg.refl (One g) _).put 1 (.int .i64 n)) HW.out)
  clear x1 g1
  refine (one_to Z2.out Q2.out _ E.out (by omega)).mono ?_
  rintro e w4 ⟨rfl, hE, kc⟩
  replace X := Lib.hid (X.out.chg kc hb2)
  replace Y := Lib.hid (Y.out.chg kc hy2)
  replace C := Lib.hid (C.out.trans kc)
  replace E := Lib.hid hE
  clear hE kc
  have x2 := X.out.cell (i := 2) rfl
  have g2 := X.out.frozen 2 (by simp)
  go_wp2_with fail
  replace X := Lib.hid ((X.out.set 2 (.int .i64 4)).cast (cs' := [.int .i64 1, .int .i64 n, .int .i64 4, .int .i64 0, .int .i64 0, .int .i64 0, .int .i64 0, .string ⟨#[]⟩, .int .i64 0, .int .i64 0, .string ⟨#[]⟩, .slice none 0 0, .int .i64 0, .int .i64 0, .int .i64 0, .string ⟨#[]⟩, .int .i64 0, .int .i64 0, .int .i64 0]) rfl)
  replace Y := Lib.hid (Y.out.set_ne ⟨g, 2, none⟩ (.int .i64 4) (Ne.symm hy1))
  replace E := Lib.hid (E.out.set_ne ⟨g, 2, none⟩ (.int .i64 4) hb2)
  replace C := Lib.hid (chg_new C.out ((Chg.refl (One g) _).put 2 (.int .i64 4)) HW.out)
  clear x2 g2
  have WC := WR.out _ E.out
  unfold WReads at WC
  refine WC.mono ?_
  rintro e w8 ⟨⟨ra, rc, rfl, hV, hVB⟩, hE, kc⟩
  have HGL := X.out.lt
  have HYL := Y.out.lt
  have HGB := Lib.hid (fun ad e z (e2 : ad.block = g) => by have := hVB ad e z; omega : ∀ ad, ra = some ad → _ → ad.block = g → False)
  have HYB := Lib.hid (fun ad e z (e2 : ad.block = w.heap.size) => by have := hVB ad e z; omega : ∀ ad, ra = some ad → _ → ad.block = w.heap.size → False)
  have VB := Lib.hid (fun ad e z => by have := hVB ad e z; omega : ∀ ad, ra = some ad → _ → w.heap.size ≤ ad.block)
  replace X := Lib.hid (X.out.chg kc hb2)
  replace Y := Lib.hid (Y.out.chg kc hy2)
  replace C := Lib.hid (C.out.trans kc)
  replace E := Lib.hid hE
  clear hE kc
  clear WC
  have VV := Lib.hid hV
  clear hV hVB HGL HYL
  obtain ⟨tk, tt, ⟨t1, t2, t3⟩, ⟨t4, t5, t6⟩, ta, tc, tr, tcc, ⟨t7, t8, t9⟩, tn⟩ := ws
  go_wp2_with (first | (refine store_part [.int .i64 1, .int .i64 n, .int .i64 4] [.int .i64 0, .int .i64 0, .int .i64 0, .int .i64 0, .string ⟨#[]⟩, .int .i64 0, .int .i64 0, .string ⟨#[]⟩, .slice none 0 0, .int .i64 0, .int .i64 0, .int .i64 0, .string ⟨#[]⟩, .int .i64 0] [.int .i64 0, .int .i64 0] X.out [.int .i64 tk, .int .i64 tt, .int .i64 t1, .int .i64 t2, .string t3, .int .i64 t4, .int .i64 t5, .string t6, .slice ra tr.length rc, .int .i64 tcc, .int .i64 t7, .int .i64 t8, .string t9, .int .i64 tn] 90 (by kernel_rfl) rfl (by simp [Value.oneCell']) rfl rfl 3 rfl rfl rfl ?_; intro w80 hR kc hsz; have XF := Lib.hid hR; have YF := Lib.hid (Y.out.chg kc hy1); have EF := Lib.hid (E.out.chg kc hb1); have CF := Lib.hid (chg_new C.out kc HW.out); have VF := Lib.hid (vs_chg VV.out kc (fun ad e z e2 => HGB.out ad e z (show ad.block = g from e2))); clear hR kc hsz) | (refine load_row XF.out 94 Try.underlying94 rfl (by kernel_rfl) rfl rfl rfl ?_) | (refine store_row YF.out [.int .i64 1, .int .i64 n, .int .i64 4, .int .i64 tk, .int .i64 tt, .int .i64 t1, .int .i64 t2, .string t3, .int .i64 t4, .int .i64 t5, .string t6, .slice ra tr.length rc, .int .i64 tcc, .int .i64 t7, .int .i64 t8, .string t9, .int .i64 tn, .int .i64 0, .int .i64 0] 94 (by kernel_rfl) rfl (by simp [Value.oneCell']) rfl rfl rfl rfl ?_; intro w90 hR kc hsz2))
  have E9 := Lib.hid (EF.out.chg kc (fun e => hy2 (show b = w.heap.size from e).symm))
  have C9 := Lib.hid (chg_new CF.out kc (Nat.le_refl _))
  have V9 := Lib.hid (vs_chg VF.out kc (fun ad e z e2 => HYB.out ad e z (show ad.block = w.heap.size from e2)))
  have R9 := Lib.hid hR
  clear hR kc hsz2
  exact ret_row R9.out Try.results108 Try.underlying94 rfl (by kernel_rfl) rfl rfl ⟨⟨ra, rc, rfl, V9.out, VB.out⟩, E9.out, C9.out⟩
set_option maxHeartbeats 8000000 in
theorem emove_1 (b : Nat) (s : St) (w : World) (h : Eye w b s) (hs : s.1.length ≤ 9223372036854774000) (s0 : St) (z0 : ((eOne s).1 : Int) = 1) (q0 : (eOne s).2 = s0) (s1 s2 : St) (n a : Int) (d4 : ((a : Int) == 4) = false) (z1 : ((eOne s0).1 : Int) = n) (q1 : (eOne s0).2 = s1) (z2 : ((eOne s1).1 : Int) = a) (q2 : (eOne s1).2 = s2) : MReads b s w ⟨1, n, a, noW, 0, 0⟩ s2 := by
  have hlt := h.lt
  unfold MReads
  have Y := Lib.hid (Row.new w 94 [.int .i64 0, .int .i64 0, .int .i64 0, .int .i64 0, .int .i64 0, .int .i64 0, .int .i64 0, .string ⟨#[]⟩, .int .i64 0, .int .i64 0, .string ⟨#[]⟩, .slice none 0 0, .int .i64 0, .int .i64 0, .int .i64 0, .string ⟨#[]⟩, .int .i64 0, .int .i64 0, .int .i64 0])
  have E := Lib.hid (h.alloc (.cells #[.int .i64 0, .int .i64 0, .int .i64 0, .int .i64 0, .int .i64 0, .int .i64 0, .int .i64 0, .string ⟨#[]⟩, .int .i64 0, .int .i64 0, .string ⟨#[]⟩, .slice none 0 0, .int .i64 0, .int .i64 0, .int .i64 0, .string ⟨#[]⟩, .int .i64 0, .int .i64 0, .int .i64 0] 94))
  have C := Lib.hid ((Chg.refl (One b) w).alloc (.cells #[.int .i64 0, .int .i64 0, .int .i64 0, .int .i64 0, .int .i64 0, .int .i64 0, .int .i64 0, .string ⟨#[]⟩, .int .i64 0, .int .i64 0, .string ⟨#[]⟩, .slice none 0 0, .int .i64 0, .int .i64 0, .int .i64 0, .string ⟨#[]⟩, .int .i64 0, .int .i64 0, .int .i64 0] 94))
  have r0 := eOne_rest s
  rw [q0] at r0
  have Q0 := Lib.hid q0
  have Z0 := Lib.hid z0
  clear q0 z0 h
  have r1 := eOne_rest s0
  rw [q1] at r1
  have Z1 := Lib.hid z1
  have Q1 := Lib.hid q1
  have Z2 := Lib.hid z2
  have Q2 := Lib.hid q2
  clear z1 q1 z2 q2
  go_enter Try.func108, Try.ntmps108
  go_wp2_with fail
  refine (one_to Z0.out Q0.out _ E.out (by omega)).mono ?_
  rintro e w1 ⟨rfl, hE, kc⟩
  have hsz := Nat.le_trans C.out.size kc.size
  have hyl := (Y.out.chg kc (fun e => by have e : w.heap.size = b := e; omega)).lt
  replace Y := Lib.hid ((Y.out.chg kc (fun e => by have e : w.heap.size = b := e; omega)).alloc (.cells #[.int .i64 0, .int .i64 0, .int .i64 0, .int .i64 0, .int .i64 0, .int .i64 0, .int .i64 0, .string ⟨#[]⟩, .int .i64 0, .int .i64 0, .string ⟨#[]⟩, .slice none 0 0, .int .i64 0, .int .i64 0, .int .i64 0, .string ⟨#[]⟩, .int .i64 0, .int .i64 0, .int .i64 0] 94))
  replace C := Lib.hid ((C.out.trans kc).alloc (.cells #[.int .i64 0, .int .i64 0, .int .i64 0, .int .i64 0, .int .i64 0, .int .i64 0, .int .i64 0, .string ⟨#[]⟩, .int .i64 0, .int .i64 0, .string ⟨#[]⟩, .slice none 0 0, .int .i64 0, .int .i64 0, .int .i64 0, .string ⟨#[]⟩, .int .i64 0, .int .i64 0, .int .i64 0] 94))
  replace E := Lib.hid (hE.alloc (.cells #[.int .i64 0, .int .i64 0, .int .i64 0, .int .i64 0, .int .i64 0, .int .i64 0, .int .i64 0, .string ⟨#[]⟩, .int .i64 0, .int .i64 0, .string ⟨#[]⟩, .slice none 0 0, .int .i64 0, .int .i64 0, .int .i64 0, .string ⟨#[]⟩, .int .i64 0, .int .i64 0, .int .i64 0] 94))
  have X := Lib.hid (Row.new w1 94 [.int .i64 0, .int .i64 0, .int .i64 0, .int .i64 0, .int .i64 0, .int .i64 0, .int .i64 0, .string ⟨#[]⟩, .int .i64 0, .int .i64 0, .string ⟨#[]⟩, .slice none 0 0, .int .i64 0, .int .i64 0, .int .i64 0, .string ⟨#[]⟩, .int .i64 0, .int .i64 0, .int .i64 0])
  have hb1 : b ≠ w1.heap.size := by omega
  have hb2 : w1.heap.size ≠ b := by omega
  have hy1 : w.heap.size ≠ w1.heap.size := by omega
  have hy2 : w.heap.size ≠ b := by omega
  clear hE kc
  go_wp2_with (first | (refine store_row X.out [.int .i64 1, .int .i64 0, .int .i64 0, .int .i64 0, .int .i64 0, .int .i64 0, .int .i64 0, .string ⟨#[]⟩, .int .i64 0, .int .i64 0, .string ⟨#[]⟩, .slice none 0 0, .int .i64 0, .int .i64 0, .int .i64 0, .string ⟨#[]⟩, .int .i64 0, .int .i64 0, .int .i64 0] 94 (by kernel_rfl) rfl (by simp [Value.oneCell']) rfl rfl rfl rfl ?_; intro w2 hz kz zz; replace E := Lib.hid (E.out.chg kz hb1); replace Y := Lib.hid (Y.out.chg kz hy1); replace C := Lib.hid (chg_new C.out kz (by omega)); replace X := Lib.hid hz; clear hz kz zz; have x0 := X.out.cell (i := 0) rfl))
  clear x0
  have HW := Lib.hid (show w.heap.size ≤ w1.heap.size from by omega)
  generalize w1.heap.size = g at *
  refine (one_to Z1.out Q1.out _ E.out (by omega)).mono ?_
  rintro e w3 ⟨rfl, hE, kc⟩
  replace X := Lib.hid (X.out.chg kc hb2)
  replace Y := Lib.hid (Y.out.chg kc hy2)
  replace C := Lib.hid (C.out.trans kc)
  replace E := Lib.hid hE
  clear hE kc
  have x1 := X.out.cell (i := 1) rfl
  have g1 := X.out.frozen 1 (by simp)
  go_wp2_with fail
  replace X := Lib.hid ((X.out.set 1 (.int .i64 n)).cast (cs' := [.int .i64 1, .int .i64 n, .int .i64 0, .int .i64 0, .int .i64 0, .int .i64 0, .int .i64 0, .string ⟨#[]⟩, .int .i64 0, .int .i64 0, .string ⟨#[]⟩, .slice none 0 0, .int .i64 0, .int .i64 0, .int .i64 0, .string ⟨#[]⟩, .int .i64 0, .int .i64 0, .int .i64 0]) rfl)
  replace Y := Lib.hid (Y.out.set_ne ⟨g, 1, none⟩ (.int .i64 n) (Ne.symm hy1))
  replace E := Lib.hid (E.out.set_ne ⟨g, 1, none⟩ (.int .i64 n) hb2)
  replace C := Lib.hid (chg_new C.out ((Chg.refl (One g) _).put 1 (.int .i64 n)) HW.out)
  clear x1 g1
  refine (one_to Z2.out Q2.out _ E.out (by omega)).mono ?_
  rintro e w4 ⟨rfl, hE, kc⟩
  replace X := Lib.hid (X.out.chg kc hb2)
  replace Y := Lib.hid (Y.out.chg kc hy2)
  replace C := Lib.hid (C.out.trans kc)
  replace E := Lib.hid hE
  clear hE kc
  have x2 := X.out.cell (i := 2) rfl
  have g2 := X.out.frozen 2 (by simp)
  have XF := Lib.hid ((X.out.set 2 (.int .i64 a)).cast (cs' := [.int .i64 1, .int .i64 n, .int .i64 a, .int .i64 0, .int .i64 0, .int .i64 0, .int .i64 0, .string ⟨#[]⟩, .int .i64 0, .int .i64 0, .string ⟨#[]⟩, .slice none 0 0, .int .i64 0, .int .i64 0, .int .i64 0, .string ⟨#[]⟩, .int .i64 0, .int .i64 0, .int .i64 0]) rfl)
  have YF := Lib.hid (Y.out.set_ne ⟨g, 2, none⟩ (.int .i64 a) (Ne.symm hy1))
  have EF := Lib.hid (E.out.set_ne ⟨g, 2, none⟩ (.int .i64 a) hb2)
  have CF := Lib.hid (chg_new C.out ((Chg.refl (One g) _).put 2 (.int .i64 a)) HW.out)
  go_wp2_with (first | (refine load_row XF.out 94 Try.underlying94 rfl (by kernel_rfl) rfl rfl rfl ?_) | (refine store_row YF.out [.int .i64 1, .int .i64 n, .int .i64 a, .int .i64 0, .int .i64 0, .int .i64 0, .int .i64 0, .string ⟨#[]⟩, .int .i64 0, .int .i64 0, .string ⟨#[]⟩, .slice none 0 0, .int .i64 0, .int .i64 0, .int .i64 0, .string ⟨#[]⟩, .int .i64 0, .int .i64 0, .int .i64 0] 94 (by kernel_rfl) rfl (by simp [Value.oneCell']) rfl rfl rfl rfl ?_; intro w90 hR kc hsz2))
  have E9 := Lib.hid (EF.out.chg kc (fun e => hy2 (show b = w.heap.size from e).symm))
  have C9 := Lib.hid (chg_new CF.out kc (Nat.le_refl _))
  have R9 := Lib.hid hR
  clear hR kc hsz2
  exact ret_row R9.out Try.results108 Try.underlying94 rfl (by kernel_rfl) rfl rfl ⟨mres_none rfl rfl rfl, E9.out, C9.out⟩
set_option maxHeartbeats 8000000 in
theorem emove_2 (b : Nat) (s : St) (w : World) (h : Eye w b s) (hs : s.1.length ≤ 9223372036854774000) (s0 : St) (z0 : ((eOne s).1 : Int) = 2) (q0 : (eOne s).2 = s0) (s1 : St) (n : Int) (z1 : ((eOne s0).1 : Int) = n) (q1 : (eOne s0).2 = s1) : MReads b s w ⟨2, n, 0, noW, 0, 0⟩ s1 := by
  have hlt := h.lt
  unfold MReads
  have Y := Lib.hid (Row.new w 94 [.int .i64 0, .int .i64 0, .int .i64 0, .int .i64 0, .int .i64 0, .int .i64 0, .int .i64 0, .string ⟨#[]⟩, .int .i64 0, .int .i64 0, .string ⟨#[]⟩, .slice none 0 0, .int .i64 0, .int .i64 0, .int .i64 0, .string ⟨#[]⟩, .int .i64 0, .int .i64 0, .int .i64 0])
  have E := Lib.hid (h.alloc (.cells #[.int .i64 0, .int .i64 0, .int .i64 0, .int .i64 0, .int .i64 0, .int .i64 0, .int .i64 0, .string ⟨#[]⟩, .int .i64 0, .int .i64 0, .string ⟨#[]⟩, .slice none 0 0, .int .i64 0, .int .i64 0, .int .i64 0, .string ⟨#[]⟩, .int .i64 0, .int .i64 0, .int .i64 0] 94))
  have C := Lib.hid ((Chg.refl (One b) w).alloc (.cells #[.int .i64 0, .int .i64 0, .int .i64 0, .int .i64 0, .int .i64 0, .int .i64 0, .int .i64 0, .string ⟨#[]⟩, .int .i64 0, .int .i64 0, .string ⟨#[]⟩, .slice none 0 0, .int .i64 0, .int .i64 0, .int .i64 0, .string ⟨#[]⟩, .int .i64 0, .int .i64 0, .int .i64 0] 94))
  have r0 := eOne_rest s
  rw [q0] at r0
  have Q0 := Lib.hid q0
  have Z0 := Lib.hid z0
  clear q0 z0 h
  have Z1 := Lib.hid z1
  have Q1 := Lib.hid q1
  clear z1 q1
  go_enter Try.func108, Try.ntmps108
  go_wp2_with fail
  refine (one_to Z0.out Q0.out _ E.out (by omega)).mono ?_
  rintro e w1 ⟨rfl, hE, kc⟩
  have hsz := Nat.le_trans C.out.size kc.size
  have hyl := (Y.out.chg kc (fun e => by have e : w.heap.size = b := e; omega)).lt
  replace Y := Lib.hid ((Y.out.chg kc (fun e => by have e : w.heap.size = b := e; omega)).alloc (.cells #[.int .i64 0, .int .i64 0, .int .i64 0, .int .i64 0, .int .i64 0, .int .i64 0, .int .i64 0, .string ⟨#[]⟩, .int .i64 0, .int .i64 0, .string ⟨#[]⟩, .slice none 0 0, .int .i64 0, .int .i64 0, .int .i64 0, .string ⟨#[]⟩, .int .i64 0, .int .i64 0, .int .i64 0] 94))
  replace C := Lib.hid ((C.out.trans kc).alloc (.cells #[.int .i64 0, .int .i64 0, .int .i64 0, .int .i64 0, .int .i64 0, .int .i64 0, .int .i64 0, .string ⟨#[]⟩, .int .i64 0, .int .i64 0, .string ⟨#[]⟩, .slice none 0 0, .int .i64 0, .int .i64 0, .int .i64 0, .string ⟨#[]⟩, .int .i64 0, .int .i64 0, .int .i64 0] 94))
  replace E := Lib.hid (hE.alloc (.cells #[.int .i64 0, .int .i64 0, .int .i64 0, .int .i64 0, .int .i64 0, .int .i64 0, .int .i64 0, .string ⟨#[]⟩, .int .i64 0, .int .i64 0, .string ⟨#[]⟩, .slice none 0 0, .int .i64 0, .int .i64 0, .int .i64 0, .string ⟨#[]⟩, .int .i64 0, .int .i64 0, .int .i64 0] 94))
  have X := Lib.hid (Row.new w1 94 [.int .i64 0, .int .i64 0, .int .i64 0, .int .i64 0, .int .i64 0, .int .i64 0, .int .i64 0, .string ⟨#[]⟩, .int .i64 0, .int .i64 0, .string ⟨#[]⟩, .slice none 0 0, .int .i64 0, .int .i64 0, .int .i64 0, .string ⟨#[]⟩, .int .i64 0, .int .i64 0, .int .i64 0])
  have hb1 : b ≠ w1.heap.size := by omega
  have hb2 : w1.heap.size ≠ b := by omega
  have hy1 : w.heap.size ≠ w1.heap.size := by omega
  have hy2 : w.heap.size ≠ b := by omega
  clear hE kc
  go_wp2_with (first | (refine store_row X.out [.int .i64 2, .int .i64 0, .int .i64 0, .int .i64 0, .int .i64 0, .int .i64 0, .int .i64 0, .string ⟨#[]⟩, .int .i64 0, .int .i64 0, .string ⟨#[]⟩, .slice none 0 0, .int .i64 0, .int .i64 0, .int .i64 0, .string ⟨#[]⟩, .int .i64 0, .int .i64 0, .int .i64 0] 94 (by kernel_rfl) rfl (by simp [Value.oneCell']) rfl rfl rfl rfl ?_; intro w2 hz kz zz; replace E := Lib.hid (E.out.chg kz hb1); replace Y := Lib.hid (Y.out.chg kz hy1); replace C := Lib.hid (chg_new C.out kz (by omega)); replace X := Lib.hid hz; clear hz kz zz; have x0 := X.out.cell (i := 0) rfl))
  clear x0
  have HW := Lib.hid (show w.heap.size ≤ w1.heap.size from by omega)
  generalize w1.heap.size = g at *
  refine (one_to Z1.out Q1.out _ E.out (by omega)).mono ?_
  rintro e w3 ⟨rfl, hE, kc⟩
  replace X := Lib.hid (X.out.chg kc hb2)
  replace Y := Lib.hid (Y.out.chg kc hy2)
  replace C := Lib.hid (C.out.trans kc)
  replace E := Lib.hid hE
  clear hE kc
  have x1 := X.out.cell (i := 1) rfl
  have g1 := X.out.frozen 1 (by simp)
  have XF := Lib.hid ((X.out.set 1 (.int .i64 n)).cast (cs' := [.int .i64 2, .int .i64 n, .int .i64 0, .int .i64 0, .int .i64 0, .int .i64 0, .int .i64 0, .string ⟨#[]⟩, .int .i64 0, .int .i64 0, .string ⟨#[]⟩, .slice none 0 0, .int .i64 0, .int .i64 0, .int .i64 0, .string ⟨#[]⟩, .int .i64 0, .int .i64 0, .int .i64 0]) rfl)
  have YF := Lib.hid (Y.out.set_ne ⟨g, 1, none⟩ (.int .i64 n) (Ne.symm hy1))
  have EF := Lib.hid (E.out.set_ne ⟨g, 1, none⟩ (.int .i64 n) hb2)
  have CF := Lib.hid (chg_new C.out ((Chg.refl (One g) _).put 1 (.int .i64 n)) HW.out)
  go_wp2_with (first | (refine load_row XF.out 94 Try.underlying94 rfl (by kernel_rfl) rfl rfl rfl ?_) | (refine store_row YF.out [.int .i64 2, .int .i64 n, .int .i64 0, .int .i64 0, .int .i64 0, .int .i64 0, .int .i64 0, .string ⟨#[]⟩, .int .i64 0, .int .i64 0, .string ⟨#[]⟩, .slice none 0 0, .int .i64 0, .int .i64 0, .int .i64 0, .string ⟨#[]⟩, .int .i64 0, .int .i64 0, .int .i64 0] 94 (by kernel_rfl) rfl (by simp [Value.oneCell']) rfl rfl rfl rfl ?_; intro w90 hR kc hsz2))
  have E9 := Lib.hid (EF.out.chg kc (fun e => hy2 (show b = w.heap.size from e).symm))
  have C9 := Lib.hid (chg_new CF.out kc (Nat.le_refl _))
  have R9 := Lib.hid hR
  clear hR kc hsz2
  exact ret_row R9.out Try.results108 Try.underlying94 rfl (by kernel_rfl) rfl rfl ⟨mres_none rfl rfl rfl, E9.out, C9.out⟩
set_option maxHeartbeats 8000000 in
theorem emove_3 (b : Nat) (s : St) (w : World) (h : Eye w b s) (hs : s.1.length ≤ 9223372036854774000) (s0 : St) (z0 : ((eOne s).1 : Int) = 3) (q0 : (eOne s).2 = s0) (s1 : St) (n : Int) (z1 : ((eOne s0).1 : Int) = n) (q1 : (eOne s0).2 = s1) : MReads b s w ⟨3, n, 0, noW, 0, 0⟩ s1 := by
  have hlt := h.lt
  unfold MReads
  have Y := Lib.hid (Row.new w 94 [.int .i64 0, .int .i64 0, .int .i64 0, .int .i64 0, .int .i64 0, .int .i64 0, .int .i64 0, .string ⟨#[]⟩, .int .i64 0, .int .i64 0, .string ⟨#[]⟩, .slice none 0 0, .int .i64 0, .int .i64 0, .int .i64 0, .string ⟨#[]⟩, .int .i64 0, .int .i64 0, .int .i64 0])
  have E := Lib.hid (h.alloc (.cells #[.int .i64 0, .int .i64 0, .int .i64 0, .int .i64 0, .int .i64 0, .int .i64 0, .int .i64 0, .string ⟨#[]⟩, .int .i64 0, .int .i64 0, .string ⟨#[]⟩, .slice none 0 0, .int .i64 0, .int .i64 0, .int .i64 0, .string ⟨#[]⟩, .int .i64 0, .int .i64 0, .int .i64 0] 94))
  have C := Lib.hid ((Chg.refl (One b) w).alloc (.cells #[.int .i64 0, .int .i64 0, .int .i64 0, .int .i64 0, .int .i64 0, .int .i64 0, .int .i64 0, .string ⟨#[]⟩, .int .i64 0, .int .i64 0, .string ⟨#[]⟩, .slice none 0 0, .int .i64 0, .int .i64 0, .int .i64 0, .string ⟨#[]⟩, .int .i64 0, .int .i64 0, .int .i64 0] 94))
  have r0 := eOne_rest s
  rw [q0] at r0
  have Q0 := Lib.hid q0
  have Z0 := Lib.hid z0
  clear q0 z0 h
  have Z1 := Lib.hid z1
  have Q1 := Lib.hid q1
  clear z1 q1
  go_enter Try.func108, Try.ntmps108
  go_wp2_with fail
  refine (one_to Z0.out Q0.out _ E.out (by omega)).mono ?_
  rintro e w1 ⟨rfl, hE, kc⟩
  have hsz := Nat.le_trans C.out.size kc.size
  have hyl := (Y.out.chg kc (fun e => by have e : w.heap.size = b := e; omega)).lt
  replace Y := Lib.hid ((Y.out.chg kc (fun e => by have e : w.heap.size = b := e; omega)).alloc (.cells #[.int .i64 0, .int .i64 0, .int .i64 0, .int .i64 0, .int .i64 0, .int .i64 0, .int .i64 0, .string ⟨#[]⟩, .int .i64 0, .int .i64 0, .string ⟨#[]⟩, .slice none 0 0, .int .i64 0, .int .i64 0, .int .i64 0, .string ⟨#[]⟩, .int .i64 0, .int .i64 0, .int .i64 0] 94))
  replace C := Lib.hid ((C.out.trans kc).alloc (.cells #[.int .i64 0, .int .i64 0, .int .i64 0, .int .i64 0, .int .i64 0, .int .i64 0, .int .i64 0, .string ⟨#[]⟩, .int .i64 0, .int .i64 0, .string ⟨#[]⟩, .slice none 0 0, .int .i64 0, .int .i64 0, .int .i64 0, .string ⟨#[]⟩, .int .i64 0, .int .i64 0, .int .i64 0] 94))
  replace E := Lib.hid (hE.alloc (.cells #[.int .i64 0, .int .i64 0, .int .i64 0, .int .i64 0, .int .i64 0, .int .i64 0, .int .i64 0, .string ⟨#[]⟩, .int .i64 0, .int .i64 0, .string ⟨#[]⟩, .slice none 0 0, .int .i64 0, .int .i64 0, .int .i64 0, .string ⟨#[]⟩, .int .i64 0, .int .i64 0, .int .i64 0] 94))
  have X := Lib.hid (Row.new w1 94 [.int .i64 0, .int .i64 0, .int .i64 0, .int .i64 0, .int .i64 0, .int .i64 0, .int .i64 0, .string ⟨#[]⟩, .int .i64 0, .int .i64 0, .string ⟨#[]⟩, .slice none 0 0, .int .i64 0, .int .i64 0, .int .i64 0, .string ⟨#[]⟩, .int .i64 0, .int .i64 0, .int .i64 0])
  have hb1 : b ≠ w1.heap.size := by omega
  have hb2 : w1.heap.size ≠ b := by omega
  have hy1 : w.heap.size ≠ w1.heap.size := by omega
  have hy2 : w.heap.size ≠ b := by omega
  clear hE kc
  go_wp2_with (first | (refine store_row X.out [.int .i64 3, .int .i64 0, .int .i64 0, .int .i64 0, .int .i64 0, .int .i64 0, .int .i64 0, .string ⟨#[]⟩, .int .i64 0, .int .i64 0, .string ⟨#[]⟩, .slice none 0 0, .int .i64 0, .int .i64 0, .int .i64 0, .string ⟨#[]⟩, .int .i64 0, .int .i64 0, .int .i64 0] 94 (by kernel_rfl) rfl (by simp [Value.oneCell']) rfl rfl rfl rfl ?_; intro w2 hz kz zz; replace E := Lib.hid (E.out.chg kz hb1); replace Y := Lib.hid (Y.out.chg kz hy1); replace C := Lib.hid (chg_new C.out kz (by omega)); replace X := Lib.hid hz; clear hz kz zz; have x0 := X.out.cell (i := 0) rfl))
  clear x0
  have HW := Lib.hid (show w.heap.size ≤ w1.heap.size from by omega)
  generalize w1.heap.size = g at *
  refine (one_to Z1.out Q1.out _ E.out (by omega)).mono ?_
  rintro e w3 ⟨rfl, hE, kc⟩
  replace X := Lib.hid (X.out.chg kc hb2)
  replace Y := Lib.hid (Y.out.chg kc hy2)
  replace C := Lib.hid (C.out.trans kc)
  replace E := Lib.hid hE
  clear hE kc
  have x1 := X.out.cell (i := 1) rfl
  have g1 := X.out.frozen 1 (by simp)
  have XF := Lib.hid ((X.out.set 1 (.int .i64 n)).cast (cs' := [.int .i64 3, .int .i64 n, .int .i64 0, .int .i64 0, .int .i64 0, .int .i64 0, .int .i64 0, .string ⟨#[]⟩, .int .i64 0, .int .i64 0, .string ⟨#[]⟩, .slice none 0 0, .int .i64 0, .int .i64 0, .int .i64 0, .string ⟨#[]⟩, .int .i64 0, .int .i64 0, .int .i64 0]) rfl)
  have YF := Lib.hid (Y.out.set_ne ⟨g, 1, none⟩ (.int .i64 n) (Ne.symm hy1))
  have EF := Lib.hid (E.out.set_ne ⟨g, 1, none⟩ (.int .i64 n) hb2)
  have CF := Lib.hid (chg_new C.out ((Chg.refl (One g) _).put 1 (.int .i64 n)) HW.out)
  go_wp2_with (first | (refine load_row XF.out 94 Try.underlying94 rfl (by kernel_rfl) rfl rfl rfl ?_) | (refine store_row YF.out [.int .i64 3, .int .i64 n, .int .i64 0, .int .i64 0, .int .i64 0, .int .i64 0, .int .i64 0, .string ⟨#[]⟩, .int .i64 0, .int .i64 0, .string ⟨#[]⟩, .slice none 0 0, .int .i64 0, .int .i64 0, .int .i64 0, .string ⟨#[]⟩, .int .i64 0, .int .i64 0, .int .i64 0] 94 (by kernel_rfl) rfl (by simp [Value.oneCell']) rfl rfl rfl rfl ?_; intro w90 hR kc hsz2))
  have E9 := Lib.hid (EF.out.chg kc (fun e => hy2 (show b = w.heap.size from e).symm))
  have C9 := Lib.hid (chg_new CF.out kc (Nat.le_refl _))
  have R9 := Lib.hid hR
  clear hR kc hsz2
  exact ret_row R9.out Try.results108 Try.underlying94 rfl (by kernel_rfl) rfl rfl ⟨mres_none rfl rfl rfl, E9.out, C9.out⟩
set_option maxHeartbeats 8000000 in
theorem emove_4 (b : Nat) (s : St) (w : World) (h : Eye w b s) (hs : s.1.length ≤ 9223372036854774000) (s0 : St) (z0 : ((eOne s).1 : Int) = 4) (q0 : (eOne s).2 = s0) (s1 : St) (n : Int) (z1 : ((eOne s0).1 : Int) = n) (q1 : (eOne s0).2 = s1) : MReads b s w ⟨4, n, 0, noW, 0, 0⟩ s1 := by
  have hlt := h.lt
  unfold MReads
  have Y := Lib.hid (Row.new w 94 [.int .i64 0, .int .i64 0, .int .i64 0, .int .i64 0, .int .i64 0, .int .i64 0, .int .i64 0, .string ⟨#[]⟩, .int .i64 0, .int .i64 0, .string ⟨#[]⟩, .slice none 0 0, .int .i64 0, .int .i64 0, .int .i64 0, .string ⟨#[]⟩, .int .i64 0, .int .i64 0, .int .i64 0])
  have E := Lib.hid (h.alloc (.cells #[.int .i64 0, .int .i64 0, .int .i64 0, .int .i64 0, .int .i64 0, .int .i64 0, .int .i64 0, .string ⟨#[]⟩, .int .i64 0, .int .i64 0, .string ⟨#[]⟩, .slice none 0 0, .int .i64 0, .int .i64 0, .int .i64 0, .string ⟨#[]⟩, .int .i64 0, .int .i64 0, .int .i64 0] 94))
  have C := Lib.hid ((Chg.refl (One b) w).alloc (.cells #[.int .i64 0, .int .i64 0, .int .i64 0, .int .i64 0, .int .i64 0, .int .i64 0, .int .i64 0, .string ⟨#[]⟩, .int .i64 0, .int .i64 0, .string ⟨#[]⟩, .slice none 0 0, .int .i64 0, .int .i64 0, .int .i64 0, .string ⟨#[]⟩, .int .i64 0, .int .i64 0, .int .i64 0] 94))
  have r0 := eOne_rest s
  rw [q0] at r0
  have Q0 := Lib.hid q0
  have Z0 := Lib.hid z0
  clear q0 z0 h
  have Z1 := Lib.hid z1
  have Q1 := Lib.hid q1
  clear z1 q1
  go_enter Try.func108, Try.ntmps108
  go_wp2_with fail
  refine (one_to Z0.out Q0.out _ E.out (by omega)).mono ?_
  rintro e w1 ⟨rfl, hE, kc⟩
  have hsz := Nat.le_trans C.out.size kc.size
  have hyl := (Y.out.chg kc (fun e => by have e : w.heap.size = b := e; omega)).lt
  replace Y := Lib.hid ((Y.out.chg kc (fun e => by have e : w.heap.size = b := e; omega)).alloc (.cells #[.int .i64 0, .int .i64 0, .int .i64 0, .int .i64 0, .int .i64 0, .int .i64 0, .int .i64 0, .string ⟨#[]⟩, .int .i64 0, .int .i64 0, .string ⟨#[]⟩, .slice none 0 0, .int .i64 0, .int .i64 0, .int .i64 0, .string ⟨#[]⟩, .int .i64 0, .int .i64 0, .int .i64 0] 94))
  replace C := Lib.hid ((C.out.trans kc).alloc (.cells #[.int .i64 0, .int .i64 0, .int .i64 0, .int .i64 0, .int .i64 0, .int .i64 0, .int .i64 0, .string ⟨#[]⟩, .int .i64 0, .int .i64 0, .string ⟨#[]⟩, .slice none 0 0, .int .i64 0, .int .i64 0, .int .i64 0, .string ⟨#[]⟩, .int .i64 0, .int .i64 0, .int .i64 0] 94))
  replace E := Lib.hid (hE.alloc (.cells #[.int .i64 0, .int .i64 0, .int .i64 0, .int .i64 0, .int .i64 0, .int .i64 0, .int .i64 0, .string ⟨#[]⟩, .int .i64 0, .int .i64 0, .string ⟨#[]⟩, .slice none 0 0, .int .i64 0, .int .i64 0, .int .i64 0, .string ⟨#[]⟩, .int .i64 0, .int .i64 0, .int .i64 0] 94))
  have X := Lib.hid (Row.new w1 94 [.int .i64 0, .int .i64 0, .int .i64 0, .int .i64 0, .int .i64 0, .int .i64 0, .int .i64 0, .string ⟨#[]⟩, .int .i64 0, .int .i64 0, .string ⟨#[]⟩, .slice none 0 0, .int .i64 0, .int .i64 0, .int .i64 0, .string ⟨#[]⟩, .int .i64 0, .int .i64 0, .int .i64 0])
  have hb1 : b ≠ w1.heap.size := by omega
  have hb2 : w1.heap.size ≠ b := by omega
  have hy1 : w.heap.size ≠ w1.heap.size := by omega
  have hy2 : w.heap.size ≠ b := by omega
  clear hE kc
  go_wp2_with (first | (refine store_row X.out [.int .i64 4, .int .i64 0, .int .i64 0, .int .i64 0, .int .i64 0, .int .i64 0, .int .i64 0, .string ⟨#[]⟩, .int .i64 0, .int .i64 0, .string ⟨#[]⟩, .slice none 0 0, .int .i64 0, .int .i64 0, .int .i64 0, .string ⟨#[]⟩, .int .i64 0, .int .i64 0, .int .i64 0] 94 (by kernel_rfl) rfl (by simp [Value.oneCell']) rfl rfl rfl rfl ?_; intro w2 hz kz zz; replace E := Lib.hid (E.out.chg kz hb1); replace Y := Lib.hid (Y.out.chg kz hy1); replace C := Lib.hid (chg_new C.out kz (by omega)); replace X := Lib.hid hz; clear hz kz zz; have x0 := X.out.cell (i := 0) rfl))
  clear x0
  have HW := Lib.hid (show w.heap.size ≤ w1.heap.size from by omega)
  generalize w1.heap.size = g at *
  refine (one_to Z1.out Q1.out _ E.out (by omega)).mono ?_
  rintro e w3 ⟨rfl, hE, kc⟩
  replace X := Lib.hid (X.out.chg kc hb2)
  replace Y := Lib.hid (Y.out.chg kc hy2)
  replace C := Lib.hid (C.out.trans kc)
  replace E := Lib.hid hE
  clear hE kc
  have x1 := X.out.cell (i := 1) rfl
  have g1 := X.out.frozen 1 (by simp)
  have XF := Lib.hid ((X.out.set 1 (.int .i64 n)).cast (cs' := [.int .i64 4, .int .i64 n, .int .i64 0, .int .i64 0, .int .i64 0, .int .i64 0, .int .i64 0, .string ⟨#[]⟩, .int .i64 0, .int .i64 0, .string ⟨#[]⟩, .slice none 0 0, .int .i64 0, .int .i64 0, .int .i64 0, .string ⟨#[]⟩, .int .i64 0, .int .i64 0, .int .i64 0]) rfl)
  have YF := Lib.hid (Y.out.set_ne ⟨g, 1, none⟩ (.int .i64 n) (Ne.symm hy1))
  have EF := Lib.hid (E.out.set_ne ⟨g, 1, none⟩ (.int .i64 n) hb2)
  have CF := Lib.hid (chg_new C.out ((Chg.refl (One g) _).put 1 (.int .i64 n)) HW.out)
  go_wp2_with (first | (refine load_row XF.out 94 Try.underlying94 rfl (by kernel_rfl) rfl rfl rfl ?_) | (refine store_row YF.out [.int .i64 4, .int .i64 n, .int .i64 0, .int .i64 0, .int .i64 0, .int .i64 0, .int .i64 0, .string ⟨#[]⟩, .int .i64 0, .int .i64 0, .string ⟨#[]⟩, .slice none 0 0, .int .i64 0, .int .i64 0, .int .i64 0, .string ⟨#[]⟩, .int .i64 0, .int .i64 0, .int .i64 0] 94 (by kernel_rfl) rfl (by simp [Value.oneCell']) rfl rfl rfl rfl ?_; intro w90 hR kc hsz2))
  have E9 := Lib.hid (EF.out.chg kc (fun e => hy2 (show b = w.heap.size from e).symm))
  have C9 := Lib.hid (chg_new CF.out kc (Nat.le_refl _))
  have R9 := Lib.hid hR
  clear hR kc hsz2
  exact ret_row R9.out Try.results108 Try.underlying94 rfl (by kernel_rfl) rfl rfl ⟨mres_none rfl rfl rfl, E9.out, C9.out⟩
set_option maxHeartbeats 8000000 in
theorem emove_8 (b : Nat) (s : St) (w : World) (h : Eye w b s) (hs : s.1.length ≤ 9223372036854774000) (s0 : St) (z0 : ((eOne s).1 : Int) = 8) (q0 : (eOne s).2 = s0) (s1 : St) (n : Int) (z1 : ((eOne s0).1 : Int) = n) (q1 : (eOne s0).2 = s1) : MReads b s w ⟨8, n, 0, noW, 0, 0⟩ s1 := by
  have hlt := h.lt
  unfold MReads
  have Y := Lib.hid (Row.new w 94 [.int .i64 0, .int .i64 0, .int .i64 0, .int .i64 0, .int .i64 0, .int .i64 0, .int .i64 0, .string ⟨#[]⟩, .int .i64 0, .int .i64 0, .string ⟨#[]⟩, .slice none 0 0, .int .i64 0, .int .i64 0, .int .i64 0, .string ⟨#[]⟩, .int .i64 0, .int .i64 0, .int .i64 0])
  have E := Lib.hid (h.alloc (.cells #[.int .i64 0, .int .i64 0, .int .i64 0, .int .i64 0, .int .i64 0, .int .i64 0, .int .i64 0, .string ⟨#[]⟩, .int .i64 0, .int .i64 0, .string ⟨#[]⟩, .slice none 0 0, .int .i64 0, .int .i64 0, .int .i64 0, .string ⟨#[]⟩, .int .i64 0, .int .i64 0, .int .i64 0] 94))
  have C := Lib.hid ((Chg.refl (One b) w).alloc (.cells #[.int .i64 0, .int .i64 0, .int .i64 0, .int .i64 0, .int .i64 0, .int .i64 0, .int .i64 0, .string ⟨#[]⟩, .int .i64 0, .int .i64 0, .string ⟨#[]⟩, .slice none 0 0, .int .i64 0, .int .i64 0, .int .i64 0, .string ⟨#[]⟩, .int .i64 0, .int .i64 0, .int .i64 0] 94))
  have r0 := eOne_rest s
  rw [q0] at r0
  have Q0 := Lib.hid q0
  have Z0 := Lib.hid z0
  clear q0 z0 h
  have Z1 := Lib.hid z1
  have Q1 := Lib.hid q1
  clear z1 q1
  go_enter Try.func108, Try.ntmps108
  go_wp2_with fail
  refine (one_to Z0.out Q0.out _ E.out (by omega)).mono ?_
  rintro e w1 ⟨rfl, hE, kc⟩
  have hsz := Nat.le_trans C.out.size kc.size
  have hyl := (Y.out.chg kc (fun e => by have e : w.heap.size = b := e; omega)).lt
  replace Y := Lib.hid ((Y.out.chg kc (fun e => by have e : w.heap.size = b := e; omega)).alloc (.cells #[.int .i64 0, .int .i64 0, .int .i64 0, .int .i64 0, .int .i64 0, .int .i64 0, .int .i64 0, .string ⟨#[]⟩, .int .i64 0, .int .i64 0, .string ⟨#[]⟩, .slice none 0 0, .int .i64 0, .int .i64 0, .int .i64 0, .string ⟨#[]⟩, .int .i64 0, .int .i64 0, .int .i64 0] 94))
  replace C := Lib.hid ((C.out.trans kc).alloc (.cells #[.int .i64 0, .int .i64 0, .int .i64 0, .int .i64 0, .int .i64 0, .int .i64 0, .int .i64 0, .string ⟨#[]⟩, .int .i64 0, .int .i64 0, .string ⟨#[]⟩, .slice none 0 0, .int .i64 0, .int .i64 0, .int .i64 0, .string ⟨#[]⟩, .int .i64 0, .int .i64 0, .int .i64 0] 94))
  replace E := Lib.hid (hE.alloc (.cells #[.int .i64 0, .int .i64 0, .int .i64 0, .int .i64 0, .int .i64 0, .int .i64 0, .int .i64 0, .string ⟨#[]⟩, .int .i64 0, .int .i64 0, .string ⟨#[]⟩, .slice none 0 0, .int .i64 0, .int .i64 0, .int .i64 0, .string ⟨#[]⟩, .int .i64 0, .int .i64 0, .int .i64 0] 94))
  have X := Lib.hid (Row.new w1 94 [.int .i64 0, .int .i64 0, .int .i64 0, .int .i64 0, .int .i64 0, .int .i64 0, .int .i64 0, .string ⟨#[]⟩, .int .i64 0, .int .i64 0, .string ⟨#[]⟩, .slice none 0 0, .int .i64 0, .int .i64 0, .int .i64 0, .string ⟨#[]⟩, .int .i64 0, .int .i64 0, .int .i64 0])
  have hb1 : b ≠ w1.heap.size := by omega
  have hb2 : w1.heap.size ≠ b := by omega
  have hy1 : w.heap.size ≠ w1.heap.size := by omega
  have hy2 : w.heap.size ≠ b := by omega
  clear hE kc
  go_wp2_with (first | (refine store_row X.out [.int .i64 8, .int .i64 0, .int .i64 0, .int .i64 0, .int .i64 0, .int .i64 0, .int .i64 0, .string ⟨#[]⟩, .int .i64 0, .int .i64 0, .string ⟨#[]⟩, .slice none 0 0, .int .i64 0, .int .i64 0, .int .i64 0, .string ⟨#[]⟩, .int .i64 0, .int .i64 0, .int .i64 0] 94 (by kernel_rfl) rfl (by simp [Value.oneCell']) rfl rfl rfl rfl ?_; intro w2 hz kz zz; replace E := Lib.hid (E.out.chg kz hb1); replace Y := Lib.hid (Y.out.chg kz hy1); replace C := Lib.hid (chg_new C.out kz (by omega)); replace X := Lib.hid hz; clear hz kz zz; have x0 := X.out.cell (i := 0) rfl))
  clear x0
  have HW := Lib.hid (show w.heap.size ≤ w1.heap.size from by omega)
  generalize w1.heap.size = g at *
  refine (one_to Z1.out Q1.out _ E.out (by omega)).mono ?_
  rintro e w3 ⟨rfl, hE, kc⟩
  replace X := Lib.hid (X.out.chg kc hb2)
  replace Y := Lib.hid (Y.out.chg kc hy2)
  replace C := Lib.hid (C.out.trans kc)
  replace E := Lib.hid hE
  clear hE kc
  have x1 := X.out.cell (i := 1) rfl
  have g1 := X.out.frozen 1 (by simp)
  have XF := Lib.hid ((X.out.set 1 (.int .i64 n)).cast (cs' := [.int .i64 8, .int .i64 n, .int .i64 0, .int .i64 0, .int .i64 0, .int .i64 0, .int .i64 0, .string ⟨#[]⟩, .int .i64 0, .int .i64 0, .string ⟨#[]⟩, .slice none 0 0, .int .i64 0, .int .i64 0, .int .i64 0, .string ⟨#[]⟩, .int .i64 0, .int .i64 0, .int .i64 0]) rfl)
  have YF := Lib.hid (Y.out.set_ne ⟨g, 1, none⟩ (.int .i64 n) (Ne.symm hy1))
  have EF := Lib.hid (E.out.set_ne ⟨g, 1, none⟩ (.int .i64 n) hb2)
  have CF := Lib.hid (chg_new C.out ((Chg.refl (One g) _).put 1 (.int .i64 n)) HW.out)
  go_wp2_with (first | (refine load_row XF.out 94 Try.underlying94 rfl (by kernel_rfl) rfl rfl rfl ?_) | (refine store_row YF.out [.int .i64 8, .int .i64 n, .int .i64 0, .int .i64 0, .int .i64 0, .int .i64 0, .int .i64 0, .string ⟨#[]⟩, .int .i64 0, .int .i64 0, .string ⟨#[]⟩, .slice none 0 0, .int .i64 0, .int .i64 0, .int .i64 0, .string ⟨#[]⟩, .int .i64 0, .int .i64 0, .int .i64 0] 94 (by kernel_rfl) rfl (by simp [Value.oneCell']) rfl rfl rfl rfl ?_; intro w90 hR kc hsz2))
  have E9 := Lib.hid (EF.out.chg kc (fun e => hy2 (show b = w.heap.size from e).symm))
  have C9 := Lib.hid (chg_new CF.out kc (Nat.le_refl _))
  have R9 := Lib.hid hR
  clear hR kc hsz2
  exact ret_row R9.out Try.results108 Try.underlying94 rfl (by kernel_rfl) rfl rfl ⟨mres_none rfl rfl rfl, E9.out, C9.out⟩
set_option maxHeartbeats 8000000 in
theorem emove_9 (b : Nat) (s : St) (w : World) (h : Eye w b s) (hs : s.1.length ≤ 9223372036854774000) (s0 : St) (z0 : ((eOne s).1 : Int) = 9) (q0 : (eOne s).2 = s0) (s1 s2 s3 : St) (n p q : Int) (z1 : ((eOne s0).1 : Int) = n) (q1 : (eOne s0).2 = s1) (q2 : eNum s1 8 = (p, s2)) (q3 : eNum s2 8 = (q, s3)) : MReads b s w ⟨9, n, 0, noW, p, q⟩ s3 := by
  have hlt := h.lt
  unfold MReads
  have Y := Lib.hid (Row.new w 94 [.int .i64 0, .int .i64 0, .int .i64 0, .int .i64 0, .int .i64 0, .int .i64 0, .int .i64 0, .string ⟨#[]⟩, .int .i64 0, .int .i64 0, .string ⟨#[]⟩, .slice none 0 0, .int .i64 0, .int .i64 0, .int .i64 0, .string ⟨#[]⟩, .int .i64 0, .int .i64 0, .int .i64 0])
  have E := Lib.hid (h.alloc (.cells #[.int .i64 0, .int .i64 0, .int .i64 0, .int .i64 0, .int .i64 0, .int .i64 0, .int .i64 0, .string ⟨#[]⟩, .int .i64 0, .int .i64 0, .string ⟨#[]⟩, .slice none 0 0, .int .i64 0, .int .i64 0, .int .i64 0, .string ⟨#[]⟩, .int .i64 0, .int .i64 0, .int .i64 0] 94))
  have C := Lib.hid ((Chg.refl (One b) w).alloc (.cells #[.int .i64 0, .int .i64 0, .int .i64 0, .int .i64 0, .int .i64 0, .int .i64 0, .int .i64 0, .string ⟨#[]⟩, .int .i64 0, .int .i64 0, .string ⟨#[]⟩, .slice none 0 0, .int .i64 0, .int .i64 0, .int .i64 0, .string ⟨#[]⟩, .int .i64 0, .int .i64 0, .int .i64 0] 94))
  have r0 := eOne_rest s
  rw [q0] at r0
  have Q0 := Lib.hid q0
  have Z0 := Lib.hid z0
  clear q0 z0 h
  have r1 := eOne_rest s0
  rw [q1] at r1
  have r2 := eNum_rest s1 8
  rw [q2] at r2
  simp only at r2
  have Z1 := Lib.hid z1
  have Q1 := Lib.hid q1
  have Q2 := Lib.hid q2
  have Q3 := Lib.hid q3
  clear z1 q1 q2 q3
  go_enter Try.func108, Try.ntmps108
  go_wp2_with fail
  refine (one_to Z0.out Q0.out _ E.out (by omega)).mono ?_
  rintro e w1 ⟨rfl, hE, kc⟩
  have hsz := Nat.le_trans C.out.size kc.size
  have hyl := (Y.out.chg kc (fun e => by have e : w.heap.size = b := e; omega)).lt
  replace Y := Lib.hid ((Y.out.chg kc (fun e => by have e : w.heap.size = b := e; omega)).alloc (.cells #[.int .i64 0, .int .i64 0, .int .i64 0, .int .i64 0, .int .i64 0, .int .i64 0, .int .i64 0, .string ⟨#[]⟩, .int .i64 0, .int .i64 0, .string ⟨#[]⟩, .slice none 0 0, .int .i64 0, .int .i64 0, .int .i64 0, .string ⟨#[]⟩, .int .i64 0, .int .i64 0, .int .i64 0] 94))
  replace C := Lib.hid ((C.out.trans kc).alloc (.cells #[.int .i64 0, .int .i64 0, .int .i64 0, .int .i64 0, .int .i64 0, .int .i64 0, .int .i64 0, .string ⟨#[]⟩, .int .i64 0, .int .i64 0, .string ⟨#[]⟩, .slice none 0 0, .int .i64 0, .int .i64 0, .int .i64 0, .string ⟨#[]⟩, .int .i64 0, .int .i64 0, .int .i64 0] 94))
  replace E := Lib.hid (hE.alloc (.cells #[.int .i64 0, .int .i64 0, .int .i64 0, .int .i64 0, .int .i64 0, .int .i64 0, .int .i64 0, .string ⟨#[]⟩, .int .i64 0, .int .i64 0, .string ⟨#[]⟩, .slice none 0 0, .int .i64 0, .int .i64 0, .int .i64 0, .string ⟨#[]⟩, .int .i64 0, .int .i64 0, .int .i64 0] 94))
  have X := Lib.hid (Row.new w1 94 [.int .i64 0, .int .i64 0, .int .i64 0, .int .i64 0, .int .i64 0, .int .i64 0, .int .i64 0, .string ⟨#[]⟩, .int .i64 0, .int .i64 0, .string ⟨#[]⟩, .slice none 0 0, .int .i64 0, .int .i64 0, .int .i64 0, .string ⟨#[]⟩, .int .i64 0, .int .i64 0, .int .i64 0])
  have hb1 : b ≠ w1.heap.size := by omega
  have hb2 : w1.heap.size ≠ b := by omega
  have hy1 : w.heap.size ≠ w1.heap.size := by omega
  have hy2 : w.heap.size ≠ b := by omega
  clear hE kc
  go_wp2_with (first | (refine store_row X.out [.int .i64 9, .int .i64 0, .int .i64 0, .int .i64 0, .int .i64 0, .int .i64 0, .int .i64 0, .string ⟨#[]⟩, .int .i64 0, .int .i64 0, .string ⟨#[]⟩, .slice none 0 0, .int .i64 0, .int .i64 0, .int .i64 0, .string ⟨#[]⟩, .int .i64 0, .int .i64 0, .int .i64 0] 94 (by kernel_rfl) rfl (by simp [Value.oneCell']) rfl rfl rfl rfl ?_; intro w2 hz kz zz; replace E := Lib.hid (E.out.chg kz hb1); replace Y := Lib.hid (Y.out.chg kz hy1); replace C := Lib.hid (chg_new C.out kz (by omega)); replace X := Lib.hid hz; clear hz kz zz; have x0 := X.out.cell (i := 0) rfl))
  clear x0
  have HW := Lib.hid (show w.heap.size ≤ w1.heap.size from by omega)
  generalize w1.heap.size = g at *
  refine (one_to Z1.out Q1.out _ E.out (by omega)).mono ?_
  rintro e w3 ⟨rfl, hE, kc⟩
  replace X := Lib.hid (X.out.chg kc hb2)
  replace Y := Lib.hid (Y.out.chg kc hy2)
  replace C := Lib.hid (C.out.trans kc)
  replace E := Lib.hid hE
  clear hE kc
  have x1 := X.out.cell (i := 1) rfl
  have g1 := X.out.frozen 1 (by simp)
  go_wp2_with fail
  replace X := Lib.hid ((X.out.set 1 (.int .i64 n)).cast (cs' := [.int .i64 9, .int .i64 n, .int .i64 0, .int .i64 0, .int .i64 0, .int .i64 0, .int .i64 0, .string ⟨#[]⟩, .int .i64 0, .int .i64 0, .string ⟨#[]⟩, .slice none 0 0, .int .i64 0, .int .i64 0, .int .i64 0, .string ⟨#[]⟩, .int .i64 0, .int .i64 0, .int .i64 0]) rfl)
  replace Y := Lib.hid (Y.out.set_ne ⟨g, 1, none⟩ (.int .i64 n) (Ne.symm hy1))
  replace E := Lib.hid (E.out.set_ne ⟨g, 1, none⟩ (.int .i64 n) hb2)
  replace C := Lib.hid (chg_new C.out ((Chg.refl (One g) _).put 1 (.int .i64 n)) HW.out)
  clear x1 g1
  refine (num_to Q2.out _ E.out (by omega)).mono ?_
  rintro e w4 ⟨rfl, hE, kc⟩
  replace X := Lib.hid (X.out.chg kc hb2)
  replace Y := Lib.hid (Y.out.chg kc hy2)
  replace C := Lib.hid (C.out.trans kc)
  replace E := Lib.hid hE
  clear hE kc
  have x17 := X.out.cell (i := 17) rfl
  have g17 := X.out.frozen 17 (by simp)
  go_wp2_with fail
  replace X := Lib.hid ((X.out.set 17 (.int .i64 p)).cast (cs' := [.int .i64 9, .int .i64 n, .int .i64 0, .int .i64 0, .int .i64 0, .int .i64 0, .int .i64 0, .string ⟨#[]⟩, .int .i64 0, .int .i64 0, .string ⟨#[]⟩, .slice none 0 0, .int .i64 0, .int .i64 0, .int .i64 0, .string ⟨#[]⟩, .int .i64 0, .int .i64 p, .int .i64 0]) rfl)
  replace Y := Lib.hid (Y.out.set_ne ⟨g, 17, none⟩ (.int .i64 p) (Ne.symm hy1))
  replace E := Lib.hid (E.out.set_ne ⟨g, 17, none⟩ (.int .i64 p) hb2)
  replace C := Lib.hid (chg_new C.out ((Chg.refl (One g) _).put 17 (.int .i64 p)) HW.out)
  clear x17 g17
  refine (num_to Q3.out _ E.out (by omega)).mono ?_
  rintro e w5 ⟨rfl, hE, kc⟩
  replace X := Lib.hid (X.out.chg kc hb2)
  replace Y := Lib.hid (Y.out.chg kc hy2)
  replace C := Lib.hid (C.out.trans kc)
  replace E := Lib.hid hE
  clear hE kc
  have x18 := X.out.cell (i := 18) rfl
  have g18 := X.out.frozen 18 (by simp)
  have XF := Lib.hid ((X.out.set 18 (.int .i64 q)).cast (cs' := [.int .i64 9, .int .i64 n, .int .i64 0, .int .i64 0, .int .i64 0, .int .i64 0, .int .i64 0, .string ⟨#[]⟩, .int .i64 0, .int .i64 0, .string ⟨#[]⟩, .slice none 0 0, .int .i64 0, .int .i64 0, .int .i64 0, .string ⟨#[]⟩, .int .i64 0, .int .i64 p, .int .i64 q]) rfl)
  have YF := Lib.hid (Y.out.set_ne ⟨g, 18, none⟩ (.int .i64 q) (Ne.symm hy1))
  have EF := Lib.hid (E.out.set_ne ⟨g, 18, none⟩ (.int .i64 q) hb2)
  have CF := Lib.hid (chg_new C.out ((Chg.refl (One g) _).put 18 (.int .i64 q)) HW.out)
  go_wp2_with (first | (refine load_row XF.out 94 Try.underlying94 rfl (by kernel_rfl) rfl rfl rfl ?_) | (refine store_row YF.out [.int .i64 9, .int .i64 n, .int .i64 0, .int .i64 0, .int .i64 0, .int .i64 0, .int .i64 0, .string ⟨#[]⟩, .int .i64 0, .int .i64 0, .string ⟨#[]⟩, .slice none 0 0, .int .i64 0, .int .i64 0, .int .i64 0, .string ⟨#[]⟩, .int .i64 0, .int .i64 p, .int .i64 q] 94 (by kernel_rfl) rfl (by simp [Value.oneCell']) rfl rfl rfl rfl ?_; intro w90 hR kc hsz2))
  have E9 := Lib.hid (EF.out.chg kc (fun e => hy2 (show b = w.heap.size from e).symm))
  have C9 := Lib.hid (chg_new CF.out kc (Nat.le_refl _))
  have R9 := Lib.hid hR
  clear hR kc hsz2
  exact ret_row R9.out Try.results108 Try.underlying94 rfl (by kernel_rfl) rfl rfl ⟨mres_none rfl rfl rfl, E9.out, C9.out⟩
set_option maxHeartbeats 8000000 in
theorem emove_other (b : Nat) (s : St) (w : World) (h : Eye w b s) (hs : s.1.length ≤ 9223372036854774000) (s0 : St) (k : Int) (d1 : ((k : Int) == 1) = false) (d2 : ((k : Int) == 2) = false) (d3 : ((k : Int) == 3) = false) (d4 : ((k : Int) == 4) = false) (d8 : ((k : Int) == 8) = false) (d9 : ((k : Int) == 9) = false) (z0 : ((eOne s).1 : Int) = k) (q0 : (eOne s).2 = s0) : MReads b s w (Mv.only k) s0 := by
  have hlt := h.lt
  unfold MReads
  have Y := Lib.hid (Row.new w 94 [.int .i64 0, .int .i64 0, .int .i64 0, .int .i64 0, .int .i64 0, .int .i64 0, .int .i64 0, .string ⟨#[]⟩, .int .i64 0, .int .i64 0, .string ⟨#[]⟩, .slice none 0 0, .int .i64 0, .int .i64 0, .int .i64 0, .string ⟨#[]⟩, .int .i64 0, .int .i64 0, .int .i64 0])
  have E := Lib.hid (h.alloc (.cells #[.int .i64 0, .int .i64 0, .int .i64 0, .int .i64 0, .int .i64 0, .int .i64 0, .int .i64 0, .string ⟨#[]⟩, .int .i64 0, .int .i64 0, .string ⟨#[]⟩, .slice none 0 0, .int .i64 0, .int .i64 0, .int .i64 0, .string ⟨#[]⟩, .int .i64 0, .int .i64 0, .int .i64 0] 94))
  have C := Lib.hid ((Chg.refl (One b) w).alloc (.cells #[.int .i64 0, .int .i64 0, .int .i64 0, .int .i64 0, .int .i64 0, .int .i64 0, .int .i64 0, .string ⟨#[]⟩, .int .i64 0, .int .i64 0, .string ⟨#[]⟩, .slice none 0 0, .int .i64 0, .int .i64 0, .int .i64 0, .string ⟨#[]⟩, .int .i64 0, .int .i64 0, .int .i64 0] 94))
  have r0 := eOne_rest s
  rw [q0] at r0
  have Q0 := Lib.hid q0
  have Z0 := Lib.hid z0
  clear q0 z0 h
  go_enter Try.func108, Try.ntmps108
  go_wp2_with fail
  refine (one_to Z0.out Q0.out _ E.out (by omega)).mono ?_
  rintro e w1 ⟨rfl, hE, kc⟩
  have hsz := Nat.le_trans C.out.size kc.size
  have hyl := (Y.out.chg kc (fun e => by have e : w.heap.size = b := e; omega)).lt
  replace Y := Lib.hid ((Y.out.chg kc (fun e => by have e : w.heap.size = b := e; omega)).alloc (.cells #[.int .i64 0, .int .i64 0, .int .i64 0, .int .i64 0, .int .i64 0, .int .i64 0, .int .i64 0, .string ⟨#[]⟩, .int .i64 0, .int .i64 0, .string ⟨#[]⟩, .slice none 0 0, .int .i64 0, .int .i64 0, .int .i64 0, .string ⟨#[]⟩, .int .i64 0, .int .i64 0, .int .i64 0] 94))
  replace C := Lib.hid ((C.out.trans kc).alloc (.cells #[.int .i64 0, .int .i64 0, .int .i64 0, .int .i64 0, .int .i64 0, .int .i64 0, .int .i64 0, .string ⟨#[]⟩, .int .i64 0, .int .i64 0, .string ⟨#[]⟩, .slice none 0 0, .int .i64 0, .int .i64 0, .int .i64 0, .string ⟨#[]⟩, .int .i64 0, .int .i64 0, .int .i64 0] 94))
  replace E := Lib.hid (hE.alloc (.cells #[.int .i64 0, .int .i64 0, .int .i64 0, .int .i64 0, .int .i64 0, .int .i64 0, .int .i64 0, .string ⟨#[]⟩, .int .i64 0, .int .i64 0, .string ⟨#[]⟩, .slice none 0 0, .int .i64 0, .int .i64 0, .int .i64 0, .string ⟨#[]⟩, .int .i64 0, .int .i64 0, .int .i64 0] 94))
  have X := Lib.hid (Row.new w1 94 [.int .i64 0, .int .i64 0, .int .i64 0, .int .i64 0, .int .i64 0, .int .i64 0, .int .i64 0, .string ⟨#[]⟩, .int .i64 0, .int .i64 0, .string ⟨#[]⟩, .slice none 0 0, .int .i64 0, .int .i64 0, .int .i64 0, .string ⟨#[]⟩, .int .i64 0, .int .i64 0, .int .i64 0])
  have hb1 : b ≠ w1.heap.size := by omega
  have hb2 : w1.heap.size ≠ b := by omega
  have hy1 : w.heap.size ≠ w1.heap.size := by omega
  have hy2 : w.heap.size ≠ b := by omega
  clear hE kc
  go_wp2_with (first | (refine store_row X.out [.int .i64 k, .int .i64 0, .int .i64 0, .int .i64 0, .int .i64 0, .int .i64 0, .int .i64 0, .string ⟨#[]⟩, .int .i64 0, .int .i64 0, .string ⟨#[]⟩, .slice none 0 0, .int .i64 0, .int .i64 0, .int .i64 0, .string ⟨#[]⟩, .int .i64 0, .int .i64 0, .int .i64 0] 94 (by kernel_rfl) rfl (by simp [Value.oneCell']) rfl rfl rfl rfl ?_; intro w2 hz kz zz; replace E := Lib.hid (E.out.chg kz hb1); replace Y := Lib.hid (Y.out.chg kz hy1); replace C := Lib.hid (chg_new C.out kz (by omega)); replace X := Lib.hid hz; clear hz kz zz; have x0 := X.out.cell (i := 0) rfl) | (refine load_row X.out 94 Try.underlying94 rfl (by kernel_rfl) rfl rfl rfl ?_) | (refine store_row Y.out [.int .i64 k, .int .i64 0, .int .i64 0, .int .i64 0, .int .i64 0, .int .i64 0, .int .i64 0, .string ⟨#[]⟩, .int .i64 0, .int .i64 0, .string ⟨#[]⟩, .slice none 0 0, .int .i64 0, .int .i64 0, .int .i64 0, .string ⟨#[]⟩, .int .i64 0, .int .i64 0, .int .i64 0] 94 (by kernel_rfl) rfl (by simp [Value.oneCell']) rfl rfl rfl rfl ?_; intro w90 hR kc hsz2))
  clear x0
  have HW := Lib.hid (show w.heap.size ≤ w1.heap.size from by omega)
  generalize w1.heap.size = g at *
  have E9 := Lib.hid (E.out.chg kc (fun e => hy2 (show b = w.heap.size from e).symm))
  have C9 := Lib.hid (chg_new C.out kc (Nat.le_refl _))
  have R9 := Lib.hid hR
  clear hR kc hsz2
  exact ret_row R9.out Try.results108 Try.underlying94 rfl (by kernel_rfl) rfl rfl ⟨mres_none rfl rfl rfl, E9.out, C9.out⟩
theorem move_reads (b : Nat) (s : St) (w : World) (h : Eye w b s) (hs : s.1.length ≤ 9223372036854774000) : MReads b s w (eMove s).1 (eMove s).2 := by
  obtain ⟨k, hk⟩ : ∃ k, (eOne s).1 = k := ⟨_, rfl⟩
  obtain ⟨s0, q0⟩ : ∃ x, (eOne s).2 = x := ⟨_, rfl⟩
  obtain ⟨n, z1⟩ : ∃ k : Nat, (eOne s0).1 = k := ⟨_, rfl⟩
  obtain ⟨s1, q1⟩ : ∃ x, (eOne s0).2 = x := ⟨_, rfl⟩
  obtain ⟨a, z2⟩ : ∃ k : Nat, (eOne s1).1 = k := ⟨_, rfl⟩
  obtain ⟨s2, q2⟩ : ∃ x, (eOne s1).2 = x := ⟨_, rfl⟩
  obtain ⟨⟨ws, s3⟩, q3⟩ : ∃ r, eWish s2 = r := ⟨_, rfl⟩
  obtain ⟨⟨p, s4⟩, q4⟩ : ∃ r, eNum s1 8 = r := ⟨_, rfl⟩
  obtain ⟨⟨q, s5⟩, q5⟩ : ∃ r, eNum s4 8 = r := ⟨_, rfl⟩
  have hw : eMove s = if k = 1 then (if a = 4 then (⟨1, n, 4, ws, 0, 0⟩, s3) else (⟨1, n, a, noW, 0, 0⟩, s2))
    else if k = 2 ∨ k = 3 ∨ k = 4 ∨ k = 8 then (⟨k, n, 0, noW, 0, 0⟩, s1)
    else if k = 9 then (⟨9, n, 0, noW, p, q⟩, s5)
    else (Mv.only k, s0) := by
    unfold eMove
    rw [hk, q0, z1, q1, z2, q2, q3, q4, q5]
  have zk : ((eOne s).1 : Int) = k := by rw [hk]
  have zn : ((eOne s0).1 : Int) = n := by rw [z1]
  have za : ((eOne s1).1 : Int) = a := by rw [z2]
  rw [hw]
  clear hw
  by_cases c1 : k = 1
  · subst c1
    rw [if_pos rfl]
    by_cases c4 : a = 4
    · subst c4
      exact emove_14 b s w h hs _ zk q0 _ _ _ _ _ zn q1 za q2 q3
    · rw [if_neg c4]
      exact emove_1 b s w h hs _ zk q0 _ _ _ _ (by simp; omega) zn q1 za q2
  by_cases c2 : k = 2
  · subst c2
    exact emove_2 b s w h hs _ zk q0 _ _ zn q1
  by_cases c3 : k = 3
  · subst c3
    exact emove_3 b s w h hs _ zk q0 _ _ zn q1
  by_cases c4 : k = 4
  · subst c4
    exact emove_4 b s w h hs _ zk q0 _ _ zn q1
  by_cases c8 : k = 8
  · subst c8
    exact emove_8 b s w h hs _ zk q0 _ _ zn q1
  by_cases c9 : k = 9
  · subst c9
    exact emove_9 b s w h hs _ zk q0 _ _ _ _ _ _ zn q1 q4 q5
  rw [if_neg c1, if_neg (by omega), if_neg c9]
  exact emove_other b s w h hs _ k (by simp; omega) (by simp; omega) (by simp; omega) (by simp; omega) (by simp; omega) (by simp; omega) zk q0
end Go.Proofs.Ytcfjooeagfollaa.Bill
