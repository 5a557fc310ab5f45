/- bill.eye.wish. Printed by bill_eye.py -/
import Derived.Test.YtcfjooeagfollaaBillE
import Derived.Test.YtcfjooeagfollaaRegApp
import Derived.Test.YtcfjooeagfollaaSignRR
namespace Go.Proofs.Ytcfjooeagfollaa.Bill
open Go.RowKit Go.Proofs.Ytcfjooeagfollaa.Mem Go.Proofs.Ytcfjooeagfollaa.Bytes Go.Proofs.Ytcfjooeagfollaa.Num Go.Proofs.Ytcfjooeagfollaa.Sign
set_option linter.unusedSimpArgs false
set_option linter.unusedVariables false
set_option maxRecDepth 20000

def eVals : Nat → St → List V × St
  | 0, s => ([], s)
  | n + 1, s => if s.2 then ([], s) else ((eVal s).1 :: (eVals n (eVal s).2).1, (eVals n (eVal s).2).2)
def eWish (s : St) : Wsh × St :=
  if (eOne s).1 = 1 then (⟨1, (eOne (eOne s).2).1, noV, noV, none, 0, (eVals (eOne (eOne (eOne s).2).2).1 (eOne (eOne (eOne s).2).2).2).1, 0, noV, 0⟩, (eVals (eOne (eOne (eOne s).2).2).1 (eOne (eOne (eOne s).2).2).2).2)
  else if (eOne s).1 = 2 ∨ (eOne s).1 = 4 ∨ (eOne s).1 = 6 then (⟨(eOne s).1, (eOne (eOne s).2).1, (eVal (eOne (eOne s).2).2).1, noV, none, 0, [], 0, noV, 0⟩, (eVal (eOne (eOne s).2).2).2)
  else if (eOne s).1 = 3 then (⟨3, (eOne (eOne s).2).1, (eVal (eOne (eOne s).2).2).1, noV, none, 0, [], (eOne (eVal (eOne (eOne s).2).2).2).1, (eVal (eOne (eVal (eOne (eOne s).2).2).2).2).1, 0⟩, (eVal (eOne (eVal (eOne (eOne s).2).2).2).2).2)
  else if (eOne s).1 = 5 ∨ (eOne s).1 = 7 then (⟨(eOne s).1, (eOne (eOne s).2).1, (eVal (eOne (eOne s).2).2).1, (eVal (eVal (eOne (eOne s).2).2).2).1, none, 0, [], 0, noV, 0⟩, (eVal (eVal (eOne (eOne s).2).2).2).2)
  else if (eOne s).1 = 9 ∨ (eOne s).1 = 10 then (⟨(eOne s).1, (eOne (eOne s).2).1, noV, noV, none, 0, [], 0, noV, (eOne (eOne (eOne s).2).2).1⟩, (eOne (eOne (eOne s).2).2).2)
  else (Wsh.only (eOne s).1 (eOne (eOne s).2).1, (eOne (eOne s).2).2)
theorem eOne_rest (s : St) : (eOne s).2.1.length ≤ s.1.length := eTake_rest s 1
theorem one_to {b : Nat} {s s' : St} {z : Int} (hz : ((eOne s).1 : Int) = z) (q : (eOne s).2 = s') (w : World) (h : Eye w b s) (hs : s.1.length ≤ 9223372036854775000) :
    Calls Try.prog 155 #[.pointer (some ⟨b, 0, none⟩)] w fun e w' => e = .returned (.int .i64 z) ∧ Eye w' b s' ∧ Chg (One b) w w' := by
  rw [← hz, ← q]
  exact one_reads b s w h (by omega)
theorem value_to {b : Nat} {s s' : St} {k n : Int} {t : ByteArray} (q : eVal s = (⟨k, n, t⟩, s')) (w : World) (h : Eye w b s) (hs : s.1.length ≤ 9223372036854775000) :
    Calls Try.prog 176 #[.pointer (some ⟨b, 0, none⟩)] w fun e w' => e = .returned (.agg #[.int .i64 k, .int .i64 n, .string t]) ∧ Eye w' b s' ∧ Chg (One b) w w' := by
  have h1 := value_reads b s w h hs
  rw [q] at h1
  exact h1
def WRes (B : Nat) (x : Wsh) (e : Ending) (w' : World) : Prop := ∃ a c, e = .returned (.agg (Wsh.cells ⟨x.k, x.t, x.key, x.high, a, c, x.row, x.c, x.val, x.n⟩).toArray) ∧ Vs w' a x.row ∧ ∀ ad, a = some ad → x.row ≠ [] → B ≤ ad.block
def WReads (b : Nat) (s : St) (w : World) (x : Wsh) (s' : St) : Prop := Calls Try.prog 156 #[.pointer (some ⟨b, 0, none⟩)] w fun e w' => WRes w.heap.size x e w' ∧ Eye w' b s' ∧ Chg (One b) w w'
theorem wres_none {B : Nat} {x : Wsh} {w' : World} (h1 : x.ra = none) (h2 : x.rc = 0) (h3 : x.row = []) : WRes B x (.returned (.agg x.cells.toArray)) w' := by
  obtain ⟨k, t, key, high, ra, rc, row, c, val, n⟩ := x
  simp only at h1 h2 h3
  subst h1 h2 h3
  exact ⟨none, 0, rfl, Vs.nil _ _, fun ad e => by cases e⟩
theorem chg_new {b B : Nat} {w w1 w2 : World} (h : Chg (One b) w w1) (k : Chg (One B) w1 w2) (hB : w.heap.size ≤ B) : Chg (One b) w w2 := h.next k (fun j hj e => by have e : j = B := e; omega)

set_option maxHeartbeats 8000000 in
theorem eye_1 (b : Nat) (s : St) (w : World) (h : Eye w b s) (hs : s.1.length ≤ 9223372036854774000) (s0 s1 : St) (t : Int) (z0 : ((eOne s).1 : Int) = 1) (q0 : (eOne s).2 = s0) (z1 : ((eOne s0).1 : Int) = t) (q1 : (eOne s0).2 = s1) (s3 : St) (n : Nat) (z3 : (eOne s1).1 = n) (q3 : (eOne s1).2 = s3) (R : List V × St) (hR : eVals n s3 = R) : WReads b s w ⟨1, t, noV, noV, none, 0, R.1, 0, noV, 0⟩ R.2 := by
  have hlt := h.lt
  unfold WReads
  have Y := Lib.hid (Row.new w 90 [.int .i64 0, .int .i64 0, .int .i64 0, .int .i64 0, .string ⟨#[]⟩, .int .i64 0, .int .i64 0, .string ⟨#[]⟩, .slice none 0 0, .int .i64 0, .int .i64 0, .int .i64 0, .string ⟨#[]⟩, .int .i64 0])
  have E := Lib.hid (h.alloc (.cells #[.int .i64 0, .int .i64 0, .int .i64 0, .int .i64 0, .string ⟨#[]⟩, .int .i64 0, .int .i64 0, .string ⟨#[]⟩, .slice none 0 0, .int .i64 0, .int .i64 0, .int .i64 0, .string ⟨#[]⟩, .int .i64 0] 90))
  have C := Lib.hid ((Chg.refl (One b) w).alloc (.cells #[.int .i64 0, .int .i64 0, .int .i64 0, .int .i64 0, .string ⟨#[]⟩, .int .i64 0, .int .i64 0, .string ⟨#[]⟩, .slice none 0 0, .int .i64 0, .int .i64 0, .int .i64 0, .string ⟨#[]⟩, .int .i64 0] 90))
  have r0 := eOne_rest s
  rw [q0] at r0
  have r1 := eOne_rest s0
  rw [q1] at r1
  have Z1 := Lib.hid z1
  have Q1 := Lib.hid q1
  have Q0 := Lib.hid q0
  have Z0 := Lib.hid z0
  clear q0 q1 z0 z1 h
  go_enter Try.func156, Try.ntmps156
  go_wp2_with fail
  refine (one_to Z0.out Q0.out _ E.out (by omega)).mono ?_
  rintro e w1 ⟨rfl, hE, kc⟩
  have hsz := Nat.le_trans C.out.size kc.size
  have hyl := (Y.out.chg kc (fun e => by have e : w.heap.size = b := e; omega)).lt
  replace Y := Lib.hid ((Y.out.chg kc (fun e => by have e : w.heap.size = b := e; omega)).alloc (.cells #[.int .i64 0, .int .i64 0, .int .i64 0, .int .i64 0, .string ⟨#[]⟩, .int .i64 0, .int .i64 0, .string ⟨#[]⟩, .slice none 0 0, .int .i64 0, .int .i64 0, .int .i64 0, .string ⟨#[]⟩, .int .i64 0] 90))
  replace C := Lib.hid ((C.out.trans kc).alloc (.cells #[.int .i64 0, .int .i64 0, .int .i64 0, .int .i64 0, .string ⟨#[]⟩, .int .i64 0, .int .i64 0, .string ⟨#[]⟩, .slice none 0 0, .int .i64 0, .int .i64 0, .int .i64 0, .string ⟨#[]⟩, .int .i64 0] 90))
  replace E := Lib.hid (hE.alloc (.cells #[.int .i64 0, .int .i64 0, .int .i64 0, .int .i64 0, .string ⟨#[]⟩, .int .i64 0, .int .i64 0, .string ⟨#[]⟩, .slice none 0 0, .int .i64 0, .int .i64 0, .int .i64 0, .string ⟨#[]⟩, .int .i64 0] 90))
  have X := Lib.hid (Row.new w1 90 [.int .i64 0, .int .i64 0, .int .i64 0, .int .i64 0, .string ⟨#[]⟩, .int .i64 0, .int .i64 0, .string ⟨#[]⟩, .slice none 0 0, .int .i64 0, .int .i64 0, .int .i64 0, .string ⟨#[]⟩, .int .i64 0])
  have hb1 : b ≠ w1.heap.size := by omega
  have hb2 : w1.heap.size ≠ b := by omega
  have hy1 : w.heap.size ≠ w1.heap.size := by omega
  have hy2 : w.heap.size ≠ b := by omega
  clear hE kc
  go_wp2_with (refine store_row X.out [.int .i64 1, .int .i64 0, .int .i64 0, .int .i64 0, .string ⟨#[]⟩, .int .i64 0, .int .i64 0, .string ⟨#[]⟩, .slice none 0 0, .int .i64 0, .int .i64 0, .int .i64 0, .string ⟨#[]⟩, .int .i64 0] 90 (by kernel_rfl) rfl (by simp [Value.oneCell']) rfl rfl rfl rfl ?_; intro w2 hz kz zz; replace E := Lib.hid (E.out.chg kz hb1); replace Y := Lib.hid (Y.out.chg kz hy1); replace C := Lib.hid (chg_new C.out kz (by omega)); replace X := Lib.hid hz; clear hz kz zz)
  have HW := Lib.hid (show w.heap.size ≤ w1.heap.size from by omega)
  generalize w1.heap.size = g at *
  refine (one_to Z1.out Q1.out _ E.out (by omega)).mono ?_
  rintro e w3 ⟨rfl, hE, kc⟩
  replace X := Lib.hid (X.out.chg kc hb2)
  replace Y := Lib.hid (Y.out.chg kc hy2)
  replace C := Lib.hid (C.out.trans kc)
  replace E := Lib.hid hE
  clear hE kc
  have r3 := eOne_rest s1
  rw [q3] at r3
  have hn : n < 256 := by rw [← z3]; exact eOne_lt s1
  have Q3 := Lib.hid q3
  have Z3 := Lib.hid (show ((eOne s1).1 : Int) = (n : Int) by rw [z3])
  clear q3 z3
  have HR := Lib.hid hR
  clear hR
  have x1 := X.out.cell (i := 1) rfl
  have g1 := X.out.frozen 1 (by simp)
  have x0 := X.out.cell (i := 0) rfl
  go_wp2_with fail
  replace X := Lib.hid ((X.out.set 1 (.int .i64 t)).cast (cs' := [.int .i64 1, .int .i64 t, .int .i64 0, .int .i64 0, .string ⟨#[]⟩, .int .i64 0, .int .i64 0, .string ⟨#[]⟩, .slice none 0 0, .int .i64 0, .int .i64 0, .int .i64 0, .string ⟨#[]⟩, .int .i64 0]) rfl)
  replace Y := Lib.hid (Y.out.set_ne ⟨g, 1, none⟩ (.int .i64 t) (Ne.symm hy1))
  replace E := Lib.hid (E.out.set_ne ⟨g, 1, none⟩ (.int .i64 t) hb2)
  replace C := Lib.hid (chg_new C.out ((Chg.refl (One g) _).put 1 (.int .i64 t)) HW.out)
  clear x1 g1 x0
  refine (one_to Z3.out Q3.out _ E.out (by omega)).mono ?_
  rintro e w4 ⟨rfl, hE, kc⟩
  replace X := Lib.hid (X.out.chg kc hb2)
  replace Y := Lib.hid (Y.out.chg kc hy2)
  replace C := Lib.hid (C.out.trans kc)
  replace E := Lib.hid hE
  clear hE kc
  go_wp2_with fail
  have hgs := X.out.lt
  go_loopw [4] (fun i wr => ∃ (m : Nat) (vs : List V) (sr : St) (p : Value), m + vs.length = n ∧ i = .int .i64 (m : Int) ∧ Eye wr b sr ∧ sr.1.length ≤ s.1.length ∧ Row wr g 90 [.int .i64 1, .int .i64 t, .int .i64 0, .int .i64 0, .string ⟨#[]⟩, .int .i64 0, .int .i64 0, .string ⟨#[]⟩, p, .int .i64 0, .int .i64 0, .int .i64 0, .string ⟨#[]⟩, .int .i64 0] ∧ wr.ownsRow (g + 1) 81 3 p vs.length (vs.flatMap V.cells) ∧ Row wr w.heap.size 90 [.int .i64 0, .int .i64 0, .int .i64 0, .int .i64 0, .string ⟨#[]⟩, .int .i64 0, .int .i64 0, .string ⟨#[]⟩, .slice none 0 0, .int .i64 0, .int .i64 0, .int .i64 0, .string ⟨#[]⟩, .int .i64 0] ∧ Chg (One b) w wr ∧ R = (vs ++ (eVals m sr).1, (eVals m sr).2)) (fun i _ => (intOf i).toNat)
  case atStart => exact ⟨n, [], s3, .slice none 0 0, rfl, rfl, E.out, by omega, X.out, World.ownsRow_nil _ _ _ _, Y.out, C.out, HR.out.symm⟩
  case round =>
    clear X Y E C HR hgs
    obtain ⟨m, vs, sr, p, hmn, rfl, hE, hsr, hX, hO, hY, hC, hI⟩ := hrel
    have X := Lib.hid hX
    have Y := Lib.hid hY
    have E := Lib.hid hE
    have C := Lib.hid hC
    have O := Lib.hid hO
    have I := Lib.hid hI
    clear hX hY hE hC hO hI
    obtain ⟨l, bad⟩ := sr
    simp only at hsr
    have e1 := E.out.cell (i := 1) rfl
    by_cases hm : m = 0 ∨ bad = true
    · have hI2 : R = (vs, (l, bad)) := by
        rw [I.out]
        rcases hm with rfl | rfl
        · simp [eVals]
        · cases m <;> simp [eVals]
      obtain ⟨ra, rc, rfl, hV⟩ := vs_own O.out rfl
      have VV := Lib.hid hV
      have I2 := Lib.hid hI2
      have OO := Lib.hid O.out
      clear hI2 hV I
      by_cases hm0 : m = 0
      · subst hm0
        have d0 : decide ((0 : Int) < ((0 : Nat) : Int)) = false := by simp
        clear hm
        go_wp2_with (first | (refine load_row X.out 90 Try.underlying90 rfl (by kernel_rfl) rfl rfl rfl ?_) | (refine store_row Y.out [.int .i64 1, .int .i64 t, .int .i64 0, .int .i64 0, .string ⟨#[]⟩, .int .i64 0, .int .i64 0, .string ⟨#[]⟩, .slice ra vs.length rc, .int .i64 0, .int .i64 0, .int .i64 0, .string ⟨#[]⟩, .int .i64 0] 90 (by kernel_rfl) rfl (by simp [Value.oneCell']) rfl rfl rfl rfl ?_; intro w90 hR kc hsz2))
        have E9 := Lib.hid (E.out.chg kc (fun e => hy2 (show b = w.heap.size from e).symm))
        have C9 := Lib.hid (chg_new C.out kc (Nat.le_refl _))
        have V9 := Lib.hid (vs_own (Reel.own_chg OO.out kc (fun k hk e => by have a := (OO.out.lt k hk).1; have e : k = w.heap.size := e; have := HW.out; omega)) rfl)
        have R9 := Lib.hid hR
        clear hR kc hsz2
        refine ret_row R9.out Try.results156 Try.underlying90 rfl (by kernel_rfl) rfl rfl ⟨?_, ?_, C9.out⟩
        · rw [I2.out]
          obtain ⟨ra2, rc2, e, hv⟩ := V9.out
          cases e
          exact ⟨_, _, rfl, hv, fun ad e _ => by subst e; have := (OO.out.lt ad.block rfl).1; have := HW.out; omega⟩
        · rw [I2.out]
          exact E9.out
      · obtain rfl : bad = true := hm.resolve_left hm0
        clear hm
        have d0 : decide ((0 : Int) < (m : Int)) = true := by simp; omega
        go_wp2_with (first | (refine load_row X.out 90 Try.underlying90 rfl (by kernel_rfl) rfl rfl rfl ?_) | (refine store_row Y.out [.int .i64 1, .int .i64 t, .int .i64 0, .int .i64 0, .string ⟨#[]⟩, .int .i64 0, .int .i64 0, .string ⟨#[]⟩, .slice ra vs.length rc, .int .i64 0, .int .i64 0, .int .i64 0, .string ⟨#[]⟩, .int .i64 0] 90 (by kernel_rfl) rfl (by simp [Value.oneCell']) rfl rfl rfl rfl ?_; intro w90 hR kc hsz2))
        have E9 := Lib.hid (E.out.chg kc (fun e => hy2 (show b = w.heap.size from e).symm))
        have C9 := Lib.hid (chg_new C.out kc (Nat.le_refl _))
        have V9 := Lib.hid (vs_own (Reel.own_chg OO.out kc (fun k hk e => by have a := (OO.out.lt k hk).1; have e : k = w.heap.size := e; have := HW.out; omega)) rfl)
        have R9 := Lib.hid hR
        clear hR kc hsz2
        refine ret_row R9.out Try.results156 Try.underlying90 rfl (by kernel_rfl) rfl rfl ⟨?_, ?_, C9.out⟩
        · rw [I2.out]
          obtain ⟨ra2, rc2, e, hv⟩ := V9.out
          cases e
          exact ⟨_, _, rfl, hv, fun ad e _ => by subst e; have := (OO.out.lt ad.block rfl).1; have := HW.out; omega⟩
        · rw [I2.out]
          exact E9.out
    · obtain rfl : bad = false := by cases bad <;> simp_all
      have hm1 : 1 ≤ m := by omega
      clear hm
      obtain ⟨m, rfl⟩ : ∃ j, m = j + 1 := ⟨m - 1, by omega⟩
      have d0 : decide ((0 : Int) < ((m + 1 : Nat) : Int)) = true := decide_eq_true (by omega)
      obtain ⟨⟨⟨v1, v2, v3⟩, s5⟩, hev⟩ : ∃ r, eVal (l, false) = r := ⟨_, rfl⟩
      have hI2 : R = ((vs ++ [⟨v1, v2, v3⟩]) ++ (eVals m s5).1, (eVals m s5).2) := by
        rw [I.out]
        simp [eVals, hev]
      have r5 := eVal_rest (l, false)
      rw [hev] at r5
      simp only at r5
      have I2 := Lib.hid hI2
      have EV := Lib.hid hev
      clear hI2 hev I
      have LO := Lib.hid (Nat.le_of_lt X.out.lt)
      go_wp2_with fail
      clear e1
      replace X := Lib.hid X.out.drew
      replace Y := Lib.hid Y.out.drew
      replace E := Lib.hid E.out.drew
      replace C := Lib.hid C.out.drew
      replace O := Lib.hid (show wr.drew.ownsRow _ _ _ _ _ _ from O.out)
      refine Reg.start (fun w' => w'.cell? ⟨g, 8, none⟩ = some p) (fun i => i == 7) (by kernel_rfl) (X.out.cell rfl) (fun hHeld => ?_)
      generalize wr.drew = wd at *
      refine Reg.takeI 0 (v := ?_) rfl (by kernel_rfl) (by kernel_rfl) (by kernel_rfl) (by kernel_rfl) (fun _ _ _ h => h) (by rfl) ?_ hHeld ?_
      rotate_left 1
      · (intro w hSw; (try dsimp only at hSw); go_simp; try with_reducible rfl)
      try simp only [Act.put, List.setIfInBounds_toArray, List.set_cons_zero, List.set_cons_succ]
      refine Reg.takeI 1 (v := ?_) rfl (by kernel_rfl) (by kernel_rfl) (by kernel_rfl) (by kernel_rfl) (fun _ _ _ h => h) (by rfl) ?_ hHeld ?_
      rotate_left 1
      · (intro w hSw; (try dsimp only at hSw); go_simp; try with_reducible rfl)
      try simp only [Act.put, List.setIfInBounds_toArray, List.set_cons_zero, List.set_cons_succ]
      refine Reg.takeI 2 (v := ?_) rfl (by kernel_rfl) (by kernel_rfl) (by kernel_rfl) (by kernel_rfl) (fun _ _ _ h => h) (by rfl) ?_ hHeld ?_
      rotate_left 1
      · (intro w hSw; (try dsimp only at hSw); go_simp; try with_reducible rfl)
      try simp only [Act.put, List.setIfInBounds_toArray, List.set_cons_zero, List.set_cons_succ]
      refine Reg.oneI 3 rfl (by kernel_rfl) (by rfl) (fun K hK => ?_)
      go_simp
      go_at_call 176
      refine (value_to EV.out _ E.out (show l.length ≤ 9223372036854775000 from by omega)).mono ?_
      rintro e w6 ⟨rfl, hE, kc⟩
      replace X := Lib.hid (X.out.chg kc hb2)
      replace Y := Lib.hid (Y.out.chg kc hy2)
      replace O := Lib.hid (Reel.own_chg O.out kc (fun k hk e => by have a := (O.out.lt k hk).1; have e : k = b := e; have := HW.out; omega))
      replace C := Lib.hid (C.out.trans kc)
      replace E := Lib.hid hE
      clear hE kc
      go_wp2_with fail
      refine hK.out _ _ (fun _ => (X.out.cell rfl)) (fun hHeld => ?_)
      replace hHeld := hHeld (by first | rfl | trivial)
      clear hK K
      try simp only [Act.put, List.setIfInBounds_toArray, List.set_cons_zero, List.set_cons_succ]
      refine Reg.oneI 4 rfl (by kernel_rfl) (by rfl) (fun K hK => ?_)
      go_simp
      have X2 := Lib.hid X.out
      have Y2 := Lib.hid Y.out
      have E2 := Lib.hid E.out
      have C2 := Lib.hid C.out
      replace X := Lib.hid (X.out.alloc (.cells #[.int .i64 v1, .int .i64 v2, .string v3] 81))
      refine hK.out _ _ (fun _ => (X.out.cell rfl)) (fun hHeld => ?_)
      replace hHeld := hHeld (by first | rfl | trivial)
      clear hK K
      try simp only [Act.put, List.setIfInBounds_toArray, List.set_cons_zero, List.set_cons_succ]
      refine Reg.oneI 5 rfl (by kernel_rfl) (by rfl) (fun K hK => ?_)
      refine app1_op (news := [.int .i64 v1, .int .i64 v2, .string v3]) O.out (show g + 1 ≤ w6.heap.size from X2.out.lt) 68 Try.underlying68 info_val val_size (by decide) (by decide) (by have := hmn; omega) rfl (by simp [Value.oneCell']) rfl rfl rfl ?_
      intro v' w7 O7 G7
      have hne : ∀ j, p.ownBlock = some j → g + 1 ≤ j := fun j hj => (O.out.lt j hj).1
      have C7 : Chg (fun j => g + 1 ≤ j) w6 w7 := chg_grown G7 hne
      obtain ⟨a', cap', rfl, _⟩ := Reel.own_shape O7
      replace X := Lib.hid (X2.out.chg C7 (by show ¬ g + 1 ≤ g; omega))
      have Y7 := Lib.hid (Y2.out.chg C7 (by show ¬ g + 1 ≤ w.heap.size; have := HW.out; omega))
      have E7 := Lib.hid (E2.out.chg C7 (by show ¬ g + 1 ≤ b; have := HW.out; omega))
      have C8 := Lib.hid (C2.out.next C7 (fun k hk e => by have e : g + 1 ≤ k := e; have := HW.out; omega))
      have c8 := X.out.cell (i := 8) rfl
      have f8 := X.out.frozen 8 (by simp)
      have HO7 := Lib.hid O7
      clear X2 Y2 E2 C2 C7 G7 hne O7 O Y E C
      refine hK.out _ _ (fun _ => (X.out.cell rfl)) (fun hHeld => ?_)
      replace hHeld := hHeld (by first | rfl | trivial)
      clear hK K
      try simp only [Act.put, List.setIfInBounds_toArray, List.set_cons_zero, List.set_cons_succ]
      refine Reg.takeI 6 (v := ?_) rfl (by kernel_rfl) (by kernel_rfl) (by kernel_rfl) (by kernel_rfl) (fun _ _ _ h => h) (by rfl) ?_ hHeld ?_
      rotate_left 1
      · (intro w hSw; (try dsimp only at hSw); go_simp; try with_reducible rfl)
      try simp only [Act.put, List.setIfInBounds_toArray, List.set_cons_zero, List.set_cons_succ]
      refine Reg.oneI 7 rfl (by kernel_rfl) (by rfl) (fun K hK => ?_)
      go_simp
      refine hK.out _ _ (fun h => by cases h) (fun _ => ?_)
      clear hK K
      try simp only [Act.put, List.setIfInBounds_toArray, List.set_cons_zero, List.set_cons_succ]
      refine Reg.doneI (by kernel_rfl) ?_
      have X8 := Lib.hid ((X.out.set 8 (.slice a' (vs.length + 1) cap')).cast (cs' := [.int .i64 1, .int .i64 t, .int .i64 0, .int .i64 0, .string ⟨#[]⟩, .int .i64 0, .int .i64 0, .string ⟨#[]⟩, (.slice a' (vs.length + 1) cap'), .int .i64 0, .int .i64 0, .int .i64 0, .string ⟨#[]⟩, .int .i64 0]) rfl)
      have Y8 := Lib.hid (Y7.out.set_ne ⟨g, 8, none⟩ (.slice a' (vs.length + 1) cap') (Ne.symm hy1))
      have E8 := Lib.hid (E7.out.set_ne ⟨g, 8, none⟩ (.slice a' (vs.length + 1) cap') hb2)
      have C9 := Lib.hid (chg_new C8.out ((Chg.refl (One g) _).put 8 (.slice a' (vs.length + 1) cap')) HW.out)
      have O8 := Lib.hid (Reel.own_chg HO7.out ((Chg.refl (One g) _).put 8 (.slice a' (vs.length + 1) cap')) (fun j hj x => by have := (HO7.out.lt j hj).1; have e : j = g := x; omega))
      clear X Y7 E7 C8 HO7 c8 f8 hHeld
      go_wp2_with fail
      exact ⟨⟨m, vs ++ [⟨v1, v2, v3⟩], s5, _, by rw [List.length_append]; simp; omega, by go_num, E8.out, by omega, X8.out, by rw [List.flatMap_append, List.length_append]; exact O8.out, Y8.out, C9.out, I2.out⟩, by simp [intOf]⟩
set_option maxHeartbeats 8000000 in
theorem eye_2 (b : Nat) (s : St) (w : World) (h : Eye w b s) (hs : s.1.length ≤ 9223372036854774000) (s0 s1 : St) (t : Int) (z0 : ((eOne s).1 : Int) = 2) (q0 : (eOne s).2 = s0) (z1 : ((eOne s0).1 : Int) = t) (q1 : (eOne s0).2 = s1) (s3 : St) (v1 v2 : Int) (v3 : ByteArray) (q3 : eVal s1 = (⟨v1, v2, v3⟩, s3)) : WReads b s w ⟨2, t, ⟨v1, v2, v3⟩, noV, none, 0, [], 0, noV, 0⟩ s3 := by
  have hlt := h.lt
  unfold WReads
  have Y := Lib.hid (Row.new w 90 [.int .i64 0, .int .i64 0, .int .i64 0, .int .i64 0, .string ⟨#[]⟩, .int .i64 0, .int .i64 0, .string ⟨#[]⟩, .slice none 0 0, .int .i64 0, .int .i64 0, .int .i64 0, .string ⟨#[]⟩, .int .i64 0])
  have E := Lib.hid (h.alloc (.cells #[.int .i64 0, .int .i64 0, .int .i64 0, .int .i64 0, .string ⟨#[]⟩, .int .i64 0, .int .i64 0, .string ⟨#[]⟩, .slice none 0 0, .int .i64 0, .int .i64 0, .int .i64 0, .string ⟨#[]⟩, .int .i64 0] 90))
  have C := Lib.hid ((Chg.refl (One b) w).alloc (.cells #[.int .i64 0, .int .i64 0, .int .i64 0, .int .i64 0, .string ⟨#[]⟩, .int .i64 0, .int .i64 0, .string ⟨#[]⟩, .slice none 0 0, .int .i64 0, .int .i64 0, .int .i64 0, .string ⟨#[]⟩, .int .i64 0] 90))
  have r0 := eOne_rest s
  rw [q0] at r0
  have r1 := eOne_rest s0
  rw [q1] at r1
  have Z1 := Lib.hid z1
  have Q1 := Lib.hid q1
  have Q0 := Lib.hid q0
  have Z0 := Lib.hid z0
  clear q0 q1 z0 z1 h
  go_enter Try.func156, Try.ntmps156
  go_wp2_with fail
  refine (one_to Z0.out Q0.out _ E.out (by omega)).mono ?_
  rintro e w1 ⟨rfl, hE, kc⟩
  have hsz := Nat.le_trans C.out.size kc.size
  have hyl := (Y.out.chg kc (fun e => by have e : w.heap.size = b := e; omega)).lt
  replace Y := Lib.hid ((Y.out.chg kc (fun e => by have e : w.heap.size = b := e; omega)).alloc (.cells #[.int .i64 0, .int .i64 0, .int .i64 0, .int .i64 0, .string ⟨#[]⟩, .int .i64 0, .int .i64 0, .string ⟨#[]⟩, .slice none 0 0, .int .i64 0, .int .i64 0, .int .i64 0, .string ⟨#[]⟩, .int .i64 0] 90))
  replace C := Lib.hid ((C.out.trans kc).alloc (.cells #[.int .i64 0, .int .i64 0, .int .i64 0, .int .i64 0, .string ⟨#[]⟩, .int .i64 0, .int .i64 0, .string ⟨#[]⟩, .slice none 0 0, .int .i64 0, .int .i64 0, .int .i64 0, .string ⟨#[]⟩, .int .i64 0] 90))
  replace E := Lib.hid (hE.alloc (.cells #[.int .i64 0, .int .i64 0, .int .i64 0, .int .i64 0, .string ⟨#[]⟩, .int .i64 0, .int .i64 0, .string ⟨#[]⟩, .slice none 0 0, .int .i64 0, .int .i64 0, .int .i64 0, .string ⟨#[]⟩, .int .i64 0] 90))
  have X := Lib.hid (Row.new w1 90 [.int .i64 0, .int .i64 0, .int .i64 0, .int .i64 0, .string ⟨#[]⟩, .int .i64 0, .int .i64 0, .string ⟨#[]⟩, .slice none 0 0, .int .i64 0, .int .i64 0, .int .i64 0, .string ⟨#[]⟩, .int .i64 0])
  have hb1 : b ≠ w1.heap.size := by omega
  have hb2 : w1.heap.size ≠ b := by omega
  have hy1 : w.heap.size ≠ w1.heap.size := by omega
  have hy2 : w.heap.size ≠ b := by omega
  clear hE kc
  go_wp2_with (refine store_row X.out [.int .i64 2, .int .i64 0, .int .i64 0, .int .i64 0, .string ⟨#[]⟩, .int .i64 0, .int .i64 0, .string ⟨#[]⟩, .slice none 0 0, .int .i64 0, .int .i64 0, .int .i64 0, .string ⟨#[]⟩, .int .i64 0] 90 (by kernel_rfl) rfl (by simp [Value.oneCell']) rfl rfl rfl rfl ?_; intro w2 hz kz zz; replace E := Lib.hid (E.out.chg kz hb1); replace Y := Lib.hid (Y.out.chg kz hy1); replace C := Lib.hid (chg_new C.out kz (by omega)); replace X := Lib.hid hz; clear hz kz zz)
  have HW := Lib.hid (show w.heap.size ≤ w1.heap.size from by omega)
  generalize w1.heap.size = g at *
  refine (one_to Z1.out Q1.out _ E.out (by omega)).mono ?_
  rintro e w3 ⟨rfl, hE, kc⟩
  replace X := Lib.hid (X.out.chg kc hb2)
  replace Y := Lib.hid (Y.out.chg kc hy2)
  replace C := Lib.hid (C.out.trans kc)
  replace E := Lib.hid hE
  clear hE kc
  have Q3 := Lib.hid q3
  clear q3
  have x1 := X.out.cell (i := 1) rfl
  have g1 := X.out.frozen 1 (by simp)
  have x0 := X.out.cell (i := 0) rfl
  go_wp2_with fail
  replace X := Lib.hid ((X.out.set 1 (.int .i64 t)).cast (cs' := [.int .i64 2, .int .i64 t, .int .i64 0, .int .i64 0, .string ⟨#[]⟩, .int .i64 0, .int .i64 0, .string ⟨#[]⟩, .slice none 0 0, .int .i64 0, .int .i64 0, .int .i64 0, .string ⟨#[]⟩, .int .i64 0]) rfl)
  replace Y := Lib.hid (Y.out.set_ne ⟨g, 1, none⟩ (.int .i64 t) (Ne.symm hy1))
  replace E := Lib.hid (E.out.set_ne ⟨g, 1, none⟩ (.int .i64 t) hb2)
  replace C := Lib.hid (chg_new C.out ((Chg.refl (One g) _).put 1 (.int .i64 t)) HW.out)
  clear x1 g1 x0
  refine (value_to Q3.out _ E.out (by omega)).mono ?_
  rintro e w4 ⟨rfl, hE, kc⟩
  replace X := Lib.hid (X.out.chg kc hb2)
  replace Y := Lib.hid (Y.out.chg kc hy2)
  replace C := Lib.hid (C.out.trans kc)
  replace E := Lib.hid hE
  clear hE kc
  have x2 := X.out.cell (i := 2) rfl
  have g2 := X.out.frozen 2 (by simp)
  have x3 := X.out.cell (i := 3) rfl
  have g3 := X.out.frozen 3 (by simp)
  have x4 := X.out.cell (i := 4) rfl
  have g4 := X.out.frozen 4 (by simp)
  have XF := Lib.hid ((((X.out.set 2 (.int .i64 v1)).set 3 (.int .i64 v2)).set 4 (.string v3)).cast (cs' := [.int .i64 2, .int .i64 t, .int .i64 v1, .int .i64 v2, .string v3, .int .i64 0, .int .i64 0, .string ⟨#[]⟩, .slice none 0 0, .int .i64 0, .int .i64 0, .int .i64 0, .string ⟨#[]⟩, .int .i64 0]) rfl)
  have YF := Lib.hid (((Y.out.set_ne ⟨g, 2, none⟩ (.int .i64 v1) (Ne.symm hy1)).set_ne ⟨g, 3, none⟩ (.int .i64 v2) (Ne.symm hy1)).set_ne ⟨g, 4, none⟩ (.string v3) (Ne.symm hy1))
  have EF := Lib.hid (((E.out.set_ne ⟨g, 2, none⟩ (.int .i64 v1) hb2).set_ne ⟨g, 3, none⟩ (.int .i64 v2) hb2).set_ne ⟨g, 4, none⟩ (.string v3) hb2)
  have CF := Lib.hid (chg_new (chg_new (chg_new C.out ((Chg.refl (One g) _).put 2 (.int .i64 v1)) HW.out) ((Chg.refl (One g) _).put 3 (.int .i64 v2)) HW.out) ((Chg.refl (One g) _).put 4 (.string v3)) HW.out)
  go_wp2_with (first | (refine load_row XF.out 90 Try.underlying90 rfl (by kernel_rfl) rfl rfl rfl ?_) | (refine store_row YF.out [.int .i64 2, .int .i64 t, .int .i64 v1, .int .i64 v2, .string v3, .int .i64 0, .int .i64 0, .string ⟨#[]⟩, .slice none 0 0, .int .i64 0, .int .i64 0, .int .i64 0, .string ⟨#[]⟩, .int .i64 0] 90 (by kernel_rfl) rfl (by simp [Value.oneCell']) rfl rfl rfl rfl ?_; intro w90 hR kc hsz2))
  have E9 := Lib.hid (EF.out.chg kc (fun e => hy2 (show b = w.heap.size from e).symm))
  have C9 := Lib.hid (chg_new CF.out kc (Nat.le_refl _))
  have R9 := Lib.hid hR
  clear hR kc hsz2
  exact ret_row R9.out Try.results156 Try.underlying90 rfl (by kernel_rfl) rfl rfl ⟨wres_none rfl rfl rfl, E9.out, C9.out⟩
set_option maxHeartbeats 8000000 in
theorem eye_4 (b : Nat) (s : St) (w : World) (h : Eye w b s) (hs : s.1.length ≤ 9223372036854774000) (s0 s1 : St) (t : Int) (z0 : ((eOne s).1 : Int) = 4) (q0 : (eOne s).2 = s0) (z1 : ((eOne s0).1 : Int) = t) (q1 : (eOne s0).2 = s1) (s3 : St) (v1 v2 : Int) (v3 : ByteArray) (q3 : eVal s1 = (⟨v1, v2, v3⟩, s3)) : WReads b s w ⟨4, t, ⟨v1, v2, v3⟩, noV, none, 0, [], 0, noV, 0⟩ s3 := by
  have hlt := h.lt
  unfold WReads
  have Y := Lib.hid (Row.new w 90 [.int .i64 0, .int .i64 0, .int .i64 0, .int .i64 0, .string ⟨#[]⟩, .int .i64 0, .int .i64 0, .string ⟨#[]⟩, .slice none 0 0, .int .i64 0, .int .i64 0, .int .i64 0, .string ⟨#[]⟩, .int .i64 0])
  have E := Lib.hid (h.alloc (.cells #[.int .i64 0, .int .i64 0, .int .i64 0, .int .i64 0, .string ⟨#[]⟩, .int .i64 0, .int .i64 0, .string ⟨#[]⟩, .slice none 0 0, .int .i64 0, .int .i64 0, .int .i64 0, .string ⟨#[]⟩, .int .i64 0] 90))
  have C := Lib.hid ((Chg.refl (One b) w).alloc (.cells #[.int .i64 0, .int .i64 0, .int .i64 0, .int .i64 0, .string ⟨#[]⟩, .int .i64 0, .int .i64 0, .string ⟨#[]⟩, .slice none 0 0, .int .i64 0, .int .i64 0, .int .i64 0, .string ⟨#[]⟩, .int .i64 0] 90))
  have r0 := eOne_rest s
  rw [q0] at r0
  have r1 := eOne_rest s0
  rw [q1] at r1
  have Z1 := Lib.hid z1
  have Q1 := Lib.hid q1
  have Q0 := Lib.hid q0
  have Z0 := Lib.hid z0
  clear q0 q1 z0 z1 h
  go_enter Try.func156, Try.ntmps156
  go_wp2_with fail
  refine (one_to Z0.out Q0.out _ E.out (by omega)).mono ?_
  rintro e w1 ⟨rfl, hE, kc⟩
  have hsz := Nat.le_trans C.out.size kc.size
  have hyl := (Y.out.chg kc (fun e => by have e : w.heap.size = b := e; omega)).lt
  replace Y := Lib.hid ((Y.out.chg kc (fun e => by have e : w.heap.size = b := e; omega)).alloc (.cells #[.int .i64 0, .int .i64 0, .int .i64 0, .int .i64 0, .string ⟨#[]⟩, .int .i64 0, .int .i64 0, .string ⟨#[]⟩, .slice none 0 0, .int .i64 0, .int .i64 0, .int .i64 0, .string ⟨#[]⟩, .int .i64 0] 90))
  replace C := Lib.hid ((C.out.trans kc).alloc (.cells #[.int .i64 0, .int .i64 0, .int .i64 0, .int .i64 0, .string ⟨#[]⟩, .int .i64 0, .int .i64 0, .string ⟨#[]⟩, .slice none 0 0, .int .i64 0, .int .i64 0, .int .i64 0, .string ⟨#[]⟩, .int .i64 0] 90))
  replace E := Lib.hid (hE.alloc (.cells #[.int .i64 0, .int .i64 0, .int .i64 0, .int .i64 0, .string ⟨#[]⟩, .int .i64 0, .int .i64 0, .string ⟨#[]⟩, .slice none 0 0, .int .i64 0, .int .i64 0, .int .i64 0, .string ⟨#[]⟩, .int .i64 0] 90))
  have X := Lib.hid (Row.new w1 90 [.int .i64 0, .int .i64 0, .int .i64 0, .int .i64 0, .string ⟨#[]⟩, .int .i64 0, .int .i64 0, .string ⟨#[]⟩, .slice none 0 0, .int .i64 0, .int .i64 0, .int .i64 0, .string ⟨#[]⟩, .int .i64 0])
  have hb1 : b ≠ w1.heap.size := by omega
  have hb2 : w1.heap.size ≠ b := by omega
  have hy1 : w.heap.size ≠ w1.heap.size := by omega
  have hy2 : w.heap.size ≠ b := by omega
  clear hE kc
  go_wp2_with (refine store_row X.out [.int .i64 4, .int .i64 0, .int .i64 0, .int .i64 0, .string ⟨#[]⟩, .int .i64 0, .int .i64 0, .string ⟨#[]⟩, .slice none 0 0, .int .i64 0, .int .i64 0, .int .i64 0, .string ⟨#[]⟩, .int .i64 0] 90 (by kernel_rfl) rfl (by simp [Value.oneCell']) rfl rfl rfl rfl ?_; intro w2 hz kz zz; replace E := Lib.hid (E.out.chg kz hb1); replace Y := Lib.hid (Y.out.chg kz hy1); replace C := Lib.hid (chg_new C.out kz (by omega)); replace X := Lib.hid hz; clear hz kz zz)
  have HW := Lib.hid (show w.heap.size ≤ w1.heap.size from by omega)
  generalize w1.heap.size = g at *
  refine (one_to Z1.out Q1.out _ E.out (by omega)).mono ?_
  rintro e w3 ⟨rfl, hE, kc⟩
  replace X := Lib.hid (X.out.chg kc hb2)
  replace Y := Lib.hid (Y.out.chg kc hy2)
  replace C := Lib.hid (C.out.trans kc)
  replace E := Lib.hid hE
  clear hE kc
  have Q3 := Lib.hid q3
  clear q3
  have x1 := X.out.cell (i := 1) rfl
  have g1 := X.out.frozen 1 (by simp)
  have x0 := X.out.cell (i := 0) rfl
  go_wp2_with fail
  replace X := Lib.hid ((X.out.set 1 (.int .i64 t)).cast (cs' := [.int .i64 4, .int .i64 t, .int .i64 0, .int .i64 0, .string ⟨#[]⟩, .int .i64 0, .int .i64 0, .string ⟨#[]⟩, .slice none 0 0, .int .i64 0, .int .i64 0, .int .i64 0, .string ⟨#[]⟩, .int .i64 0]) rfl)
  replace Y := Lib.hid (Y.out.set_ne ⟨g, 1, none⟩ (.int .i64 t) (Ne.symm hy1))
  replace E := Lib.hid (E.out.set_ne ⟨g, 1, none⟩ (.int .i64 t) hb2)
  replace C := Lib.hid (chg_new C.out ((Chg.refl (One g) _).put 1 (.int .i64 t)) HW.out)
  clear x1 g1 x0
  refine (value_to Q3.out _ E.out (by omega)).mono ?_
  rintro e w4 ⟨rfl, hE, kc⟩
  replace X := Lib.hid (X.out.chg kc hb2)
  replace Y := Lib.hid (Y.out.chg kc hy2)
  replace C := Lib.hid (C.out.trans kc)
  replace E := Lib.hid hE
  clear hE kc
  have x2 := X.out.cell (i := 2) rfl
  have g2 := X.out.frozen 2 (by simp)
  have x3 := X.out.cell (i := 3) rfl
  have g3 := X.out.frozen 3 (by simp)
  have x4 := X.out.cell (i := 4) rfl
  have g4 := X.out.frozen 4 (by simp)
  have XF := Lib.hid ((((X.out.set 2 (.int .i64 v1)).set 3 (.int .i64 v2)).set 4 (.string v3)).cast (cs' := [.int .i64 4, .int .i64 t, .int .i64 v1, .int .i64 v2, .string v3, .int .i64 0, .int .i64 0, .string ⟨#[]⟩, .slice none 0 0, .int .i64 0, .int .i64 0, .int .i64 0, .string ⟨#[]⟩, .int .i64 0]) rfl)
  have YF := Lib.hid (((Y.out.set_ne ⟨g, 2, none⟩ (.int .i64 v1) (Ne.symm hy1)).set_ne ⟨g, 3, none⟩ (.int .i64 v2) (Ne.symm hy1)).set_ne ⟨g, 4, none⟩ (.string v3) (Ne.symm hy1))
  have EF := Lib.hid (((E.out.set_ne ⟨g, 2, none⟩ (.int .i64 v1) hb2).set_ne ⟨g, 3, none⟩ (.int .i64 v2) hb2).set_ne ⟨g, 4, none⟩ (.string v3) hb2)
  have CF := Lib.hid (chg_new (chg_new (chg_new C.out ((Chg.refl (One g) _).put 2 (.int .i64 v1)) HW.out) ((Chg.refl (One g) _).put 3 (.int .i64 v2)) HW.out) ((Chg.refl (One g) _).put 4 (.string v3)) HW.out)
  go_wp2_with (first | (refine load_row XF.out 90 Try.underlying90 rfl (by kernel_rfl) rfl rfl rfl ?_) | (refine store_row YF.out [.int .i64 4, .int .i64 t, .int .i64 v1, .int .i64 v2, .string v3, .int .i64 0, .int .i64 0, .string ⟨#[]⟩, .slice none 0 0, .int .i64 0, .int .i64 0, .int .i64 0, .string ⟨#[]⟩, .int .i64 0] 90 (by kernel_rfl) rfl (by simp [Value.oneCell']) rfl rfl rfl rfl ?_; intro w90 hR kc hsz2))
  have E9 := Lib.hid (EF.out.chg kc (fun e => hy2 (show b = w.heap.size from e).symm))
  have C9 := Lib.hid (chg_new CF.out kc (Nat.le_refl _))
  have R9 := Lib.hid hR
  clear hR kc hsz2
  exact ret_row R9.out Try.results156 Try.underlying90 rfl (by kernel_rfl) rfl rfl ⟨wres_none rfl rfl rfl, E9.out, C9.out⟩
set_option maxHeartbeats 8000000 in
theorem eye_6 (b : Nat) (s : St) (w : World) (h : Eye w b s) (hs : s.1.length ≤ 9223372036854774000) (s0 s1 : St) (t : Int) (z0 : ((eOne s).1 : Int) = 6) (q0 : (eOne s).2 = s0) (z1 : ((eOne s0).1 : Int) = t) (q1 : (eOne s0).2 = s1) (s3 : St) (v1 v2 : Int) (v3 : ByteArray) (q3 : eVal s1 = (⟨v1, v2, v3⟩, s3)) : WReads b s w ⟨6, t, ⟨v1, v2, v3⟩, noV, none, 0, [], 0, noV, 0⟩ s3 := by
  have hlt := h.lt
  unfold WReads
  have Y := Lib.hid (Row.new w 90 [.int .i64 0, .int .i64 0, .int .i64 0, .int .i64 0, .string ⟨#[]⟩, .int .i64 0, .int .i64 0, .string ⟨#[]⟩, .slice none 0 0, .int .i64 0, .int .i64 0, .int .i64 0, .string ⟨#[]⟩, .int .i64 0])
  have E := Lib.hid (h.alloc (.cells #[.int .i64 0, .int .i64 0, .int .i64 0, .int .i64 0, .string ⟨#[]⟩, .int .i64 0, .int .i64 0, .string ⟨#[]⟩, .slice none 0 0, .int .i64 0, .int .i64 0, .int .i64 0, .string ⟨#[]⟩, .int .i64 0] 90))
  have C := Lib.hid ((Chg.refl (One b) w).alloc (.cells #[.int .i64 0, .int .i64 0, .int .i64 0, .int .i64 0, .string ⟨#[]⟩, .int .i64 0, .int .i64 0, .string ⟨#[]⟩, .slice none 0 0, .int .i64 0, .int .i64 0, .int .i64 0, .string ⟨#[]⟩, .int .i64 0] 90))
  have r0 := eOne_rest s
  rw [q0] at r0
  have r1 := eOne_rest s0
  rw [q1] at r1
  have Z1 := Lib.hid z1
  have Q1 := Lib.hid q1
  have Q0 := Lib.hid q0
  have Z0 := Lib.hid z0
  clear q0 q1 z0 z1 h
  go_enter Try.func156, Try.ntmps156
  go_wp2_with fail
  refine (one_to Z0.out Q0.out _ E.out (by omega)).mono ?_
  rintro e w1 ⟨rfl, hE, kc⟩
  have hsz := Nat.le_trans C.out.size kc.size
  have hyl := (Y.out.chg kc (fun e => by have e : w.heap.size = b := e; omega)).lt
  replace Y := Lib.hid ((Y.out.chg kc (fun e => by have e : w.heap.size = b := e; omega)).alloc (.cells #[.int .i64 0, .int .i64 0, .int .i64 0, .int .i64 0, .string ⟨#[]⟩, .int .i64 0, .int .i64 0, .string ⟨#[]⟩, .slice none 0 0, .int .i64 0, .int .i64 0, .int .i64 0, .string ⟨#[]⟩, .int .i64 0] 90))
  replace C := Lib.hid ((C.out.trans kc).alloc (.cells #[.int .i64 0, .int .i64 0, .int .i64 0, .int .i64 0, .string ⟨#[]⟩, .int .i64 0, .int .i64 0, .string ⟨#[]⟩, .slice none 0 0, .int .i64 0, .int .i64 0, .int .i64 0, .string ⟨#[]⟩, .int .i64 0] 90))
  replace E := Lib.hid (hE.alloc (.cells #[.int .i64 0, .int .i64 0, .int .i64 0, .int .i64 0, .string ⟨#[]⟩, .int .i64 0, .int .i64 0, .string ⟨#[]⟩, .slice none 0 0, .int .i64 0, .int .i64 0, .int .i64 0, .string ⟨#[]⟩, .int .i64 0] 90))
  have X := Lib.hid (Row.new w1 90 [.int .i64 0, .int .i64 0, .int .i64 0, .int .i64 0, .string ⟨#[]⟩, .int .i64 0, .int .i64 0, .string ⟨#[]⟩, .slice none 0 0, .int .i64 0, .int .i64 0, .int .i64 0, .string ⟨#[]⟩, .int .i64 0])
  have hb1 : b ≠ w1.heap.size := by omega
  have hb2 : w1.heap.size ≠ b := by omega
  have hy1 : w.heap.size ≠ w1.heap.size := by omega
  have hy2 : w.heap.size ≠ b := by omega
  clear hE kc
  go_wp2_with (refine store_row X.out [.int .i64 6, .int .i64 0, .int .i64 0, .int .i64 0, .string ⟨#[]⟩, .int .i64 0, .int .i64 0, .string ⟨#[]⟩, .slice none 0 0, .int .i64 0, .int .i64 0, .int .i64 0, .string ⟨#[]⟩, .int .i64 0] 90 (by kernel_rfl) rfl (by simp [Value.oneCell']) rfl rfl rfl rfl ?_; intro w2 hz kz zz; replace E := Lib.hid (E.out.chg kz hb1); replace Y := Lib.hid (Y.out.chg kz hy1); replace C := Lib.hid (chg_new C.out kz (by omega)); replace X := Lib.hid hz; clear hz kz zz)
  have HW := Lib.hid (show w.heap.size ≤ w1.heap.size from by omega)
  generalize w1.heap.size = g at *
  refine (one_to Z1.out Q1.out _ E.out (by omega)).mono ?_
  rintro e w3 ⟨rfl, hE, kc⟩
  replace X := Lib.hid (X.out.chg kc hb2)
  replace Y := Lib.hid (Y.out.chg kc hy2)
  replace C := Lib.hid (C.out.trans kc)
  replace E := Lib.hid hE
  clear hE kc
  have Q3 := Lib.hid q3
  clear q3
  have x1 := X.out.cell (i := 1) rfl
  have g1 := X.out.frozen 1 (by simp)
  have x0 := X.out.cell (i := 0) rfl
  go_wp2_with fail
  replace X := Lib.hid ((X.out.set 1 (.int .i64 t)).cast (cs' := [.int .i64 6, .int .i64 t, .int .i64 0, .int .i64 0, .string ⟨#[]⟩, .int .i64 0, .int .i64 0, .string ⟨#[]⟩, .slice none 0 0, .int .i64 0, .int .i64 0, .int .i64 0, .string ⟨#[]⟩, .int .i64 0]) rfl)
  replace Y := Lib.hid (Y.out.set_ne ⟨g, 1, none⟩ (.int .i64 t) (Ne.symm hy1))
  replace E := Lib.hid (E.out.set_ne ⟨g, 1, none⟩ (.int .i64 t) hb2)
  replace C := Lib.hid (chg_new C.out ((Chg.refl (One g) _).put 1 (.int .i64 t)) HW.out)
  clear x1 g1 x0
  refine (value_to Q3.out _ E.out (by omega)).mono ?_
  rintro e w4 ⟨rfl, hE, kc⟩
  replace X := Lib.hid (X.out.chg kc hb2)
  replace Y := Lib.hid (Y.out.chg kc hy2)
  replace C := Lib.hid (C.out.trans kc)
  replace E := Lib.hid hE
  clear hE kc
  have x2 := X.out.cell (i := 2) rfl
  have g2 := X.out.frozen 2 (by simp)
  have x3 := X.out.cell (i := 3) rfl
  have g3 := X.out.frozen 3 (by simp)
  have x4 := X.out.cell (i := 4) rfl
  have g4 := X.out.frozen 4 (by simp)
  have XF := Lib.hid ((((X.out.set 2 (.int .i64 v1)).set 3 (.int .i64 v2)).set 4 (.string v3)).cast (cs' := [.int .i64 6, .int .i64 t, .int .i64 v1, .int .i64 v2, .string v3, .int .i64 0, .int .i64 0, .string ⟨#[]⟩, .slice none 0 0, .int .i64 0, .int .i64 0, .int .i64 0, .string ⟨#[]⟩, .int .i64 0]) rfl)
  have YF := Lib.hid (((Y.out.set_ne ⟨g, 2, none⟩ (.int .i64 v1) (Ne.symm hy1)).set_ne ⟨g, 3, none⟩ (.int .i64 v2) (Ne.symm hy1)).set_ne ⟨g, 4, none⟩ (.string v3) (Ne.symm hy1))
  have EF := Lib.hid (((E.out.set_ne ⟨g, 2, none⟩ (.int .i64 v1) hb2).set_ne ⟨g, 3, none⟩ (.int .i64 v2) hb2).set_ne ⟨g, 4, none⟩ (.string v3) hb2)
  have CF := Lib.hid (chg_new (chg_new (chg_new C.out ((Chg.refl (One g) _).put 2 (.int .i64 v1)) HW.out) ((Chg.refl (One g) _).put 3 (.int .i64 v2)) HW.out) ((Chg.refl (One g) _).put 4 (.string v3)) HW.out)
  go_wp2_with (first | (refine load_row XF.out 90 Try.underlying90 rfl (by kernel_rfl) rfl rfl rfl ?_) | (refine store_row YF.out [.int .i64 6, .int .i64 t, .int .i64 v1, .int .i64 v2, .string v3, .int .i64 0, .int .i64 0, .string ⟨#[]⟩, .slice none 0 0, .int .i64 0, .int .i64 0, .int .i64 0, .string ⟨#[]⟩, .int .i64 0] 90 (by kernel_rfl) rfl (by simp [Value.oneCell']) rfl rfl rfl rfl ?_; intro w90 hR kc hsz2))
  have E9 := Lib.hid (EF.out.chg kc (fun e => hy2 (show b = w.heap.size from e).symm))
  have C9 := Lib.hid (chg_new CF.out kc (Nat.le_refl _))
  have R9 := Lib.hid hR
  clear hR kc hsz2
  exact ret_row R9.out Try.results156 Try.underlying90 rfl (by kernel_rfl) rfl rfl ⟨wres_none rfl rfl rfl, E9.out, C9.out⟩
set_option maxHeartbeats 8000000 in
theorem eye_3 (b : Nat) (s : St) (w : World) (h : Eye w b s) (hs : s.1.length ≤ 9223372036854774000) (s0 s1 : St) (t : Int) (z0 : ((eOne s).1 : Int) = 3) (q0 : (eOne s).2 = s0) (z1 : ((eOne s0).1 : Int) = t) (q1 : (eOne s0).2 = s1) (s3 s4 s5 : St) (v1 v2 : Int) (v3 : ByteArray) (q3 : eVal s1 = (⟨v1, v2, v3⟩, s3)) (c : Int) (z4 : ((eOne s3).1 : Int) = c) (q4 : (eOne s3).2 = s4) (u1 u2 : Int) (u3 : ByteArray) (q5 : eVal s4 = (⟨u1, u2, u3⟩, s5)) : WReads b s w ⟨3, t, ⟨v1, v2, v3⟩, noV, none, 0, [], c, ⟨u1, u2, u3⟩, 0⟩ s5 := by
  have hlt := h.lt
  unfold WReads
  have Y := Lib.hid (Row.new w 90 [.int .i64 0, .int .i64 0, .int .i64 0, .int .i64 0, .string ⟨#[]⟩, .int .i64 0, .int .i64 0, .string ⟨#[]⟩, .slice none 0 0, .int .i64 0, .int .i64 0, .int .i64 0, .string ⟨#[]⟩, .int .i64 0])
  have E := Lib.hid (h.alloc (.cells #[.int .i64 0, .int .i64 0, .int .i64 0, .int .i64 0, .string ⟨#[]⟩, .int .i64 0, .int .i64 0, .string ⟨#[]⟩, .slice none 0 0, .int .i64 0, .int .i64 0, .int .i64 0, .string ⟨#[]⟩, .int .i64 0] 90))
  have C := Lib.hid ((Chg.refl (One b) w).alloc (.cells #[.int .i64 0, .int .i64 0, .int .i64 0, .int .i64 0, .string ⟨#[]⟩, .int .i64 0, .int .i64 0, .string ⟨#[]⟩, .slice none 0 0, .int .i64 0, .int .i64 0, .int .i64 0, .string ⟨#[]⟩, .int .i64 0] 90))
  have r0 := eOne_rest s
  rw [q0] at r0
  have r1 := eOne_rest s0
  rw [q1] at r1
  have Z1 := Lib.hid z1
  have Q1 := Lib.hid q1
  have Q0 := Lib.hid q0
  have Z0 := Lib.hid z0
  clear q0 q1 z0 z1 h
  go_enter Try.func156, Try.ntmps156
  go_wp2_with fail
  refine (one_to Z0.out Q0.out _ E.out (by omega)).mono ?_
  rintro e w1 ⟨rfl, hE, kc⟩
  have hsz := Nat.le_trans C.out.size kc.size
  have hyl := (Y.out.chg kc (fun e => by have e : w.heap.size = b := e; omega)).lt
  replace Y := Lib.hid ((Y.out.chg kc (fun e => by have e : w.heap.size = b := e; omega)).alloc (.cells #[.int .i64 0, .int .i64 0, .int .i64 0, .int .i64 0, .string ⟨#[]⟩, .int .i64 0, .int .i64 0, .string ⟨#[]⟩, .slice none 0 0, .int .i64 0, .int .i64 0, .int .i64 0, .string ⟨#[]⟩, .int .i64 0] 90))
  replace C := Lib.hid ((C.out.trans kc).alloc (.cells #[.int .i64 0, .int .i64 0, .int .i64 0, .int .i64 0, .string ⟨#[]⟩, .int .i64 0, .int .i64 0, .string ⟨#[]⟩, .slice none 0 0, .int .i64 0, .int .i64 0, .int .i64 0, .string ⟨#[]⟩, .int .i64 0] 90))
  replace E := Lib.hid (hE.alloc (.cells #[.int .i64 0, .int .i64 0, .int .i64 0, .int .i64 0, .string ⟨#[]⟩, .int .i64 0, .int .i64 0, .string ⟨#[]⟩, .slice none 0 0, .int .i64 0, .int .i64 0, .int .i64 0, .string ⟨#[]⟩, .int .i64 0] 90))
  have X := Lib.hid (Row.new w1 90 [.int .i64 0, .int .i64 0, .int .i64 0, .int .i64 0, .string ⟨#[]⟩, .int .i64 0, .int .i64 0, .string ⟨#[]⟩, .slice none 0 0, .int .i64 0, .int .i64 0, .int .i64 0, .string ⟨#[]⟩, .int .i64 0])
  have hb1 : b ≠ w1.heap.size := by omega
  have hb2 : w1.heap.size ≠ b := by omega
  have hy1 : w.heap.size ≠ w1.heap.size := by omega
  have hy2 : w.heap.size ≠ b := by omega
  clear hE kc
  go_wp2_with (refine store_row X.out [.int .i64 3, .int .i64 0, .int .i64 0, .int .i64 0, .string ⟨#[]⟩, .int .i64 0, .int .i64 0, .string ⟨#[]⟩, .slice none 0 0, .int .i64 0, .int .i64 0, .int .i64 0, .string ⟨#[]⟩, .int .i64 0] 90 (by kernel_rfl) rfl (by simp [Value.oneCell']) rfl rfl rfl rfl ?_; intro w2 hz kz zz; replace E := Lib.hid (E.out.chg kz hb1); replace Y := Lib.hid (Y.out.chg kz hy1); replace C := Lib.hid (chg_new C.out kz (by omega)); replace X := Lib.hid hz; clear hz kz zz)
  have HW := Lib.hid (show w.heap.size ≤ w1.heap.size from by omega)
  generalize w1.heap.size = g at *
  refine (one_to Z1.out Q1.out _ E.out (by omega)).mono ?_
  rintro e w3 ⟨rfl, hE, kc⟩
  replace X := Lib.hid (X.out.chg kc hb2)
  replace Y := Lib.hid (Y.out.chg kc hy2)
  replace C := Lib.hid (C.out.trans kc)
  replace E := Lib.hid hE
  clear hE kc
  have r3 := eVal_rest s1
  rw [q3] at r3
  simp only at r3
  have r4 := eOne_rest s3
  rw [q4] at r4
  have Q3 := Lib.hid q3
  have Q4 := Lib.hid q4
  have Z4 := Lib.hid z4
  have Q5 := Lib.hid q5
  clear q3 q4 z4 q5
  have x1 := X.out.cell (i := 1) rfl
  have g1 := X.out.frozen 1 (by simp)
  have x0 := X.out.cell (i := 0) rfl
  go_wp2_with fail
  replace X := Lib.hid ((X.out.set 1 (.int .i64 t)).cast (cs' := [.int .i64 3, .int .i64 t, .int .i64 0, .int .i64 0, .string ⟨#[]⟩, .int .i64 0, .int .i64 0, .string ⟨#[]⟩, .slice none 0 0, .int .i64 0, .int .i64 0, .int .i64 0, .string ⟨#[]⟩, .int .i64 0]) rfl)
  replace Y := Lib.hid (Y.out.set_ne ⟨g, 1, none⟩ (.int .i64 t) (Ne.symm hy1))
  replace E := Lib.hid (E.out.set_ne ⟨g, 1, none⟩ (.int .i64 t) hb2)
  replace C := Lib.hid (chg_new C.out ((Chg.refl (One g) _).put 1 (.int .i64 t)) HW.out)
  clear x1 g1 x0
  refine (value_to Q3.out _ E.out (by omega)).mono ?_
  rintro e w4 ⟨rfl, hE, kc⟩
  replace X := Lib.hid (X.out.chg kc hb2)
  replace Y := Lib.hid (Y.out.chg kc hy2)
  replace C := Lib.hid (C.out.trans kc)
  replace E := Lib.hid hE
  clear hE kc
  have x2 := X.out.cell (i := 2) rfl
  have g2 := X.out.frozen 2 (by simp)
  have x3 := X.out.cell (i := 3) rfl
  have g3 := X.out.frozen 3 (by simp)
  have x4 := X.out.cell (i := 4) rfl
  have g4 := X.out.frozen 4 (by simp)
  go_wp2_with fail
  replace X := Lib.hid ((((X.out.set 2 (.int .i64 v1)).set 3 (.int .i64 v2)).set 4 (.string v3)).cast (cs' := [.int .i64 3, .int .i64 t, .int .i64 v1, .int .i64 v2, .string v3, .int .i64 0, .int .i64 0, .string ⟨#[]⟩, .slice none 0 0, .int .i64 0, .int .i64 0, .int .i64 0, .string ⟨#[]⟩, .int .i64 0]) rfl)
  replace Y := Lib.hid (((Y.out.set_ne ⟨g, 2, none⟩ (.int .i64 v1) (Ne.symm hy1)).set_ne ⟨g, 3, none⟩ (.int .i64 v2) (Ne.symm hy1)).set_ne ⟨g, 4, none⟩ (.string v3) (Ne.symm hy1))
  replace E := Lib.hid (((E.out.set_ne ⟨g, 2, none⟩ (.int .i64 v1) hb2).set_ne ⟨g, 3, none⟩ (.int .i64 v2) hb2).set_ne ⟨g, 4, none⟩ (.string v3) hb2)
  replace C := Lib.hid (chg_new (chg_new (chg_new C.out ((Chg.refl (One g) _).put 2 (.int .i64 v1)) HW.out) ((Chg.refl (One g) _).put 3 (.int .i64 v2)) HW.out) ((Chg.refl (One g) _).put 4 (.string v3)) HW.out)
  clear x2 x3 x4 g2 g3 g4
  refine (one_to Z4.out Q4.out _ E.out (by omega)).mono ?_
  rintro e w5 ⟨rfl, hE, kc⟩
  replace X := Lib.hid (X.out.chg kc hb2)
  replace Y := Lib.hid (Y.out.chg kc hy2)
  replace C := Lib.hid (C.out.trans kc)
  replace E := Lib.hid hE
  clear hE kc
  have x9 := X.out.cell (i := 9) rfl
  have g9 := X.out.frozen 9 (by simp)
  go_wp2_with fail
  replace X := Lib.hid ((X.out.set 9 (.int .i64 c)).cast (cs' := [.int .i64 3, .int .i64 t, .int .i64 v1, .int .i64 v2, .string v3, .int .i64 0, .int .i64 0, .string ⟨#[]⟩, .slice none 0 0, .int .i64 c, .int .i64 0, .int .i64 0, .string ⟨#[]⟩, .int .i64 0]) rfl)
  replace Y := Lib.hid (Y.out.set_ne ⟨g, 9, none⟩ (.int .i64 c) (Ne.symm hy1))
  replace E := Lib.hid (E.out.set_ne ⟨g, 9, none⟩ (.int .i64 c) hb2)
  replace C := Lib.hid (chg_new C.out ((Chg.refl (One g) _).put 9 (.int .i64 c)) HW.out)
  clear x9 g9
  refine (value_to Q5.out _ E.out (by omega)).mono ?_
  rintro e w6 ⟨rfl, hE, kc⟩
  replace X := Lib.hid (X.out.chg kc hb2)
  replace Y := Lib.hid (Y.out.chg kc hy2)
  replace C := Lib.hid (C.out.trans kc)
  replace E := Lib.hid hE
  clear hE kc
  have x10 := X.out.cell (i := 10) rfl
  have g10 := X.out.frozen 10 (by simp)
  have x11 := X.out.cell (i := 11) rfl
  have g11 := X.out.frozen 11 (by simp)
  have x12 := X.out.cell (i := 12) rfl
  have g12 := X.out.frozen 12 (by simp)
  have XF := Lib.hid ((((X.out.set 10 (.int .i64 u1)).set 11 (.int .i64 u2)).set 12 (.string u3)).cast (cs' := [.int .i64 3, .int .i64 t, .int .i64 v1, .int .i64 v2, .string v3, .int .i64 0, .int .i64 0, .string ⟨#[]⟩, .slice none 0 0, .int .i64 c, .int .i64 u1, .int .i64 u2, .string u3, .int .i64 0]) rfl)
  have YF := Lib.hid (((Y.out.set_ne ⟨g, 10, none⟩ (.int .i64 u1) (Ne.symm hy1)).set_ne ⟨g, 11, none⟩ (.int .i64 u2) (Ne.symm hy1)).set_ne ⟨g, 12, none⟩ (.string u3) (Ne.symm hy1))
  have EF := Lib.hid (((E.out.set_ne ⟨g, 10, none⟩ (.int .i64 u1) hb2).set_ne ⟨g, 11, none⟩ (.int .i64 u2) hb2).set_ne ⟨g, 12, none⟩ (.string u3) hb2)
  have CF := Lib.hid (chg_new (chg_new (chg_new C.out ((Chg.refl (One g) _).put 10 (.int .i64 u1)) HW.out) ((Chg.refl (One g) _).put 11 (.int .i64 u2)) HW.out) ((Chg.refl (One g) _).put 12 (.string u3)) HW.out)
  go_wp2_with (first | (refine load_row XF.out 90 Try.underlying90 rfl (by kernel_rfl) rfl rfl rfl ?_) | (refine store_row YF.out [.int .i64 3, .int .i64 t, .int .i64 v1, .int .i64 v2, .string v3, .int .i64 0, .int .i64 0, .string ⟨#[]⟩, .slice none 0 0, .int .i64 c, .int .i64 u1, .int .i64 u2, .string u3, .int .i64 0] 90 (by kernel_rfl) rfl (by simp [Value.oneCell']) rfl rfl rfl rfl ?_; intro w90 hR kc hsz2))
  have E9 := Lib.hid (EF.out.chg kc (fun e => hy2 (show b = w.heap.size from e).symm))
  have C9 := Lib.hid (chg_new CF.out kc (Nat.le_refl _))
  have R9 := Lib.hid hR
  clear hR kc hsz2
  exact ret_row R9.out Try.results156 Try.underlying90 rfl (by kernel_rfl) rfl rfl ⟨wres_none rfl rfl rfl, E9.out, C9.out⟩
set_option maxHeartbeats 8000000 in
theorem eye_5 (b : Nat) (s : St) (w : World) (h : Eye w b s) (hs : s.1.length ≤ 9223372036854774000) (s0 s1 : St) (t : Int) (z0 : ((eOne s).1 : Int) = 5) (q0 : (eOne s).2 = s0) (z1 : ((eOne s0).1 : Int) = t) (q1 : (eOne s0).2 = s1) (s3 s4 : St) (v1 v2 : Int) (v3 : ByteArray) (q3 : eVal s1 = (⟨v1, v2, v3⟩, s3)) (u1 u2 : Int) (u3 : ByteArray) (q4 : eVal s3 = (⟨u1, u2, u3⟩, s4)) : WReads b s w ⟨5, t, ⟨v1, v2, v3⟩, ⟨u1, u2, u3⟩, none, 0, [], 0, noV, 0⟩ s4 := by
  have hlt := h.lt
  unfold WReads
  have Y := Lib.hid (Row.new w 90 [.int .i64 0, .int .i64 0, .int .i64 0, .int .i64 0, .string ⟨#[]⟩, .int .i64 0, .int .i64 0, .string ⟨#[]⟩, .slice none 0 0, .int .i64 0, .int .i64 0, .int .i64 0, .string ⟨#[]⟩, .int .i64 0])
  have E := Lib.hid (h.alloc (.cells #[.int .i64 0, .int .i64 0, .int .i64 0, .int .i64 0, .string ⟨#[]⟩, .int .i64 0, .int .i64 0, .string ⟨#[]⟩, .slice none 0 0, .int .i64 0, .int .i64 0, .int .i64 0, .string ⟨#[]⟩, .int .i64 0] 90))
  have C := Lib.hid ((Chg.refl (One b) w).alloc (.cells #[.int .i64 0, .int .i64 0, .int .i64 0, .int .i64 0, .string ⟨#[]⟩, .int .i64 0, .int .i64 0, .string ⟨#[]⟩, .slice none 0 0, .int .i64 0, .int .i64 0, .int .i64 0, .string ⟨#[]⟩, .int .i64 0] 90))
  have r0 := eOne_rest s
  rw [q0] at r0
  have r1 := eOne_rest s0
  rw [q1] at r1
  have Z1 := Lib.hid z1
  have Q1 := Lib.hid q1
  have Q0 := Lib.hid q0
  have Z0 := Lib.hid z0
  clear q0 q1 z0 z1 h
  go_enter Try.func156, Try.ntmps156
  go_wp2_with fail
  refine (one_to Z0.out Q0.out _ E.out (by omega)).mono ?_
  rintro e w1 ⟨rfl, hE, kc⟩
  have hsz := Nat.le_trans C.out.size kc.size
  have hyl := (Y.out.chg kc (fun e => by have e : w.heap.size = b := e; omega)).lt
  replace Y := Lib.hid ((Y.out.chg kc (fun e => by have e : w.heap.size = b := e; omega)).alloc (.cells #[.int .i64 0, .int .i64 0, .int .i64 0, .int .i64 0, .string ⟨#[]⟩, .int .i64 0, .int .i64 0, .string ⟨#[]⟩, .slice none 0 0, .int .i64 0, .int .i64 0, .int .i64 0, .string ⟨#[]⟩, .int .i64 0] 90))
  replace C := Lib.hid ((C.out.trans kc).alloc (.cells #[.int .i64 0, .int .i64 0, .int .i64 0, .int .i64 0, .string ⟨#[]⟩, .int .i64 0, .int .i64 0, .string ⟨#[]⟩, .slice none 0 0, .int .i64 0, .int .i64 0, .int .i64 0, .string ⟨#[]⟩, .int .i64 0] 90))
  replace E := Lib.hid (hE.alloc (.cells #[.int .i64 0, .int .i64 0, .int .i64 0, .int .i64 0, .string ⟨#[]⟩, .int .i64 0, .int .i64 0, .string ⟨#[]⟩, .slice none 0 0, .int .i64 0, .int .i64 0, .int .i64 0, .string ⟨#[]⟩, .int .i64 0] 90))
  have X := Lib.hid (Row.new w1 90 [.int .i64 0, .int .i64 0, .int .i64 0, .int .i64 0, .string ⟨#[]⟩, .int .i64 0, .int .i64 0, .string ⟨#[]⟩, .slice none 0 0, .int .i64 0, .int .i64 0, .int .i64 0, .string ⟨#[]⟩, .int .i64 0])
  have hb1 : b ≠ w1.heap.size := by omega
  have hb2 : w1.heap.size ≠ b := by omega
  have hy1 : w.heap.size ≠ w1.heap.size := by omega
  have hy2 : w.heap.size ≠ b := by omega
  clear hE kc
  go_wp2_with (refine store_row X.out [.int .i64 5, .int .i64 0, .int .i64 0, .int .i64 0, .string ⟨#[]⟩, .int .i64 0, .int .i64 0, .string ⟨#[]⟩, .slice none 0 0, .int .i64 0, .int .i64 0, .int .i64 0, .string ⟨#[]⟩, .int .i64 0] 90 (by kernel_rfl) rfl (by simp [Value.oneCell']) rfl rfl rfl rfl ?_; intro w2 hz kz zz; replace E := Lib.hid (E.out.chg kz hb1); replace Y := Lib.hid (Y.out.chg kz hy1); replace C := Lib.hid (chg_new C.out kz (by omega)); replace X := Lib.hid hz; clear hz kz zz)
  have HW := Lib.hid (show w.heap.size ≤ w1.heap.size from by omega)
  generalize w1.heap.size = g at *
  refine (one_to Z1.out Q1.out _ E.out (by omega)).mono ?_
  rintro e w3 ⟨rfl, hE, kc⟩
  replace X := Lib.hid (X.out.chg kc hb2)
  replace Y := Lib.hid (Y.out.chg kc hy2)
  replace C := Lib.hid (C.out.trans kc)
  replace E := Lib.hid hE
  clear hE kc
  have r3 := eVal_rest s1
  rw [q3] at r3
  simp only at r3
  have Q3 := Lib.hid q3
  have Q4 := Lib.hid q4
  clear q3 q4
  have x1 := X.out.cell (i := 1) rfl
  have g1 := X.out.frozen 1 (by simp)
  have x0 := X.out.cell (i := 0) rfl
  go_wp2_with fail
  replace X := Lib.hid ((X.out.set 1 (.int .i64 t)).cast (cs' := [.int .i64 5, .int .i64 t, .int .i64 0, .int .i64 0, .string ⟨#[]⟩, .int .i64 0, .int .i64 0, .string ⟨#[]⟩, .slice none 0 0, .int .i64 0, .int .i64 0, .int .i64 0, .string ⟨#[]⟩, .int .i64 0]) rfl)
  replace Y := Lib.hid (Y.out.set_ne ⟨g, 1, none⟩ (.int .i64 t) (Ne.symm hy1))
  replace E := Lib.hid (E.out.set_ne ⟨g, 1, none⟩ (.int .i64 t) hb2)
  replace C := Lib.hid (chg_new C.out ((Chg.refl (One g) _).put 1 (.int .i64 t)) HW.out)
  clear x1 g1 x0
  refine (value_to Q3.out _ E.out (by omega)).mono ?_
  rintro e w4 ⟨rfl, hE, kc⟩
  replace X := Lib.hid (X.out.chg kc hb2)
  replace Y := Lib.hid (Y.out.chg kc hy2)
  replace C := Lib.hid (C.out.trans kc)
  replace E := Lib.hid hE
  clear hE kc
  have x2 := X.out.cell (i := 2) rfl
  have g2 := X.out.frozen 2 (by simp)
  have x3 := X.out.cell (i := 3) rfl
  have g3 := X.out.frozen 3 (by simp)
  have x4 := X.out.cell (i := 4) rfl
  have g4 := X.out.frozen 4 (by simp)
  go_wp2_with fail
  replace X := Lib.hid ((((X.out.set 2 (.int .i64 v1)).set 3 (.int .i64 v2)).set 4 (.string v3)).cast (cs' := [.int .i64 5, .int .i64 t, .int .i64 v1, .int .i64 v2, .string v3, .int .i64 0, .int .i64 0, .string ⟨#[]⟩, .slice none 0 0, .int .i64 0, .int .i64 0, .int .i64 0, .string ⟨#[]⟩, .int .i64 0]) rfl)
  replace Y := Lib.hid (((Y.out.set_ne ⟨g, 2, none⟩ (.int .i64 v1) (Ne.symm hy1)).set_ne ⟨g, 3, none⟩ (.int .i64 v2) (Ne.symm hy1)).set_ne ⟨g, 4, none⟩ (.string v3) (Ne.symm hy1))
  replace E := Lib.hid (((E.out.set_ne ⟨g, 2, none⟩ (.int .i64 v1) hb2).set_ne ⟨g, 3, none⟩ (.int .i64 v2) hb2).set_ne ⟨g, 4, none⟩ (.string v3) hb2)
  replace C := Lib.hid (chg_new (chg_new (chg_new C.out ((Chg.refl (One g) _).put 2 (.int .i64 v1)) HW.out) ((Chg.refl (One g) _).put 3 (.int .i64 v2)) HW.out) ((Chg.refl (One g) _).put 4 (.string v3)) HW.out)
  clear x2 x3 x4 g2 g3 g4
  refine (value_to Q4.out _ E.out (by omega)).mono ?_
  rintro e w5 ⟨rfl, hE, kc⟩
  replace X := Lib.hid (X.out.chg kc hb2)
  replace Y := Lib.hid (Y.out.chg kc hy2)
  replace C := Lib.hid (C.out.trans kc)
  replace E := Lib.hid hE
  clear hE kc
  have x5 := X.out.cell (i := 5) rfl
  have g5 := X.out.frozen 5 (by simp)
  have x6 := X.out.cell (i := 6) rfl
  have g6 := X.out.frozen 6 (by simp)
  have x7 := X.out.cell (i := 7) rfl
  have g7 := X.out.frozen 7 (by simp)
  have XF := Lib.hid ((((X.out.set 5 (.int .i64 u1)).set 6 (.int .i64 u2)).set 7 (.string u3)).cast (cs' := [.int .i64 5, .int .i64 t, .int .i64 v1, .int .i64 v2, .string v3, .int .i64 u1, .int .i64 u2, .string u3, .slice none 0 0, .int .i64 0, .int .i64 0, .int .i64 0, .string ⟨#[]⟩, .int .i64 0]) rfl)
  have YF := Lib.hid (((Y.out.set_ne ⟨g, 5, none⟩ (.int .i64 u1) (Ne.symm hy1)).set_ne ⟨g, 6, none⟩ (.int .i64 u2) (Ne.symm hy1)).set_ne ⟨g, 7, none⟩ (.string u3) (Ne.symm hy1))
  have EF := Lib.hid (((E.out.set_ne ⟨g, 5, none⟩ (.int .i64 u1) hb2).set_ne ⟨g, 6, none⟩ (.int .i64 u2) hb2).set_ne ⟨g, 7, none⟩ (.string u3) hb2)
  have CF := Lib.hid (chg_new (chg_new (chg_new C.out ((Chg.refl (One g) _).put 5 (.int .i64 u1)) HW.out) ((Chg.refl (One g) _).put 6 (.int .i64 u2)) HW.out) ((Chg.refl (One g) _).put 7 (.string u3)) HW.out)
  go_wp2_with (first | (refine load_row XF.out 90 Try.underlying90 rfl (by kernel_rfl) rfl rfl rfl ?_) | (refine store_row YF.out [.int .i64 5, .int .i64 t, .int .i64 v1, .int .i64 v2, .string v3, .int .i64 u1, .int .i64 u2, .string u3, .slice none 0 0, .int .i64 0, .int .i64 0, .int .i64 0, .string ⟨#[]⟩, .int .i64 0] 90 (by kernel_rfl) rfl (by simp [Value.oneCell']) rfl rfl rfl rfl ?_; intro w90 hR kc hsz2))
  have E9 := Lib.hid (EF.out.chg kc (fun e => hy2 (show b = w.heap.size from e).symm))
  have C9 := Lib.hid (chg_new CF.out kc (Nat.le_refl _))
  have R9 := Lib.hid hR
  clear hR kc hsz2
  exact ret_row R9.out Try.results156 Try.underlying90 rfl (by kernel_rfl) rfl rfl ⟨wres_none rfl rfl rfl, E9.out, C9.out⟩
set_option maxHeartbeats 8000000 in
theorem eye_7 (b : Nat) (s : St) (w : World) (h : Eye w b s) (hs : s.1.length ≤ 9223372036854774000) (s0 s1 : St) (t : Int) (z0 : ((eOne s).1 : Int) = 7) (q0 : (eOne s).2 = s0) (z1 : ((eOne s0).1 : Int) = t) (q1 : (eOne s0).2 = s1) (s3 s4 : St) (v1 v2 : Int) (v3 : ByteArray) (q3 : eVal s1 = (⟨v1, v2, v3⟩, s3)) (u1 u2 : Int) (u3 : ByteArray) (q4 : eVal s3 = (⟨u1, u2, u3⟩, s4)) : WReads b s w ⟨7, t, ⟨v1, v2, v3⟩, ⟨u1, u2, u3⟩, none, 0, [], 0, noV, 0⟩ s4 := by
  have hlt := h.lt
  unfold WReads
  have Y := Lib.hid (Row.new w 90 [.int .i64 0, .int .i64 0, .int .i64 0, .int .i64 0, .string ⟨#[]⟩, .int .i64 0, .int .i64 0, .string ⟨#[]⟩, .slice none 0 0, .int .i64 0, .int .i64 0, .int .i64 0, .string ⟨#[]⟩, .int .i64 0])
  have E := Lib.hid (h.alloc (.cells #[.int .i64 0, .int .i64 0, .int .i64 0, .int .i64 0, .string ⟨#[]⟩, .int .i64 0, .int .i64 0, .string ⟨#[]⟩, .slice none 0 0, .int .i64 0, .int .i64 0, .int .i64 0, .string ⟨#[]⟩, .int .i64 0] 90))
  have C := Lib.hid ((Chg.refl (One b) w).alloc (.cells #[.int .i64 0, .int .i64 0, .int .i64 0, .int .i64 0, .string ⟨#[]⟩, .int .i64 0, .int .i64 0, .string ⟨#[]⟩, .slice none 0 0, .int .i64 0, .int .i64 0, .int .i64 0, .string ⟨#[]⟩, .int .i64 0] 90))
  have r0 := eOne_rest s
  rw [q0] at r0
  have r1 := eOne_rest s0
  rw [q1] at r1
  have Z1 := Lib.hid z1
  have Q1 := Lib.hid q1
  have Q0 := Lib.hid q0
  have Z0 := Lib.hid z0
  clear q0 q1 z0 z1 h
  go_enter Try.func156, Try.ntmps156
  go_wp2_with fail
  refine (one_to Z0.out Q0.out _ E.out (by omega)).mono ?_
  rintro e w1 ⟨rfl, hE, kc⟩
  have hsz := Nat.le_trans C.out.size kc.size
  have hyl := (Y.out.chg kc (fun e => by have e : w.heap.size = b := e; omega)).lt
  replace Y := Lib.hid ((Y.out.chg kc (fun e => by have e : w.heap.size = b := e; omega)).alloc (.cells #[.int .i64 0, .int .i64 0, .int .i64 0, .int .i64 0, .string ⟨#[]⟩, .int .i64 0, .int .i64 0, .string ⟨#[]⟩, .slice none 0 0, .int .i64 0, .int .i64 0, .int .i64 0, .string ⟨#[]⟩, .int .i64 0] 90))
  replace C := Lib.hid ((C.out.trans kc).alloc (.cells #[.int .i64 0, .int .i64 0, .int .i64 0, .int .i64 0, .string ⟨#[]⟩, .int .i64 0, .int .i64 0, .string ⟨#[]⟩, .slice none 0 0, .int .i64 0, .int .i64 0, .int .i64 0, .string ⟨#[]⟩, .int .i64 0] 90))
  replace E := Lib.hid (hE.alloc (.cells #[.int .i64 0, .int .i64 0, .int .i64 0, .int .i64 0, .string ⟨#[]⟩, .int .i64 0, .int .i64 0, .string ⟨#[]⟩, .slice none 0 0, .int .i64 0, .int .i64 0, .int .i64 0, .string ⟨#[]⟩, .int .i64 0] 90))
  have X := Lib.hid (Row.new w1 90 [.int .i64 0, .int .i64 0, .int .i64 0, .int .i64 0, .string ⟨#[]⟩, .int .i64 0, .int .i64 0, .string ⟨#[]⟩, .slice none 0 0, .int .i64 0, .int .i64 0, .int .i64 0, .string ⟨#[]⟩, .int .i64 0])
  have hb1 : b ≠ w1.heap.size := by omega
  have hb2 : w1.heap.size ≠ b := by omega
  have hy1 : w.heap.size ≠ w1.heap.size := by omega
  have hy2 : w.heap.size ≠ b := by omega
  clear hE kc
  go_wp2_with (refine store_row X.out [.int .i64 7, .int .i64 0, .int .i64 0, .int .i64 0, .string ⟨#[]⟩, .int .i64 0, .int .i64 0, .string ⟨#[]⟩, .slice none 0 0, .int .i64 0, .int .i64 0, .int .i64 0, .string ⟨#[]⟩, .int .i64 0] 90 (by kernel_rfl) rfl (by simp [Value.oneCell']) rfl rfl rfl rfl ?_; intro w2 hz kz zz; replace E := Lib.hid (E.out.chg kz hb1); replace Y := Lib.hid (Y.out.chg kz hy1); replace C := Lib.hid (chg_new C.out kz (by omega)); replace X := Lib.hid hz; clear hz kz zz)
  have HW := Lib.hid (show w.heap.size ≤ w1.heap.size from by omega)
  generalize w1.heap.size = g at *
  refine (one_to Z1.out Q1.out _ E.out (by omega)).mono ?_
  rintro e w3 ⟨rfl, hE, kc⟩
  replace X := Lib.hid (X.out.chg kc hb2)
  replace Y := Lib.hid (Y.out.chg kc hy2)
  replace C := Lib.hid (C.out.trans kc)
  replace E := Lib.hid hE
  clear hE kc
  have r3 := eVal_rest s1
  rw [q3] at r3
  simp only at r3
  have Q3 := Lib.hid q3
  have Q4 := Lib.hid q4
  clear q3 q4
  have x1 := X.out.cell (i := 1) rfl
  have g1 := X.out.frozen 1 (by simp)
  have x0 := X.out.cell (i := 0) rfl
  go_wp2_with fail
  replace X := Lib.hid ((X.out.set 1 (.int .i64 t)).cast (cs' := [.int .i64 7, .int .i64 t, .int .i64 0, .int .i64 0, .string ⟨#[]⟩, .int .i64 0, .int .i64 0, .string ⟨#[]⟩, .slice none 0 0, .int .i64 0, .int .i64 0, .int .i64 0, .string ⟨#[]⟩, .int .i64 0]) rfl)
  replace Y := Lib.hid (Y.out.set_ne ⟨g, 1, none⟩ (.int .i64 t) (Ne.symm hy1))
  replace E := Lib.hid (E.out.set_ne ⟨g, 1, none⟩ (.int .i64 t) hb2)
  replace C := Lib.hid (chg_new C.out ((Chg.refl (One g) _).put 1 (.int .i64 t)) HW.out)
  clear x1 g1 x0
  refine (value_to Q3.out _ E.out (by omega)).mono ?_
  rintro e w4 ⟨rfl, hE, kc⟩
  replace X := Lib.hid (X.out.chg kc hb2)
  replace Y := Lib.hid (Y.out.chg kc hy2)
  replace C := Lib.hid (C.out.trans kc)
  replace E := Lib.hid hE
  clear hE kc
  have x2 := X.out.cell (i := 2) rfl
  have g2 := X.out.frozen 2 (by simp)
  have x3 := X.out.cell (i := 3) rfl
  have g3 := X.out.frozen 3 (by simp)
  have x4 := X.out.cell (i := 4) rfl
  have g4 := X.out.frozen 4 (by simp)
  go_wp2_with fail
  replace X := Lib.hid ((((X.out.set 2 (.int .i64 v1)).set 3 (.int .i64 v2)).set 4 (.string v3)).cast (cs' := [.int .i64 7, .int .i64 t, .int .i64 v1, .int .i64 v2, .string v3, .int .i64 0, .int .i64 0, .string ⟨#[]⟩, .slice none 0 0, .int .i64 0, .int .i64 0, .int .i64 0, .string ⟨#[]⟩, .int .i64 0]) rfl)
  replace Y := Lib.hid (((Y.out.set_ne ⟨g, 2, none⟩ (.int .i64 v1) (Ne.symm hy1)).set_ne ⟨g, 3, none⟩ (.int .i64 v2) (Ne.symm hy1)).set_ne ⟨g, 4, none⟩ (.string v3) (Ne.symm hy1))
  replace E := Lib.hid (((E.out.set_ne ⟨g, 2, none⟩ (.int .i64 v1) hb2).set_ne ⟨g, 3, none⟩ (.int .i64 v2) hb2).set_ne ⟨g, 4, none⟩ (.string v3) hb2)
  replace C := Lib.hid (chg_new (chg_new (chg_new C.out ((Chg.refl (One g) _).put 2 (.int .i64 v1)) HW.out) ((Chg.refl (One g) _).put 3 (.int .i64 v2)) HW.out) ((Chg.refl (One g) _).put 4 (.string v3)) HW.out)
  clear x2 x3 x4 g2 g3 g4
  refine (value_to Q4.out _ E.out (by omega)).mono ?_
  rintro e w5 ⟨rfl, hE, kc⟩
  replace X := Lib.hid (X.out.chg kc hb2)
  replace Y := Lib.hid (Y.out.chg kc hy2)
  replace C := Lib.hid (C.out.trans kc)
  replace E := Lib.hid hE
  clear hE kc
  have x5 := X.out.cell (i := 5) rfl
  have g5 := X.out.frozen 5 (by simp)
  have x6 := X.out.cell (i := 6) rfl
  have g6 := X.out.frozen 6 (by simp)
  have x7 := X.out.cell (i := 7) rfl
  have g7 := X.out.frozen 7 (by simp)
  have XF := Lib.hid ((((X.out.set 5 (.int .i64 u1)).set 6 (.int .i64 u2)).set 7 (.string u3)).cast (cs' := [.int .i64 7, .int .i64 t, .int .i64 v1, .int .i64 v2, .string v3, .int .i64 u1, .int .i64 u2, .string u3, .slice none 0 0, .int .i64 0, .int .i64 0, .int .i64 0, .string ⟨#[]⟩, .int .i64 0]) rfl)
  have YF := Lib.hid (((Y.out.set_ne ⟨g, 5, none⟩ (.int .i64 u1) (Ne.symm hy1)).set_ne ⟨g, 6, none⟩ (.int .i64 u2) (Ne.symm hy1)).set_ne ⟨g, 7, none⟩ (.string u3) (Ne.symm hy1))
  have EF := Lib.hid (((E.out.set_ne ⟨g, 5, none⟩ (.int .i64 u1) hb2).set_ne ⟨g, 6, none⟩ (.int .i64 u2) hb2).set_ne ⟨g, 7, none⟩ (.string u3) hb2)
  have CF := Lib.hid (chg_new (chg_new (chg_new C.out ((Chg.refl (One g) _).put 5 (.int .i64 u1)) HW.out) ((Chg.refl (One g) _).put 6 (.int .i64 u2)) HW.out) ((Chg.refl (One g) _).put 7 (.string u3)) HW.out)
  go_wp2_with (first | (refine load_row XF.out 90 Try.underlying90 rfl (by kernel_rfl) rfl rfl rfl ?_) | (refine store_row YF.out [.int .i64 7, .int .i64 t, .int .i64 v1, .int .i64 v2, .string v3, .int .i64 u1, .int .i64 u2, .string u3, .slice none 0 0, .int .i64 0, .int .i64 0, .int .i64 0, .string ⟨#[]⟩, .int .i64 0] 90 (by kernel_rfl) rfl (by simp [Value.oneCell']) rfl rfl rfl rfl ?_; intro w90 hR kc hsz2))
  have E9 := Lib.hid (EF.out.chg kc (fun e => hy2 (show b = w.heap.size from e).symm))
  have C9 := Lib.hid (chg_new CF.out kc (Nat.le_refl _))
  have R9 := Lib.hid hR
  clear hR kc hsz2
  exact ret_row R9.out Try.results156 Try.underlying90 rfl (by kernel_rfl) rfl rfl ⟨wres_none rfl rfl rfl, E9.out, C9.out⟩
set_option maxHeartbeats 8000000 in
theorem eye_9 (b : Nat) (s : St) (w : World) (h : Eye w b s) (hs : s.1.length ≤ 9223372036854774000) (s0 s1 : St) (t : Int) (z0 : ((eOne s).1 : Int) = 9) (q0 : (eOne s).2 = s0) (z1 : ((eOne s0).1 : Int) = t) (q1 : (eOne s0).2 = s1) (s3 : St) (n : Int) (z3 : ((eOne s1).1 : Int) = n) (q3 : (eOne s1).2 = s3) : WReads b s w ⟨9, t, noV, noV, none, 0, [], 0, noV, n⟩ s3 := by
  have hlt := h.lt
  unfold WReads
  have Y := Lib.hid (Row.new w 90 [.int .i64 0, .int .i64 0, .int .i64 0, .int .i64 0, .string ⟨#[]⟩, .int .i64 0, .int .i64 0, .string ⟨#[]⟩, .slice none 0 0, .int .i64 0, .int .i64 0, .int .i64 0, .string ⟨#[]⟩, .int .i64 0])
  have E := Lib.hid (h.alloc (.cells #[.int .i64 0, .int .i64 0, .int .i64 0, .int .i64 0, .string ⟨#[]⟩, .int .i64 0, .int .i64 0, .string ⟨#[]⟩, .slice none 0 0, .int .i64 0, .int .i64 0, .int .i64 0, .string ⟨#[]⟩, .int .i64 0] 90))
  have C := Lib.hid ((Chg.refl (One b) w).alloc (.cells #[.int .i64 0, .int .i64 0, .int .i64 0, .int .i64 0, .string ⟨#[]⟩, .int .i64 0, .int .i64 0, .string ⟨#[]⟩, .slice none 0 0, .int .i64 0, .int .i64 0, .int .i64 0, .string ⟨#[]⟩, .int .i64 0] 90))
  have r0 := eOne_rest s
  rw [q0] at r0
  have r1 := eOne_rest s0
  rw [q1] at r1
  have Z1 := Lib.hid z1
  have Q1 := Lib.hid q1
  have Q0 := Lib.hid q0
  have Z0 := Lib.hid z0
  clear q0 q1 z0 z1 h
  go_enter Try.func156, Try.ntmps156
  go_wp2_with fail
  refine (one_to Z0.out Q0.out _ E.out (by omega)).mono ?_
  rintro e w1 ⟨rfl, hE, kc⟩
  have hsz := Nat.le_trans C.out.size kc.size
  have hyl := (Y.out.chg kc (fun e => by have e : w.heap.size = b := e; omega)).lt
  replace Y := Lib.hid ((Y.out.chg kc (fun e => by have e : w.heap.size = b := e; omega)).alloc (.cells #[.int .i64 0, .int .i64 0, .int .i64 0, .int .i64 0, .string ⟨#[]⟩, .int .i64 0, .int .i64 0, .string ⟨#[]⟩, .slice none 0 0, .int .i64 0, .int .i64 0, .int .i64 0, .string ⟨#[]⟩, .int .i64 0] 90))
  replace C := Lib.hid ((C.out.trans kc).alloc (.cells #[.int .i64 0, .int .i64 0, .int .i64 0, .int .i64 0, .string ⟨#[]⟩, .int .i64 0, .int .i64 0, .string ⟨#[]⟩, .slice none 0 0, .int .i64 0, .int .i64 0, .int .i64 0, .string ⟨#[]⟩, .int .i64 0] 90))
  replace E := Lib.hid (hE.alloc (.cells #[.int .i64 0, .int .i64 0, .int .i64 0, .int .i64 0, .string ⟨#[]⟩, .int .i64 0, .int .i64 0, .string ⟨#[]⟩, .slice none 0 0, .int .i64 0, .int .i64 0, .int .i64 0, .string ⟨#[]⟩, .int .i64 0] 90))
  have X := Lib.hid (Row.new w1 90 [.int .i64 0, .int .i64 0, .int .i64 0, .int .i64 0, .string ⟨#[]⟩, .int .i64 0, .int .i64 0, .string ⟨#[]⟩, .slice none 0 0, .int .i64 0, .int .i64 0, .int .i64 0, .string ⟨#[]⟩, .int .i64 0])
  have hb1 : b ≠ w1.heap.size := by omega
  have hb2 : w1.heap.size ≠ b := by omega
  have hy1 : w.heap.size ≠ w1.heap.size := by omega
  have hy2 : w.heap.size ≠ b := by omega
  clear hE kc
  go_wp2_with (refine store_row X.out [.int .i64 9, .int .i64 0, .int .i64 0, .int .i64 0, .string ⟨#[]⟩, .int .i64 0, .int .i64 0, .string ⟨#[]⟩, .slice none 0 0, .int .i64 0, .int .i64 0, .int .i64 0, .string ⟨#[]⟩, .int .i64 0] 90 (by kernel_rfl) rfl (by simp [Value.oneCell']) rfl rfl rfl rfl ?_; intro w2 hz kz zz; replace E := Lib.hid (E.out.chg kz hb1); replace Y := Lib.hid (Y.out.chg kz hy1); replace C := Lib.hid (chg_new C.out kz (by omega)); replace X := Lib.hid hz; clear hz kz zz)
  have HW := Lib.hid (show w.heap.size ≤ w1.heap.size from by omega)
  generalize w1.heap.size = g at *
  refine (one_to Z1.out Q1.out _ E.out (by omega)).mono ?_
  rintro e w3 ⟨rfl, hE, kc⟩
  replace X := Lib.hid (X.out.chg kc hb2)
  replace Y := Lib.hid (Y.out.chg kc hy2)
  replace C := Lib.hid (C.out.trans kc)
  replace E := Lib.hid hE
  clear hE kc
  have Q3 := Lib.hid q3
  have Z3 := Lib.hid z3
  clear q3 z3
  have x1 := X.out.cell (i := 1) rfl
  have g1 := X.out.frozen 1 (by simp)
  have x0 := X.out.cell (i := 0) rfl
  go_wp2_with fail
  replace X := Lib.hid ((X.out.set 1 (.int .i64 t)).cast (cs' := [.int .i64 9, .int .i64 t, .int .i64 0, .int .i64 0, .string ⟨#[]⟩, .int .i64 0, .int .i64 0, .string ⟨#[]⟩, .slice none 0 0, .int .i64 0, .int .i64 0, .int .i64 0, .string ⟨#[]⟩, .int .i64 0]) rfl)
  replace Y := Lib.hid (Y.out.set_ne ⟨g, 1, none⟩ (.int .i64 t) (Ne.symm hy1))
  replace E := Lib.hid (E.out.set_ne ⟨g, 1, none⟩ (.int .i64 t) hb2)
  replace C := Lib.hid (chg_new C.out ((Chg.refl (One g) _).put 1 (.int .i64 t)) HW.out)
  clear x1 g1 x0
  refine (one_to Z3.out Q3.out _ E.out (by omega)).mono ?_
  rintro e w4 ⟨rfl, hE, kc⟩
  replace X := Lib.hid (X.out.chg kc hb2)
  replace Y := Lib.hid (Y.out.chg kc hy2)
  replace C := Lib.hid (C.out.trans kc)
  replace E := Lib.hid hE
  clear hE kc
  have x13 := X.out.cell (i := 13) rfl
  have g13 := X.out.frozen 13 (by simp)
  have XF := Lib.hid ((X.out.set 13 (.int .i64 n)).cast (cs' := [.int .i64 9, .int .i64 t, .int .i64 0, .int .i64 0, .string ⟨#[]⟩, .int .i64 0, .int .i64 0, .string ⟨#[]⟩, .slice none 0 0, .int .i64 0, .int .i64 0, .int .i64 0, .string ⟨#[]⟩, .int .i64 n]) rfl)
  have YF := Lib.hid (Y.out.set_ne ⟨g, 13, none⟩ (.int .i64 n) (Ne.symm hy1))
  have EF := Lib.hid (E.out.set_ne ⟨g, 13, none⟩ (.int .i64 n) hb2)
  have CF := Lib.hid (chg_new C.out ((Chg.refl (One g) _).put 13 (.int .i64 n)) HW.out)
  go_wp2_with (first | (refine load_row XF.out 90 Try.underlying90 rfl (by kernel_rfl) rfl rfl rfl ?_) | (refine store_row YF.out [.int .i64 9, .int .i64 t, .int .i64 0, .int .i64 0, .string ⟨#[]⟩, .int .i64 0, .int .i64 0, .string ⟨#[]⟩, .slice none 0 0, .int .i64 0, .int .i64 0, .int .i64 0, .string ⟨#[]⟩, .int .i64 n] 90 (by kernel_rfl) rfl (by simp [Value.oneCell']) rfl rfl rfl rfl ?_; intro w90 hR kc hsz2))
  have E9 := Lib.hid (EF.out.chg kc (fun e => hy2 (show b = w.heap.size from e).symm))
  have C9 := Lib.hid (chg_new CF.out kc (Nat.le_refl _))
  have R9 := Lib.hid hR
  clear hR kc hsz2
  exact ret_row R9.out Try.results156 Try.underlying90 rfl (by kernel_rfl) rfl rfl ⟨wres_none rfl rfl rfl, E9.out, C9.out⟩
set_option maxHeartbeats 8000000 in
theorem eye_10 (b : Nat) (s : St) (w : World) (h : Eye w b s) (hs : s.1.length ≤ 9223372036854774000) (s0 s1 : St) (t : Int) (z0 : ((eOne s).1 : Int) = 10) (q0 : (eOne s).2 = s0) (z1 : ((eOne s0).1 : Int) = t) (q1 : (eOne s0).2 = s1) (s3 : St) (n : Int) (z3 : ((eOne s1).1 : Int) = n) (q3 : (eOne s1).2 = s3) : WReads b s w ⟨10, t, noV, noV, none, 0, [], 0, noV, n⟩ s3 := by
  have hlt := h.lt
  unfold WReads
  have Y := Lib.hid (Row.new w 90 [.int .i64 0, .int .i64 0, .int .i64 0, .int .i64 0, .string ⟨#[]⟩, .int .i64 0, .int .i64 0, .string ⟨#[]⟩, .slice none 0 0, .int .i64 0, .int .i64 0, .int .i64 0, .string ⟨#[]⟩, .int .i64 0])
  have E := Lib.hid (h.alloc (.cells #[.int .i64 0, .int .i64 0, .int .i64 0, .int .i64 0, .string ⟨#[]⟩, .int .i64 0, .int .i64 0, .string ⟨#[]⟩, .slice none 0 0, .int .i64 0, .int .i64 0, .int .i64 0, .string ⟨#[]⟩, .int .i64 0] 90))
  have C := Lib.hid ((Chg.refl (One b) w).alloc (.cells #[.int .i64 0, .int .i64 0, .int .i64 0, .int .i64 0, .string ⟨#[]⟩, .int .i64 0, .int .i64 0, .string ⟨#[]⟩, .slice none 0 0, .int .i64 0, .int .i64 0, .int .i64 0, .string ⟨#[]⟩, .int .i64 0] 90))
  have r0 := eOne_rest s
  rw [q0] at r0
  have r1 := eOne_rest s0
  rw [q1] at r1
  have Z1 := Lib.hid z1
  have Q1 := Lib.hid q1
  have Q0 := Lib.hid q0
  have Z0 := Lib.hid z0
  clear q0 q1 z0 z1 h
  go_enter Try.func156, Try.ntmps156
  go_wp2_with fail
  refine (one_to Z0.out Q0.out _ E.out (by omega)).mono ?_
  rintro e w1 ⟨rfl, hE, kc⟩
  have hsz := Nat.le_trans C.out.size kc.size
  have hyl := (Y.out.chg kc (fun e => by have e : w.heap.size = b := e; omega)).lt
  replace Y := Lib.hid ((Y.out.chg kc (fun e => by have e : w.heap.size = b := e; omega)).alloc (.cells #[.int .i64 0, .int .i64 0, .int .i64 0, .int .i64 0, .string ⟨#[]⟩, .int .i64 0, .int .i64 0, .string ⟨#[]⟩, .slice none 0 0, .int .i64 0, .int .i64 0, .int .i64 0, .string ⟨#[]⟩, .int .i64 0] 90))
  replace C := Lib.hid ((C.out.trans kc).alloc (.cells #[.int .i64 0, .int .i64 0, .int .i64 0, .int .i64 0, .string ⟨#[]⟩, .int .i64 0, .int .i64 0, .string ⟨#[]⟩, .slice none 0 0, .int .i64 0, .int .i64 0, .int .i64 0, .string ⟨#[]⟩, .int .i64 0] 90))
  replace E := Lib.hid (hE.alloc (.cells #[.int .i64 0, .int .i64 0, .int .i64 0, .int .i64 0, .string ⟨#[]⟩, .int .i64 0, .int .i64 0, .string ⟨#[]⟩, .slice none 0 0, .int .i64 0, .int .i64 0, .int .i64 0, .string ⟨#[]⟩, .int .i64 0] 90))
  have X := Lib.hid (Row.new w1 90 [.int .i64 0, .int .i64 0, .int .i64 0, .int .i64 0, .string ⟨#[]⟩, .int .i64 0, .int .i64 0, .string ⟨#[]⟩, .slice none 0 0, .int .i64 0, .int .i64 0, .int .i64 0, .string ⟨#[]⟩, .int .i64 0])
  have hb1 : b ≠ w1.heap.size := by omega
  have hb2 : w1.heap.size ≠ b := by omega
  have hy1 : w.heap.size ≠ w1.heap.size := by omega
  have hy2 : w.heap.size ≠ b := by omega
  clear hE kc
  go_wp2_with (refine store_row X.out [.int .i64 10, .int .i64 0, .int .i64 0, .int .i64 0, .string ⟨#[]⟩, .int .i64 0, .int .i64 0, .string ⟨#[]⟩, .slice none 0 0, .int .i64 0, .int .i64 0, .int .i64 0, .string ⟨#[]⟩, .int .i64 0] 90 (by kernel_rfl) rfl (by simp [Value.oneCell']) rfl rfl rfl rfl ?_; intro w2 hz kz zz; replace E := Lib.hid (E.out.chg kz hb1); replace Y := Lib.hid (Y.out.chg kz hy1); replace C := Lib.hid (chg_new C.out kz (by omega)); replace X := Lib.hid hz; clear hz kz zz)
  have HW := Lib.hid (show w.heap.size ≤ w1.heap.size from by omega)
  generalize w1.heap.size = g at *
  refine (one_to Z1.out Q1.out _ E.out (by omega)).mono ?_
  rintro e w3 ⟨rfl, hE, kc⟩
  replace X := Lib.hid (X.out.chg kc hb2)
  replace Y := Lib.hid (Y.out.chg kc hy2)
  replace C := Lib.hid (C.out.trans kc)
  replace E := Lib.hid hE
  clear hE kc
  have Q3 := Lib.hid q3
  have Z3 := Lib.hid z3
  clear q3 z3
  have x1 := X.out.cell (i := 1) rfl
  have g1 := X.out.frozen 1 (by simp)
  have x0 := X.out.cell (i := 0) rfl
  go_wp2_with fail
  replace X := Lib.hid ((X.out.set 1 (.int .i64 t)).cast (cs' := [.int .i64 10, .int .i64 t, .int .i64 0, .int .i64 0, .string ⟨#[]⟩, .int .i64 0, .int .i64 0, .string ⟨#[]⟩, .slice none 0 0, .int .i64 0, .int .i64 0, .int .i64 0, .string ⟨#[]⟩, .int .i64 0]) rfl)
  replace Y := Lib.hid (Y.out.set_ne ⟨g, 1, none⟩ (.int .i64 t) (Ne.symm hy1))
  replace E := Lib.hid (E.out.set_ne ⟨g, 1, none⟩ (.int .i64 t) hb2)
  replace C := Lib.hid (chg_new C.out ((Chg.refl (One g) _).put 1 (.int .i64 t)) HW.out)
  clear x1 g1 x0
  refine (one_to Z3.out Q3.out _ E.out (by omega)).mono ?_
  rintro e w4 ⟨rfl, hE, kc⟩
  replace X := Lib.hid (X.out.chg kc hb2)
  replace Y := Lib.hid (Y.out.chg kc hy2)
  replace C := Lib.hid (C.out.trans kc)
  replace E := Lib.hid hE
  clear hE kc
  have x13 := X.out.cell (i := 13) rfl
  have g13 := X.out.frozen 13 (by simp)
  have XF := Lib.hid ((X.out.set 13 (.int .i64 n)).cast (cs' := [.int .i64 10, .int .i64 t, .int .i64 0, .int .i64 0, .string ⟨#[]⟩, .int .i64 0, .int .i64 0, .string ⟨#[]⟩, .slice none 0 0, .int .i64 0, .int .i64 0, .int .i64 0, .string ⟨#[]⟩, .int .i64 n]) rfl)
  have YF := Lib.hid (Y.out.set_ne ⟨g, 13, none⟩ (.int .i64 n) (Ne.symm hy1))
  have EF := Lib.hid (E.out.set_ne ⟨g, 13, none⟩ (.int .i64 n) hb2)
  have CF := Lib.hid (chg_new C.out ((Chg.refl (One g) _).put 13 (.int .i64 n)) HW.out)
  go_wp2_with (first | (refine load_row XF.out 90 Try.underlying90 rfl (by kernel_rfl) rfl rfl rfl ?_) | (refine store_row YF.out [.int .i64 10, .int .i64 t, .int .i64 0, .int .i64 0, .string ⟨#[]⟩, .int .i64 0, .int .i64 0, .string ⟨#[]⟩, .slice none 0 0, .int .i64 0, .int .i64 0, .int .i64 0, .string ⟨#[]⟩, .int .i64 n] 90 (by kernel_rfl) rfl (by simp [Value.oneCell']) rfl rfl rfl rfl ?_; intro w90 hR kc hsz2))
  have E9 := Lib.hid (EF.out.chg kc (fun e => hy2 (show b = w.heap.size from e).symm))
  have C9 := Lib.hid (chg_new CF.out kc (Nat.le_refl _))
  have R9 := Lib.hid hR
  clear hR kc hsz2
  exact ret_row R9.out Try.results156 Try.underlying90 rfl (by kernel_rfl) rfl rfl ⟨wres_none rfl rfl rfl, E9.out, C9.out⟩
set_option maxHeartbeats 8000000 in
theorem eye_other (b : Nat) (s : St) (w : World) (h : Eye w b s) (hs : s.1.length ≤ 9223372036854774000) (s0 s1 : St) (t k : Int) (d1 : ((k : Int) == 1) = false) (d2 : ((k : Int) == 2) = false) (d3 : ((k : Int) == 3) = false) (d4 : ((k : Int) == 4) = false) (d5 : ((k : Int) == 5) = false) (d6 : ((k : Int) == 6) = false) (d7 : ((k : Int) == 7) = false) (d9 : ((k : Int) == 9) = false) (d10 : ((k : Int) == 10) = false) (z0 : ((eOne s).1 : Int) = k) (q0 : (eOne s).2 = s0) (z1 : ((eOne s0).1 : Int) = t) (q1 : (eOne s0).2 = s1) : WReads b s w (Wsh.only k t) s1 := by
  have hlt := h.lt
  unfold WReads
  have Y := Lib.hid (Row.new w 90 [.int .i64 0, .int .i64 0, .int .i64 0, .int .i64 0, .string ⟨#[]⟩, .int .i64 0, .int .i64 0, .string ⟨#[]⟩, .slice none 0 0, .int .i64 0, .int .i64 0, .int .i64 0, .string ⟨#[]⟩, .int .i64 0])
  have E := Lib.hid (h.alloc (.cells #[.int .i64 0, .int .i64 0, .int .i64 0, .int .i64 0, .string ⟨#[]⟩, .int .i64 0, .int .i64 0, .string ⟨#[]⟩, .slice none 0 0, .int .i64 0, .int .i64 0, .int .i64 0, .string ⟨#[]⟩, .int .i64 0] 90))
  have C := Lib.hid ((Chg.refl (One b) w).alloc (.cells #[.int .i64 0, .int .i64 0, .int .i64 0, .int .i64 0, .string ⟨#[]⟩, .int .i64 0, .int .i64 0, .string ⟨#[]⟩, .slice none 0 0, .int .i64 0, .int .i64 0, .int .i64 0, .string ⟨#[]⟩, .int .i64 0] 90))
  have r0 := eOne_rest s
  rw [q0] at r0
  have r1 := eOne_rest s0
  rw [q1] at r1
  have Z1 := Lib.hid z1
  have Q1 := Lib.hid q1
  have Q0 := Lib.hid q0
  have Z0 := Lib.hid z0
  clear q0 q1 z0 z1 h
  go_enter Try.func156, Try.ntmps156
  go_wp2_with fail
  refine (one_to Z0.out Q0.out _ E.out (by omega)).mono ?_
  rintro e w1 ⟨rfl, hE, kc⟩
  have hsz := Nat.le_trans C.out.size kc.size
  have hyl := (Y.out.chg kc (fun e => by have e : w.heap.size = b := e; omega)).lt
  replace Y := Lib.hid ((Y.out.chg kc (fun e => by have e : w.heap.size = b := e; omega)).alloc (.cells #[.int .i64 0, .int .i64 0, .int .i64 0, .int .i64 0, .string ⟨#[]⟩, .int .i64 0, .int .i64 0, .string ⟨#[]⟩, .slice none 0 0, .int .i64 0, .int .i64 0, .int .i64 0, .string ⟨#[]⟩, .int .i64 0] 90))
  replace C := Lib.hid ((C.out.trans kc).alloc (.cells #[.int .i64 0, .int .i64 0, .int .i64 0, .int .i64 0, .string ⟨#[]⟩, .int .i64 0, .int .i64 0, .string ⟨#[]⟩, .slice none 0 0, .int .i64 0, .int .i64 0, .int .i64 0, .string ⟨#[]⟩, .int .i64 0] 90))
  replace E := Lib.hid (hE.alloc (.cells #[.int .i64 0, .int .i64 0, .int .i64 0, .int .i64 0, .string ⟨#[]⟩, .int .i64 0, .int .i64 0, .string ⟨#[]⟩, .slice none 0 0, .int .i64 0, .int .i64 0, .int .i64 0, .string ⟨#[]⟩, .int .i64 0] 90))
  have X := Lib.hid (Row.new w1 90 [.int .i64 0, .int .i64 0, .int .i64 0, .int .i64 0, .string ⟨#[]⟩, .int .i64 0, .int .i64 0, .string ⟨#[]⟩, .slice none 0 0, .int .i64 0, .int .i64 0, .int .i64 0, .string ⟨#[]⟩, .int .i64 0])
  have hb1 : b ≠ w1.heap.size := by omega
  have hb2 : w1.heap.size ≠ b := by omega
  have hy1 : w.heap.size ≠ w1.heap.size := by omega
  have hy2 : w.heap.size ≠ b := by omega
  clear hE kc
  go_wp2_with (refine store_row X.out [.int .i64 k, .int .i64 0, .int .i64 0, .int .i64 0, .string ⟨#[]⟩, .int .i64 0, .int .i64 0, .string ⟨#[]⟩, .slice none 0 0, .int .i64 0, .int .i64 0, .int .i64 0, .string ⟨#[]⟩, .int .i64 0] 90 (by kernel_rfl) rfl (by simp [Value.oneCell']) rfl rfl rfl rfl ?_; intro w2 hz kz zz; replace E := Lib.hid (E.out.chg kz hb1); replace Y := Lib.hid (Y.out.chg kz hy1); replace C := Lib.hid (chg_new C.out kz (by omega)); replace X := Lib.hid hz; clear hz kz zz)
  have HW := Lib.hid (show w.heap.size ≤ w1.heap.size from by omega)
  generalize w1.heap.size = g at *
  refine (one_to Z1.out Q1.out _ E.out (by omega)).mono ?_
  rintro e w3 ⟨rfl, hE, kc⟩
  replace X := Lib.hid (X.out.chg kc hb2)
  replace Y := Lib.hid (Y.out.chg kc hy2)
  replace C := Lib.hid (C.out.trans kc)
  replace E := Lib.hid hE
  clear hE kc
  have x1 := X.out.cell (i := 1) rfl
  have g1 := X.out.frozen 1 (by simp)
  have x0 := X.out.cell (i := 0) rfl
  have XF := Lib.hid ((X.out.set 1 (.int .i64 t)).cast (cs' := [.int .i64 k, .int .i64 t, .int .i64 0, .int .i64 0, .string ⟨#[]⟩, .int .i64 0, .int .i64 0, .string ⟨#[]⟩, .slice none 0 0, .int .i64 0, .int .i64 0, .int .i64 0, .string ⟨#[]⟩, .int .i64 0]) rfl)
  have YF := Lib.hid (Y.out.set_ne ⟨g, 1, none⟩ (.int .i64 t) (Ne.symm hy1))
  have EF := Lib.hid (E.out.set_ne ⟨g, 1, none⟩ (.int .i64 t) hb2)
  have CF := Lib.hid (chg_new C.out ((Chg.refl (One g) _).put 1 (.int .i64 t)) HW.out)
  go_wp2_with (first | (refine load_row XF.out 90 Try.underlying90 rfl (by kernel_rfl) rfl rfl rfl ?_) | (refine store_row YF.out [.int .i64 k, .int .i64 t, .int .i64 0, .int .i64 0, .string ⟨#[]⟩, .int .i64 0, .int .i64 0, .string ⟨#[]⟩, .slice none 0 0, .int .i64 0, .int .i64 0, .int .i64 0, .string ⟨#[]⟩, .int .i64 0] 90 (by kernel_rfl) rfl (by simp [Value.oneCell']) rfl rfl rfl rfl ?_; intro w90 hR kc hsz2))
  have E9 := Lib.hid (EF.out.chg kc (fun e => hy2 (show b = w.heap.size from e).symm))
  have C9 := Lib.hid (chg_new CF.out kc (Nat.le_refl _))
  have R9 := Lib.hid hR
  clear hR kc hsz2
  exact ret_row R9.out Try.results156 Try.underlying90 rfl (by kernel_rfl) rfl rfl ⟨wres_none rfl rfl rfl, E9.out, C9.out⟩
theorem wish_reads (b : Nat) (s : St) (w : World) (h : Eye w b s) (hs : s.1.length ≤ 9223372036854774000) : WReads b s w (eWish s).1 (eWish s).2 := by
  obtain ⟨k, hk⟩ : ∃ k, (eOne s).1 = k := ⟨_, rfl⟩
  obtain ⟨s0, q0⟩ : ∃ x, (eOne s).2 = x := ⟨_, rfl⟩
  obtain ⟨t, z1⟩ : ∃ k : Nat, (eOne s0).1 = k := ⟨_, rfl⟩
  obtain ⟨s1, q1⟩ : ∃ x, (eOne s0).2 = x := ⟨_, rfl⟩
  obtain ⟨n, z3⟩ : ∃ k : Nat, (eOne s1).1 = k := ⟨_, rfl⟩
  obtain ⟨s3, q3⟩ : ∃ x, (eOne s1).2 = x := ⟨_, rfl⟩
  obtain ⟨⟨⟨v1, v2, v3⟩, s4⟩, q4⟩ : ∃ r, eVal s1 = r := ⟨_, rfl⟩
  obtain ⟨⟨⟨u1, u2, u3⟩, s5⟩, q5⟩ : ∃ r, eVal s4 = r := ⟨_, rfl⟩
  obtain ⟨c, z6⟩ : ∃ k : Nat, (eOne s4).1 = k := ⟨_, rfl⟩
  obtain ⟨s6, q6⟩ : ∃ x, (eOne s4).2 = x := ⟨_, rfl⟩
  obtain ⟨⟨⟨y1, y2, y3⟩, s7⟩, q7⟩ : ∃ r, eVal s6 = r := ⟨_, rfl⟩
  have hw : eWish s = if k = 1 then (⟨1, t, noV, noV, none, 0, (eVals n s3).1, 0, noV, 0⟩, (eVals n s3).2)
    else if k = 2 ∨ k = 4 ∨ k = 6 then (⟨k, t, ⟨v1, v2, v3⟩, noV, none, 0, [], 0, noV, 0⟩, s4)
    else if k = 3 then (⟨3, t, ⟨v1, v2, v3⟩, noV, none, 0, [], c, ⟨y1, y2, y3⟩, 0⟩, s7)
    else if k = 5 ∨ k = 7 then (⟨k, t, ⟨v1, v2, v3⟩, ⟨u1, u2, u3⟩, none, 0, [], 0, noV, 0⟩, s5)
    else if k = 9 ∨ k = 10 then (⟨k, t, noV, noV, none, 0, [], 0, noV, n⟩, s3)
    else (Wsh.only k t, s1) := by
    unfold eWish
    rw [hk, q0, z1, q1, z3, q3, q4, q5, z6, q6, q7]
  have zt : ((eOne s0).1 : Int) = t := by rw [z1]
  have zk : ((eOne s).1 : Int) = k := by rw [hk]
  rw [hw]
  clear hw
  by_cases c1 : k = 1
  · subst c1
    exact eye_1 b s w h hs _ _ _ zk q0 zt q1 _ _ z3 q3 _ rfl
  by_cases c2 : k = 2
  · subst c2
    exact eye_2 b s w h hs _ _ _ zk q0 zt q1 _ _ _ _ q4
  by_cases c4 : k = 4
  · subst c4
    exact eye_4 b s w h hs _ _ _ zk q0 zt q1 _ _ _ _ q4
  by_cases c6 : k = 6
  · subst c6
    exact eye_6 b s w h hs _ _ _ zk q0 zt q1 _ _ _ _ q4
  by_cases c3 : k = 3
  · subst c3
    exact eye_3 b s w h hs _ _ _ zk q0 zt q1 _ _ _ _ _ _ q4 _ (by rw [z6]) q6 _ _ _ q7
  by_cases c5 : k = 5
  · subst c5
    exact eye_5 b s w h hs _ _ _ zk q0 zt q1 _ _ _ _ _ q4 _ _ _ q5
  by_cases c7 : k = 7
  · subst c7
    exact eye_7 b s w h hs _ _ _ zk q0 zt q1 _ _ _ _ _ q4 _ _ _ q5
  by_cases c9 : k = 9
  · subst c9
    exact eye_9 b s w h hs _ _ _ zk q0 zt q1 _ _ (by rw [z3]) q3
  by_cases c10 : k = 10
  · subst c10
    exact eye_10 b s w h hs _ _ _ zk q0 zt q1 _ _ (by rw [z3]) q3
  rw [if_neg c1, if_neg (by omega), if_neg c3, if_neg (by omega), if_neg (by omega)]
  exact eye_other b s w h hs _ _ _ k (by simp; omega) (by simp; omega) (by simp; omega) (by simp; omega) (by simp; omega) (by simp; omega) (by simp; omega) (by simp; omega) (by simp; omega) zk q0 zt q1
end Go.Proofs.Ytcfjooeagfollaa.Bill
