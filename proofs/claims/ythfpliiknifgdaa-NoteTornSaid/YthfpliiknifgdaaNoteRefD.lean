/- gaugerref06.Read. -/
import Derived.Test.YthfpliiknifgdaaNoteRefB
namespace Go.Proofs.Ythfpliiknifgdaa.Note
open Go.RowKit Go.Proofs.Ythfpliiknifgdaa.Mem Go.Proofs.Ythfpliiknifgdaa.Bytes
set_option linter.unusedSimpArgs false
set_option linter.unusedVariables false

theorem refbytes_calls (v : Value) (r : Rec) (w : World) (h : HasRec w v r) (hg : r.good = true) : Calls Try.prog 31 #[v] w fun e w' => e = .returned (.string (bs r.bytes)) ∧ Below w.heap.size w w' := by
  obtain ⟨a0, n0, c0, a1, n1, c1, a2, n2, c2, rfl, h0, h1, h2, z0, z1, z2⟩ := h
  exact refbytes_aux r hg a0 n0 c0 a1 n1 c1 a2 n2 c2 w h0 h1 h2
theorem ctake_of {b : Nat} {s s' : St} {n : Nat} {l : List UInt8} (q : eTake s n = (l, s')) (k : Int) (hk : k = (n : Int)) (w : World) (h : Cur w b s) (hn : n ≤ 9223372036854775807) (hs : s.1.length ≤ 9223372036854775807) :
    Calls Try.prog 60 #[.pointer (some ⟨b, 0, none⟩), .int .i64 k] w fun e w' => e = .returned (.string (bs l)) ∧ Cur w' b s' ∧ Chg (One b) w w' := by
  subst hk
  have h := ctake_calls b s n w h hn hs
  rw [q] at h
  exact h
theorem cnum_of {b : Nat} {s s' : St} {k n : Nat} (q : eNum s k = (n, s')) (kk : Int) (hkk : kk = (k : Int)) (w : World) (h : Cur w b s) (hk : k ≤ 4) (hs : s.1.length ≤ 9223372036854775807) :
    Calls Try.prog 59 #[.pointer (some ⟨b, 0, none⟩), .int .i64 kk] w fun e w' => e = .returned (.int .i64 (n : Int)) ∧ Cur w' b s' ∧ Chg (One b) w w' := by
  subst hkk
  have h := cnum_calls b s k w h hk hs
  rw [q] at h
  exact h
theorem below_one' {B b : Nat} {w w1 w2 : World} (h : Below B w w1) (k : Chg (One b) w1 w2) (hB : B ≤ w1.heap.size) (hb : B ≤ b) : Below B w w2 := h.trans (k.below hB (fun x hx => by rw [show x = b from hx]; exact hb))

def refOut (l : List UInt8) : Rec × Nat × Bool := match refRead l with
  | none => (noRec, 0, false)
  | some (r, n) => (r, n, true)
theorem refOut_none {l : List UInt8} (h : refRead l = none) : refOut l = (noRec, 0, false) := by rw [refOut, h]
theorem refOut_some {l : List UInt8} {r : Rec} {n : Nat} (h : refRead l = some (r, n)) : refOut l = (r, n, true) := by rw [refOut, h]
def RefOut (o : Rec × Nat × Bool) (e : Ending) (w : World) : Prop := ∃ v, e = .returned (.tuple #[v, .int .i64 (o.2.1 : Int), .bool o.2.2]) ∧ HasRec w v o.1

set_option maxHeartbeats 8000000 in
set_option maxRecDepth 8000 in
theorem refread_aux (t : ByteArray) (w : World) (n : Nat) (h4 : 4 ≤ t.size) (hN : n + 8 ≤ t.size) (hT : t.size ≤ 100000) (HN : Hid (n = lev (t.data.toList.take 4))) (s s1 s2 s3 s4 s5 s6 s6k s7 s7v s8 s9 sp s10 so s11 sd : St) (v1 v2 v3 v4 v5 v6 nk nv np no nd : Nat) (ky vl : List UInt8) (ps : List (Int × ByteArray)) (os ds : List (Int × Int)) (hs : s.1.length ≤ 100000)
    (hS : Hid (s = ((t.data.toList.take (n + 4)).drop 4, false)))
    (q1 : Hid (eNum s 1 = (v1, s1))) (q2 : Hid (eNum s1 4 = (v2, s2))) (q3 : Hid (eNum s2 4 = (v3, s3))) (q4 : Hid (eNum s3 4 = (v4, s4))) (q5 : Hid (eNum s4 1 = (v5, s5))) (q6 : Hid (eNum s5 1 = (v6, s6)))
    (q7 : Hid (eNum s6 1 = (nk, s6k))) (q7' : Hid (eTake s6k nk = (ky, s7))) (q8 : Hid (eNum s7 1 = (nv, s7v))) (q8' : Hid (eTake s7v nv = (vl, s8))) (q9 : Hid (eNum s8 1 = (np, s9))) (q10 : Hid (loopP getImage np s9 = (ps, sp))) (q11 : Hid (eNum sp 1 = (no, s10))) (q12 : Hid (loopP (getPair 4 4) no s10 = (os, so)))
    (q13 : Hid (eNum so 2 = (nd, s11))) (q14 : Hid (loopP (getPair 2 4) nd s11 = (ds, sd)))
    (z : s1.1.length ≤ 100000 ∧ s2.1.length ≤ 100000 ∧ s3.1.length ≤ 100000 ∧ s4.1.length ≤ 100000 ∧ s5.1.length ≤ 100000 ∧ s6.1.length ≤ 100000 ∧ s6k.1.length ≤ 100000 ∧ s7.1.length ≤ 100000 ∧ s7v.1.length ≤ 100000 ∧ s8.1.length ≤ 100000 ∧ s9.1.length ≤ 100000 ∧ sp.1.length ≤ 100000 ∧ s10.1.length ≤ 100000 ∧ so.1.length ≤ 100000 ∧ s11.1.length ≤ 100000 ∧ np < 256 ∧ no < 256 ∧ nd < 65536 ∧ nk < 256 ∧ nv < 256)
    (hP : Hid (parse s = ((⟨v1, v2, v3, v4, v5, v6, bs ky, bs vl, ps, os, ds⟩ : Rec), sd))) :
    Calls Try.prog 34 #[.string t] w fun e w' => RefOut (refOut t.data.toList) e w' ∧ Below w.heap.size w w' := by
  obtain ⟨zs1, zs2, zs3, zs4, zs5, zs6, zs6k, zs7, zs7v, zs8, zs9, zsp, zs10, zso, zs11, zn1, zn2, zn3, zn4, zn5⟩ := z
  have hR : Row (w.alloc (.cells noCells.toArray 57)) w.heap.size 57 noCells := new_at rfl
  have hc : Below w.heap.size w (w.alloc (.cells noCells.toArray 57)) := (Below.refl _ _).alloc (Nat.le_refl _) _
  have hE : Cur ((w.alloc (.cells noCells.toArray 57)).alloc (.cells [.string t, .bool false].toArray 116)) (w.heap.size + 1) (t.data.toList, false) := new_at (by simp)
  replace hR := hR.alloc (.cells [.string t, .bool false].toArray 116)
  replace hc := hc.alloc (by simp) (.cells [.string t, .bool false].toArray 116)
  have hl : t.data.toList.length = t.size := rfl
  have q0 : eNum (t.data.toList, false) 4 = (n, (t.data.toList.drop 4, false)) := by
    unfold eNum eTake
    rw [if_neg (by show ¬ t.data.toList.length < 4; rw [hl]; omega), HN.out]
  have Q0 := Lib.hid q0
  have HL := Lib.hid hl
  have hdl : (bs (t.data.toList.drop 4)).size = t.size - 4 := by rw [bs_size, List.length_drop, hl]
  have hx : t.extract 4 (n + 4) = bs ((t.data.toList.take (n + 4)).drop 4) := by
    rw [← bs_of (t.extract 4 (n + 4))]
    congr 1
    simp [ByteArray.data_extract, List.drop_take]
  have HX := Lib.hid hx
  have hall : t.extract 0 (n + 8) = bs (t.data.toList.take (n + 8)) := extract_take _ _
  have HA := Lib.hid hall
  clear q0 hl hx hall
  go_enter Try.func34, Try.ntmps34
  go_wp2_with fail
  refine (cnum_of Q0.out 4 rfl _ hE (by omega) (by show t.data.toList.length ≤ _; rw [HL.out]; omega)).mono ?_
  rintro e w1 ⟨rfl, h1, hc1⟩
  replace hR := hR.chg hc1 (by show ¬ w.heap.size = w.heap.size + 1; omega)
  replace hc := below_one' hc hc1 hc.size (by omega)
  have x0 := h1.cell (i := 0) rfl
  have x1 := h1.cell (i := 1) rfl
  simp only at x0 x1
  have hRw : w.heap.size < w1.heap.size := hR.lt
  have n1 : (n : Int) ≤ (t.size : Int) - 8 := by omega
  have n2 : ¬ ((bs (t.data.toList.drop 4)).size : Int) - 4 < (n : Int) := by rw [hdl]; omega
  have n3 : ¬ (((bs (t.data.toList.drop 4)).size - 4 : Nat) : Int) < (n : Int) := by rw [hdl]; omega
  have n4 : 4 ≤ (bs (t.data.toList.drop 4)).size := by rw [hdl]; omega
  have n5 : (bs (t.data.toList.drop 4)).size ≤ 100000 := by rw [hdl]; omega
  have hsl : ∀ wx : World, (Instr.slice 9 (.string t) (some (.int .i64 4)) (some (.int .i64 ((n : Int) + 4))) none).run Try.prog wx = .ok (.string (bs ((t.data.toList.take (n + 4)).drop 4))) wx := fun wx => by
    have h := run_slice_string (P := Try.prog) wx 9 t .i64 .i64 4 ((n : Int) + 4) Try.underlying9 (by omega) (by omega) (by omega)
    rw [h, show ((n : Int) + 4).toNat = n + 4 by omega]
    exact congrArg (fun x => Result.ok (Value.string x) wx) HX.out
  clear h1 hc1 hE hdl
  go_wp2_with fail
  have h : Cur (w1.alloc (.cells [.string (bs ((t.data.toList.take (n + 4)).drop 4)), .bool false].toArray 116)) w1.heap.size s := by
    rw [hS.out]
    exact new_at rfl
  replace hR := hR.alloc (.cells [.string (bs ((t.data.toList.take (n + 4)).drop 4)), .bool false].toArray 116)
  replace hc := hc.alloc hc.size (.cells [.string (bs ((t.data.toList.take (n + 4)).drop 4)), .bool false].toArray 116)
  have hbw : w.heap.size ≠ w1.heap.size := by omega
  have hbl : w.heap.size ≤ w1.heap.size := by omega
  clear x0 x1 n1 n2 n3 n4 n5
  refine (cnum_of q1.out 1 rfl _ h (by omega) (by omega)).mono ?_
  rintro e w2 ⟨rfl, h1, hc1⟩
  replace hc := below_one' hc hc1 hc.size hbl
  replace hR := hR.chg hc1 hbw
  replace h := h1
  clear h1 hc1
  go_wp2_with fail
  refine (cnum_of q2.out 4 rfl _ h (by omega) (by omega)).mono ?_
  rintro e w2 ⟨rfl, h1, hc1⟩
  replace hc := below_one' hc hc1 hc.size hbl
  replace hR := hR.chg hc1 hbw
  replace h := h1
  clear h1 hc1
  go_wp2_with fail
  refine (cnum_of q3.out 4 rfl _ h (by omega) (by omega)).mono ?_
  rintro e w2 ⟨rfl, h1, hc1⟩
  replace hc := below_one' hc hc1 hc.size hbl
  replace hR := hR.chg hc1 hbw
  replace h := h1
  clear h1 hc1
  go_wp2_with fail
  refine (cnum_of q4.out 4 rfl _ h (by omega) (by omega)).mono ?_
  rintro e w5 ⟨rfl, h1, hc1⟩
  replace hc := below_one' hc hc1 hc.size hbl
  replace hR := hR.chg hc1 hbw
  replace h := h1
  clear h1 hc1
  have hC : Row (w5.alloc (.cells [.int .i64 v1, .int .i64 v2, .int .i64 v3, .int .i64 v4, .slice none 0 0, .int .i64 0, .int .i64 0, .string ⟨#[]⟩, .string ⟨#[]⟩, .slice none 0 0, .slice none 0 0].toArray 57)) w5.heap.size 57 [.int .i64 v1, .int .i64 v2, .int .i64 v3, .int .i64 v4, .slice none 0 0, .int .i64 0, .int .i64 0, .string ⟨#[]⟩, .string ⟨#[]⟩, .slice none 0 0, .slice none 0 0] := new_at rfl
  have hcb : w5.heap.size ≠ w1.heap.size := by have := h.lt; omega
  have hRc : w.heap.size < w5.heap.size := hR.lt
  replace h := h.alloc (.cells [.int .i64 v1, .int .i64 v2, .int .i64 v3, .int .i64 v4, .slice none 0 0, .int .i64 0, .int .i64 0, .string ⟨#[]⟩, .string ⟨#[]⟩, .slice none 0 0, .slice none 0 0].toArray 57)
  replace hc := hc.alloc hc.size (.cells [.int .i64 v1, .int .i64 v2, .int .i64 v3, .int .i64 v4, .slice none 0 0, .int .i64 0, .int .i64 0, .string ⟨#[]⟩, .string ⟨#[]⟩, .slice none 0 0, .slice none 0 0].toArray 57)
  replace hR := hR.alloc (.cells [.int .i64 v1, .int .i64 v2, .int .i64 v3, .int .i64 v4, .slice none 0 0, .int .i64 0, .int .i64 0, .string ⟨#[]⟩, .string ⟨#[]⟩, .slice none 0 0, .slice none 0 0].toArray 57)
  go_wp2_with fail
  refine (cnum_of q5.out 1 rfl _ h (by omega) (by omega)).mono ?_
  rintro e w2 ⟨rfl, h1, hc1⟩
  replace hc := below_one' hc hc1 hc.size hbl
  replace hR := hR.chg hc1 hbw
  replace hC := hC.chg hc1 hcb
  replace h := h1
  clear h1 hc1
  have x5 := hC.cell (i := 5) rfl
  have f5 := hC.frozen 5 (by simp)
  go_wp2_with fail
  clear x5 f5
  replace hC := hC.set 5 (.int .i64 v5)
  replace h := h.set_ne ⟨w5.heap.size, 5, none⟩ (.int .i64 v5) hcb
  replace hR := hR.set_ne ⟨w5.heap.size, 5, none⟩ (.int .i64 v5) (by show w5.heap.size ≠ w.heap.size; omega)
  replace hc := hc.setCell (p := ⟨w5.heap.size, 5, none⟩) (by show w.heap.size ≤ w5.heap.size; omega) (.int .i64 v5)
  simp only [List.set] at hC
  refine (cnum_of q6.out 1 rfl _ h (by omega) (by omega)).mono ?_
  rintro e w2 ⟨rfl, h1, hc1⟩
  replace hc := below_one' hc hc1 hc.size hbl
  replace hR := hR.chg hc1 hbw
  replace hC := hC.chg hc1 hcb
  replace h := h1
  clear h1 hc1
  have x6 := hC.cell (i := 6) rfl
  have f6 := hC.frozen 6 (by simp)
  go_wp2_with fail
  clear x6 f6
  replace hC := hC.set 6 (.int .i64 v6)
  replace h := h.set_ne ⟨w5.heap.size, 6, none⟩ (.int .i64 v6) hcb
  replace hR := hR.set_ne ⟨w5.heap.size, 6, none⟩ (.int .i64 v6) (by show w5.heap.size ≠ w.heap.size; omega)
  replace hc := hc.setCell (p := ⟨w5.heap.size, 6, none⟩) (by show w.heap.size ≤ w5.heap.size; omega) (.int .i64 v6)
  simp only [List.set] at hC
  refine (cnum_of q7.out 1 rfl _ h (by omega) (by omega)).mono ?_
  rintro e w2 ⟨rfl, h1, hc1⟩
  replace hc := below_one' hc hc1 hc.size hbl
  replace hR := hR.chg hc1 hbw
  replace hC := hC.chg hc1 hcb
  replace h := h1
  clear h1 hc1
  go_wp2_with fail
  refine (ctake_of q7'.out (nk : Int) rfl _ h (by omega) (by omega)).mono ?_
  rintro e w2 ⟨rfl, h1, hc1⟩
  replace hc := below_one' hc hc1 hc.size hbl
  replace hR := hR.chg hc1 hbw
  replace hC := hC.chg hc1 hcb
  replace h := h1
  clear h1 hc1
  have x7 := hC.cell (i := 7) rfl
  have f7 := hC.frozen 7 (by simp)
  go_wp2_with fail
  clear x7 f7
  replace hC := hC.set 7 (.string (bs ky))
  replace h := h.set_ne ⟨w5.heap.size, 7, none⟩ (.string (bs ky)) hcb
  replace hR := hR.set_ne ⟨w5.heap.size, 7, none⟩ (.string (bs ky)) (by show w5.heap.size ≠ w.heap.size; omega)
  replace hc := hc.setCell (p := ⟨w5.heap.size, 7, none⟩) (by show w.heap.size ≤ w5.heap.size; omega) (.string (bs ky))
  simp only [List.set] at hC
  refine (cnum_of q8.out 1 rfl _ h (by omega) (by omega)).mono ?_
  rintro e w2 ⟨rfl, h1, hc1⟩
  replace hc := below_one' hc hc1 hc.size hbl
  replace hR := hR.chg hc1 hbw
  replace hC := hC.chg hc1 hcb
  replace h := h1
  clear h1 hc1
  go_wp2_with fail
  refine (ctake_of q8'.out (nv : Int) rfl _ h (by omega) (by omega)).mono ?_
  rintro e w2 ⟨rfl, h1, hc1⟩
  replace hc := below_one' hc hc1 hc.size hbl
  replace hR := hR.chg hc1 hbw
  replace hC := hC.chg hc1 hcb
  replace h := h1
  clear h1 hc1
  have x8 := hC.cell (i := 8) rfl
  have f8 := hC.frozen 8 (by simp)
  go_wp2_with fail
  clear x8 f8
  replace hC := hC.set 8 (.string (bs vl))
  replace h := h.set_ne ⟨w5.heap.size, 8, none⟩ (.string (bs vl)) hcb
  replace hR := hR.set_ne ⟨w5.heap.size, 8, none⟩ (.string (bs vl)) (by show w5.heap.size ≠ w.heap.size; omega)
  replace hc := hc.setCell (p := ⟨w5.heap.size, 8, none⟩) (by show w.heap.size ≤ w5.heap.size; omega) (.string (bs vl))
  simp only [List.set] at hC
  refine (cnum_of q9.out 1 rfl _ h (by omega) (by omega)).mono ?_
  rintro e wp ⟨rfl, h1, hc1⟩
  replace hc := below_one' hc hc1 hc.size hbl
  replace hR := hR.chg hc1 hbw
  replace hC := hC.chg hc1 hcb
  replace h := h1
  clear h1 hc1
  have hcp1 := hC.lt
  obtain ⟨H1, hH1⟩ : ∃ H1, H1 = wp.heap.size := ⟨_, rfl⟩
  have hbH1 : w1.heap.size < wp.heap.size := h.lt
  have hRH1 : w.heap.size < wp.heap.size := hR.lt
  go_wp2_with fail
  go_loopw [11] (fun i wr => ∃ (j m : Nat) (acc : List (Int × ByteArray)) (sj : St) (v : Value), i = .int .i64 (j : Int) ∧ j + m = np ∧ Going getImage ps sp m acc sj ∧ acc.length + m ≤ 255 ∧ sj.1.length ≤ 100000 ∧ Cur wr w1.heap.size sj ∧ Row wr w5.heap.size 57 [.int .i64 v1, .int .i64 v2, .int .i64 v3, .int .i64 v4, v, .int .i64 v5, .int .i64 v6, .string (bs ky), .string (bs vl), .slice none 0 0, .slice none 0 0] ∧ Row wr w.heap.size 57 noCells ∧ wr.ownsRow H1 77 2 v acc.length (acc.flatMap imgCells) ∧ H1 ≤ wr.heap.size ∧ Below w.heap.size w wr) (fun i _ => np - (intOf i).toNat)
  case atStart => exact ⟨0, np, [], s9, .slice none 0 0, rfl, by omega, Going.start q10.out, by simp; omega, zs9, h, hC, hR, World.ownsRow_nil _ _ _ _, by omega, hc⟩
  case round =>
    clear hC hR h hc
    obtain ⟨j, m, acc, sj, v, rfl, hjm, hgo, hml, hsl, h, hC, hR, hown, hH, hc⟩ := hrel
    have HG := Lib.hid hgo
    clear hgo
    have e1 := h.cell (i := 1) rfl
    go_upto_region 14 with (fail)
    go_cut [84] from 75 to 84 (fun t wx => t = .bool (decide (0 < m) && !sj.2) ∧ wx = wr)
    case first =>
      by_cases hm : m = 0
      · have hj0 : ¬ (j : Int) < (np : Int) := by omega
        subst hm
        go_wp2_with fail
        go_meet
        exact ⟨rfl, rfl⟩
      · have hm' : (j : Int) < (np : Int) := by omega
        go_wp2_with fail
        go_meet
        exact ⟨by rw [show decide (0 < m) = true by simp; omega]; rfl, rfl⟩
    case rest =>
      obtain ⟨rfl, rfl⟩ := hcut
      cases hq : (decide (0 < m) && !sj.2)
      rotate_left
      · simp only [Bool.and_eq_true, decide_eq_true_eq, Bool.not_eq_true'] at hq
        obtain ⟨hm, hbad⟩ := hq
        obtain ⟨m', rfl⟩ : ∃ m', m = m' + 1 := ⟨m - 1, by omega⟩
        obtain ⟨pg, t1, g1⟩ : ∃ pg t1, eNum sj 2 = (pg, t1) := ⟨_, _, rfl⟩
        obtain ⟨dt, t2, g2⟩ : ∃ dt t2, eTake t1 256 = (dt, t2) := ⟨_, _, rfl⟩
        have hf : getImage sj = (((pg : Int), bs dt), t2) := by
          unfold getImage
          rw [g1]
          show (((pg : Int), bs (eTake t1 256).1), (eTake t1 256).2) = _
          rw [g2]
        have hnx := HG.out.step hbad hf
        have l1 := eNum_rest sj 2
        have l2 := eTake_rest t1 256
        rw [g1] at l1
        rw [g2] at l2
        simp only at l1 l2
        have hk1 := fun (W : World) (hW : Cur W w1.heap.size sj) => cnum_of g1 2 rfl W hW (by omega) (by omega)
        have hk2 := fun (W : World) (hW : Cur W w1.heap.size t1) => ctake_of g2 256 rfl W hW (by omega) (by omega)
        have HN := Lib.hid hnx
        have K1 := Lib.hid hk1
        have K2 := Lib.hid hk2
        clear hnx g1 g2 hf hbad e1 hk1 hk2
        have hne : ∀ k, v.ownBlock = some k → ¬ One w1.heap.size k := fun k hk hx => by have := (hown.lt k hk).1; have hx' : k = w1.heap.size := hx; omega
        have x4 := hC.cell (i := 4) rfl
        have f4 := hC.frozen 4 (by simp)
        go_wp2_with fail
        have x4d : wc.drew.cell? ⟨w5.heap.size, 4, none⟩ = some v := x4
        go_region_law (first
            | (refine app1_step (news := [.int .i64 (pg : Int), .string (bs dt)]) hoc (Below.refl H1 _) (Nat.le_trans hH (Nat.le_trans hc1.size hc2.size)) 51 Try.underlying51 info_image rfl (by decide) (by decide) (by omega) rfl (by simp [Value.oneCell']) rfl rfl rfl rfl ?_
               intro v' wd hod hbd hgd
               obtain ⟨a', cap', rfl, _⟩ := Reel.own_shape hod
               have hCd := hCc.grown hgd (fun e => by have := (hoc.lt _ e.symm).1; omega)
               have x4e := hCd.cell (i := 4) rfl
               have f4e := hCd.frozen 4 (by simp))
            | (go_simp
               go_at_call 59
               (with_reducible refine (K1.out _ h.drew).mono ?_)
               rintro e wb ⟨rfl, h1, hc1⟩
               have hCb := hC.drew.chg hc1 hcb
               have hob := Reel.own_chg (w := wc.drew) hown hc1 hne
               have x4a := hCb.cell (i := 4) rfl
               clear hown)
            | (go_simp
               go_at_call 60
               (with_reducible refine (K2.out _ h1).mono ?_)
               rintro e we ⟨rfl, h2, hc2⟩
               have hCc := hCb.chg hc2 hcb
               have hoc := Reel.own_chg hob hc2 hne
               have x4b := hCc.cell (i := 4) rfl
               have x4c := (hCc.alloc (.cells #[.int .i64 (pg : Int), .string (bs dt)] 77)).cell (i := 4) rfl
               clear hob))
        all_goals
          have hRd := ((hR.drew.chg hc1 hbw).chg hc2 hbw).grown hgd (fun e => by have := (hoc.lt _ e.symm).1; omega)
          have hEd := h2.grown hgd (fun e => by have := (hoc.lt _ e.symm).1; omega)
          have hcc := below_one' (below_one' hc.drew hc1 hc.size hbl) hc2 (Nat.le_trans hc.size hc1.size) hbl
          have hcd := hcc.grown hgd hcc.size (fun k hk => by have := (hoc.lt k hk).1; omega)
          have hset : Chg (One w5.heap.size) wd (wd.setCell ⟨w5.heap.size, 4, none⟩ (.slice a' (acc.length + 1) cap')) := (Chg.refl _ _).put _ _
          have hcd2 := below_one' hcd hset hcd.size (by show w.heap.size ≤ w5.heap.size; omega)
          have hEd2 := hEd.chg hset (fun hx => hcb (Eq.symm hx))
          have hRd2 := hRd.chg hset (by show ¬ w.heap.size = w5.heap.size; omega)
          have hCd2 := (hCd.set 4 (.slice a' (acc.length + 1) cap'))
          have hod2 := Reel.own_chg hod hset (fun k hk hx => by have := (hod.lt k hk).1; have hx' : k = w5.heap.size := hx; omega)
          have hH2 : H1 ≤ (wd.setCell ⟨w5.heap.size, 4, none⟩ (.slice a' (acc.length + 1) cap')).heap.size := Nat.le_trans hH (Nat.le_trans hc1.size (Nat.le_trans hc2.size (Nat.le_trans hgd.size hset.size)))
          simp only [List.set] at hCd2
          have hof : (acc ++ [((pg : Int), bs dt)]).flatMap imgCells = acc.flatMap imgCells ++ [.int .i64 (pg : Int), .string (bs dt)] := by rw [List.flatMap_append]; rfl
          have hlen1 : acc.length + 1 = (acc ++ [((pg : Int), bs dt)]).length := by simp
          rw [← hof] at hod2
          have HOD : Hid (World.ownsRow _ H1 77 2 (.slice a' (acc.length + 1) cap') (acc ++ [((pg : Int), bs dt)]).length ((acc ++ [((pg : Int), bs dt)]).flatMap imgCells)) := Lib.hid (own_len hod2 hlen1)
          have HRD := Lib.hid hRd2
          have HCD := Lib.hid hCd2
          have HED := Lib.hid hEd2
          have HCC := Lib.hid hcd2
          clear hod2 hRd2 hCd2 hEd2 hcd2 hof hset hcd hEd hRd hoc hod hbd hgd x4e f4e x4a x4b x4c x4 f4 x4d hCd hCb hCc h1 hc1 h2 hc2 hcc h hC hR hc hlen1
          go_wp2_with fail
          exact ⟨⟨j + 1, m', acc ++ [((pg : Int), bs dt)], t2, .slice a' (acc.length + 1) cap', by go_num, by omega, HN.out, by have := hml; simp; try omega, by omega, HED.out, HCD.out, HRD.out, HOD.out, hH2, HCC.out⟩, by simp only [intOf]; omega⟩
      · have hst : m = 0 ∨ sj.2 = true := by
          rcases Nat.eq_zero_or_pos m with e | e
          · exact .inl e
          · exact .inr (by simpa [e] using hq)
        obtain ⟨hall, hend⟩ := HG.out.stop hst
        have HALL1 := Lib.hid hall
        have HEND1 := Lib.hid hend
        clear hq HG e1 hst hall hend
        rw [← HALL1.out] at hown
        rw [← HEND1.out] at h
        have hp := hown
        clear hown
        obtain ⟨a0, c0, rfl, hz0, _⟩ := Reel.own_shape hp
        go_wp2_with fail
        refine (cnum_of q11.out 1 rfl _ h (by omega) (by omega)).mono ?_
        rintro e wo ⟨rfl, h1, hc1⟩
        replace hc := below_one' hc hc1 hc.size hbl
        replace hR := hR.chg hc1 hbw
        replace hC := hC.chg hc1 hcb
        replace hp := Reel.own_chg hp hc1 (fun k hk hx => by have := (hp.lt k hk).1; have hx' : k = w1.heap.size := hx; omega)
        replace h := h1
        clear h1 hc1
        have hcp2 := hC.lt
        obtain ⟨H2, hH2⟩ : ∃ H2, H2 = wo.heap.size := ⟨_, rfl⟩
        have hbH2 : w1.heap.size < wo.heap.size := h.lt
        have hRH2 : w.heap.size < wo.heap.size := hR.lt
        have hpl : ∀ k, (.slice a0 ps.length c0 : Value).ownBlock = some k → H1 ≤ k ∧ k < H2 := fun k hk => by have := hp.lt k hk; omega
        go_wp2_with fail
        go_loopw [12] (fun i wr => ∃ (j m : Nat) (acc : List (Int × Int)) (sj : St) (v : Value), i = .int .i64 (j : Int) ∧ j + m = no ∧ Going (getPair 4 4) os so m acc sj ∧ acc.length + m ≤ 255 ∧ sj.1.length ≤ 100000 ∧ Cur wr w1.heap.size sj ∧ Row wr w5.heap.size 57 [.int .i64 v1, .int .i64 v2, .int .i64 v3, .int .i64 v4, (.slice a0 ps.length c0 : Value), .int .i64 v5, .int .i64 v6, .string (bs ky), .string (bs vl), v, .slice none 0 0] ∧ Row wr w.heap.size 57 noCells ∧ wr.ownsRow H2 80 2 v acc.length (acc.flatMap numCells) ∧ H2 ≤ wr.heap.size ∧ Below w.heap.size w wr ∧ wr.ownsRow H1 77 2 (.slice a0 ps.length c0 : Value) ps.length (ps.flatMap imgCells)) (fun i _ => no - (intOf i).toNat)
        case atStart => exact ⟨0, no, [], s10, .slice none 0 0, rfl, by omega, Going.start q12.out, by simp; omega, zs10, h, hC, hR, World.ownsRow_nil _ _ _ _, by omega, hc, hp⟩
        case round =>
          clear hC hR h hc hp
          obtain ⟨j, m, acc, sj, v, rfl, hjm, hgo, hml, hsl, h, hC, hR, hown, hH, hc, hp⟩ := hrel
          have HG := Lib.hid hgo
          clear hgo
          have e1 := h.cell (i := 1) rfl
          go_upto_region 19 with (fail)
          go_cut [108] from 99 to 108 (fun t wx => t = .bool (decide (0 < m) && !sj.2) ∧ wx = wr)
          case first =>
            by_cases hm : m = 0
            · have hj0 : ¬ (j : Int) < (no : Int) := by omega
              subst hm
              go_wp2_with fail
              go_meet
              exact ⟨rfl, rfl⟩
            · have hm' : (j : Int) < (no : Int) := by omega
              go_wp2_with fail
              go_meet
              exact ⟨by rw [show decide (0 < m) = true by simp; omega]; rfl, rfl⟩
          case rest =>
            obtain ⟨rfl, rfl⟩ := hcut
            cases hq : (decide (0 < m) && !sj.2)
            rotate_left
            · simp only [Bool.and_eq_true, decide_eq_true_eq, Bool.not_eq_true'] at hq
              obtain ⟨hm, hbad⟩ := hq
              obtain ⟨m', rfl⟩ : ∃ m', m = m' + 1 := ⟨m - 1, by omega⟩
              obtain ⟨pg, t1, g1⟩ : ∃ pg t1, eNum sj 4 = (pg, t1) := ⟨_, _, rfl⟩
              obtain ⟨dt, t2, g2⟩ : ∃ dt t2, eNum t1 4 = (dt, t2) := ⟨_, _, rfl⟩
              have hf : (getPair 4 4) sj = (((pg : Int), (dt : Int)), t2) := by
                unfold getPair
                rw [g1]
                show (((pg : Int), ((eNum t1 4).1 : Int)), (eNum t1 4).2) = _
                rw [g2]
              have hnx := HG.out.step hbad hf
              have l1 := eNum_rest sj 4
              have l2 := eNum_rest t1 4
              rw [g1] at l1
              rw [g2] at l2
              simp only at l1 l2
              have hk1 := fun (W : World) (hW : Cur W w1.heap.size sj) => cnum_of g1 4 rfl W hW (by omega) (by omega)
              have hk2 := fun (W : World) (hW : Cur W w1.heap.size t1) => cnum_of g2 4 rfl W hW (by omega) (by omega)
              have HN := Lib.hid hnx
              have K1 := Lib.hid hk1
              have K2 := Lib.hid hk2
              clear hnx g1 g2 hf hbad e1 hk1 hk2
              have hne : ∀ k, v.ownBlock = some k → ¬ One w1.heap.size k := fun k hk hx => by have := (hown.lt k hk).1; have hx' : k = w1.heap.size := hx; omega
              have hpne : ∀ k, (.slice a0 ps.length c0 : Value).ownBlock = some k → ¬ One w1.heap.size k := fun k hk hx => by have := (hpl k hk).1; have hx' : k = w1.heap.size := hx; omega
              have x4 := hC.cell (i := 9) rfl
              have f4 := hC.frozen 9 (by simp)
              go_wp2_with fail
              have x4d : wc.drew.cell? ⟨w5.heap.size, 9, none⟩ = some v := x4
              go_region_law (first
                  | (refine app1_step (news := [.int .i64 (pg : Int), .int .i64 (dt : Int)]) hoc (Below.refl H2 _) (Nat.le_trans hH (Nat.le_trans hc1.size hc2.size)) 54 Try.underlying54 info_open rfl (by decide) (by decide) (by omega) rfl (by simp [Value.oneCell']) rfl rfl rfl rfl ?_
                     intro v' wd hod hbd hgd
                     obtain ⟨a', cap', rfl, _⟩ := Reel.own_shape hod
                     have hCd := hCc.grown hgd (fun e => by have := (hoc.lt _ e.symm).1; omega)
                     have x4e := hCd.cell (i := 9) rfl
                     have f4e := hCd.frozen 9 (by simp))
                  | (go_simp
                     go_at_call 59
                     (with_reducible refine (K1.out _ h.drew).mono ?_)
                     rintro e wb ⟨rfl, h1, hc1⟩
                     have hCb := hC.drew.chg hc1 hcb
                     have hob := Reel.own_chg (w := wc.drew) hown hc1 hne
                     have x4a := hCb.cell (i := 9) rfl
                     clear hown)
                  | (go_simp
                     go_at_call 59
                     (with_reducible refine (K2.out _ h1).mono ?_)
                     rintro e we ⟨rfl, h2, hc2⟩
                     have hCc := hCb.chg hc2 hcb
                     have hoc := Reel.own_chg hob hc2 hne
                     have x4b := hCc.cell (i := 9) rfl
                     have x4c := (hCc.alloc (.cells #[.int .i64 (pg : Int), .int .i64 (dt : Int)] 80)).cell (i := 9) rfl
                     clear hob))
              all_goals
                have hRd := ((hR.drew.chg hc1 hbw).chg hc2 hbw).grown hgd (fun e => by have := (hoc.lt _ e.symm).1; omega)
                have hEd := h2.grown hgd (fun e => by have := (hoc.lt _ e.symm).1; omega)
                have hcc := below_one' (below_one' hc.drew hc1 hc.size hbl) hc2 (Nat.le_trans hc.size hc1.size) hbl
                have hcd := hcc.grown hgd hcc.size (fun k hk => by have := (hoc.lt k hk).1; omega)
                have hset : Chg (One w5.heap.size) wd (wd.setCell ⟨w5.heap.size, 9, none⟩ (.slice a' (acc.length + 1) cap')) := (Chg.refl _ _).put _ _
                have hcd2 := below_one' hcd hset hcd.size (by show w.heap.size ≤ w5.heap.size; omega)
                have hEd2 := hEd.chg hset (fun hx => hcb (Eq.symm hx))
                have hRd2 := hRd.chg hset (by show ¬ w.heap.size = w5.heap.size; omega)
                have hCd2 := (hCd.set 9 (.slice a' (acc.length + 1) cap'))
                have hod2 := Reel.own_chg hod hset (fun k hk hx => by have := (hod.lt k hk).1; have hx' : k = w5.heap.size := hx; omega)
                have hH2 : H2 ≤ (wd.setCell ⟨w5.heap.size, 9, none⟩ (.slice a' (acc.length + 1) cap')).heap.size := Nat.le_trans hH (Nat.le_trans hc1.size (Nat.le_trans hc2.size (Nat.le_trans hgd.size hset.size)))
                simp only [List.set] at hCd2
                have hp2 := Reel.own_chg (Reel.own_chg (Reel.own_chg (Reel.own_chg (w := wc.drew) hp hc1 hpne) hc2 hpne) (Chg.of_grown hgd) (fun k hk hx => by have := (hpl k hk).2; have := (hoc.lt k hx.symm).1; omega)) hset (fun k hk hx => by have := (hpl k hk).1; have hx' : k = w5.heap.size := hx; omega)
                have hof : (acc ++ [((pg : Int), (dt : Int))]).flatMap numCells = acc.flatMap numCells ++ [.int .i64 (pg : Int), .int .i64 (dt : Int)] := by rw [List.flatMap_append]; rfl
                have hlen1 : acc.length + 1 = (acc ++ [((pg : Int), (dt : Int))]).length := by simp
                rw [← hof] at hod2
                have HOD : Hid (World.ownsRow _ H2 80 2 (.slice a' (acc.length + 1) cap') (acc ++ [((pg : Int), (dt : Int))]).length ((acc ++ [((pg : Int), (dt : Int))]).flatMap numCells)) := Lib.hid (own_len hod2 hlen1)
                have HRD := Lib.hid hRd2
                have HCD := Lib.hid hCd2
                have HED := Lib.hid hEd2
                have HCC := Lib.hid hcd2
                clear hod2 hRd2 hCd2 hEd2 hcd2 hof hset hcd hEd hRd hoc hod hbd hgd x4e f4e x4a x4b x4c x4 f4 x4d hCd hCb hCc h1 hc1 h2 hc2 hcc h hC hR hc hlen1
                go_wp2_with fail
                exact ⟨⟨j + 1, m', acc ++ [((pg : Int), (dt : Int))], t2, .slice a' (acc.length + 1) cap', by go_num, by omega, HN.out, by have := hml; simp; try omega, by omega, HED.out, HCD.out, HRD.out, HOD.out, hH2, HCC.out, hp2⟩, by simp only [intOf]; omega⟩
            · have hst : m = 0 ∨ sj.2 = true := by
                rcases Nat.eq_zero_or_pos m with e | e
                · exact .inl e
                · exact .inr (by simpa [e] using hq)
              obtain ⟨hall, hend⟩ := HG.out.stop hst
              have HALL2 := Lib.hid hall
              have HEND2 := Lib.hid hend
              clear hq HG e1 hst hall hend
              rw [← HALL2.out] at hown
              rw [← HEND2.out] at h
              have ho := hown
              clear hown
              obtain ⟨a1, c1, rfl, hz1, _⟩ := Reel.own_shape ho
              go_wp2_with fail
              refine (cnum_of q13.out 2 rfl _ h (by omega) (by omega)).mono ?_
              rintro e wq ⟨rfl, h1, hc1⟩
              replace hc := below_one' hc hc1 hc.size hbl
              replace hR := hR.chg hc1 hbw
              replace hC := hC.chg hc1 hcb
              replace hp := Reel.own_chg hp hc1 (fun k hk hx => by have := (hp.lt k hk).1; have hx' : k = w1.heap.size := hx; omega)
              replace ho := Reel.own_chg ho hc1 (fun k hk hx => by have := (ho.lt k hk).1; have hx' : k = w1.heap.size := hx; omega)
              replace h := h1
              clear h1 hc1
              have hcp3 := hC.lt
              obtain ⟨H3, hH3⟩ : ∃ H3, H3 = wq.heap.size := ⟨_, rfl⟩
              have hbH3 : w1.heap.size < wq.heap.size := h.lt
              have hRH3 : w.heap.size < wq.heap.size := hR.lt
              have hpl : ∀ k, (.slice a0 ps.length c0 : Value).ownBlock = some k → H1 ≤ k ∧ k < H3 := fun k hk => by have := hp.lt k hk; omega
              have hol : ∀ k, (.slice a1 os.length c1 : Value).ownBlock = some k → H2 ≤ k ∧ k < H3 := fun k hk => by have := ho.lt k hk; omega
              go_wp2_with fail
              go_loopw [13] (fun i wr => ∃ (j m : Nat) (acc : List (Int × Int)) (sj : St) (v : Value), i = .int .i64 (j : Int) ∧ j + m = nd ∧ Going (getPair 2 4) ds sd m acc sj ∧ acc.length + m ≤ 65535 ∧ sj.1.length ≤ 100000 ∧ Cur wr w1.heap.size sj ∧ Row wr w5.heap.size 57 [.int .i64 v1, .int .i64 v2, .int .i64 v3, .int .i64 v4, (.slice a0 ps.length c0 : Value), .int .i64 v5, .int .i64 v6, .string (bs ky), .string (bs vl), (.slice a1 os.length c1 : Value), v] ∧ Row wr w.heap.size 57 noCells ∧ wr.ownsRow H3 82 2 v acc.length (acc.flatMap numCells) ∧ H3 ≤ wr.heap.size ∧ Below w.heap.size w wr ∧ wr.ownsRow H1 77 2 (.slice a0 ps.length c0 : Value) ps.length (ps.flatMap imgCells) ∧ wr.ownsRow H2 80 2 (.slice a1 os.length c1 : Value) os.length (os.flatMap numCells)) (fun i _ => nd - (intOf i).toNat)
              case atStart => exact ⟨0, nd, [], s11, .slice none 0 0, rfl, by omega, Going.start q14.out, by simp; omega, zs11, h, hC, hR, World.ownsRow_nil _ _ _ _, by omega, hc, hp, ho⟩
              case round =>
                clear hC hR h hc hp ho
                obtain ⟨j, m, acc, sj, v, rfl, hjm, hgo, hml, hsl, h, hC, hR, hown, hH, hc, hp, ho⟩ := hrel
                have HG := Lib.hid hgo
                clear hgo
                have e1 := h.cell (i := 1) rfl
                go_upto_region 24 with (fail)
                go_cut [132] from 123 to 132 (fun t wx => t = .bool (decide (0 < m) && !sj.2) ∧ wx = wr)
                case first =>
                  by_cases hm : m = 0
                  · have hj0 : ¬ (j : Int) < (nd : Int) := by omega
                    subst hm
                    go_wp2_with fail
                    go_meet
                    exact ⟨rfl, rfl⟩
                  · have hm' : (j : Int) < (nd : Int) := by omega
                    go_wp2_with fail
                    go_meet
                    exact ⟨by rw [show decide (0 < m) = true by simp; omega]; rfl, rfl⟩
                case rest =>
                  obtain ⟨rfl, rfl⟩ := hcut
                  cases hq : (decide (0 < m) && !sj.2)
                  rotate_left
                  · simp only [Bool.and_eq_true, decide_eq_true_eq, Bool.not_eq_true'] at hq
                    obtain ⟨hm, hbad⟩ := hq
                    obtain ⟨m', rfl⟩ : ∃ m', m = m' + 1 := ⟨m - 1, by omega⟩
                    obtain ⟨pg, t1, g1⟩ : ∃ pg t1, eNum sj 2 = (pg, t1) := ⟨_, _, rfl⟩
                    obtain ⟨dt, t2, g2⟩ : ∃ dt t2, eNum t1 4 = (dt, t2) := ⟨_, _, rfl⟩
                    have hf : (getPair 2 4) sj = (((pg : Int), (dt : Int)), t2) := by
                      unfold getPair
                      rw [g1]
                      show (((pg : Int), ((eNum t1 4).1 : Int)), (eNum t1 4).2) = _
                      rw [g2]
                    have hnx := HG.out.step hbad hf
                    have l1 := eNum_rest sj 2
                    have l2 := eNum_rest t1 4
                    rw [g1] at l1
                    rw [g2] at l2
                    simp only at l1 l2
                    have hk1 := fun (W : World) (hW : Cur W w1.heap.size sj) => cnum_of g1 2 rfl W hW (by omega) (by omega)
                    have hk2 := fun (W : World) (hW : Cur W w1.heap.size t1) => cnum_of g2 4 rfl W hW (by omega) (by omega)
                    have HN := Lib.hid hnx
                    have K1 := Lib.hid hk1
                    have K2 := Lib.hid hk2
                    clear hnx g1 g2 hf hbad e1 hk1 hk2
                    have hne : ∀ k, v.ownBlock = some k → ¬ One w1.heap.size k := fun k hk hx => by have := (hown.lt k hk).1; have hx' : k = w1.heap.size := hx; omega
                    have hpne : ∀ k, (.slice a0 ps.length c0 : Value).ownBlock = some k → ¬ One w1.heap.size k := fun k hk hx => by have := (hpl k hk).1; have hx' : k = w1.heap.size := hx; omega
                    have hone : ∀ k, (.slice a1 os.length c1 : Value).ownBlock = some k → ¬ One w1.heap.size k := fun k hk hx => by have := (hol k hk).1; have hx' : k = w1.heap.size := hx; omega
                    have x4 := hC.cell (i := 10) rfl
                    have f4 := hC.frozen 10 (by simp)
                    go_wp2_with fail
                    have x4d : wc.drew.cell? ⟨w5.heap.size, 10, none⟩ = some v := x4
                    go_region_law (first
                        | (refine app1_step (news := [.int .i64 (pg : Int), .int .i64 (dt : Int)]) hoc (Below.refl H3 _) (Nat.le_trans hH (Nat.le_trans hc1.size hc2.size)) 55 Try.underlying55 info_dirty rfl (by decide) (by decide) (by omega) rfl (by simp [Value.oneCell']) rfl rfl rfl rfl ?_
                           intro v' wd hod hbd hgd
                           obtain ⟨a', cap', rfl, _⟩ := Reel.own_shape hod
                           have hCd := hCc.grown hgd (fun e => by have := (hoc.lt _ e.symm).1; omega)
                           have x4e := hCd.cell (i := 10) rfl
                           have f4e := hCd.frozen 10 (by simp))
                        | (go_simp
                           go_at_call 59
                           (with_reducible refine (K1.out _ h.drew).mono ?_)
                           rintro e wb ⟨rfl, h1, hc1⟩
                           have hCb := hC.drew.chg hc1 hcb
                           have hob := Reel.own_chg (w := wc.drew) hown hc1 hne
                           have x4a := hCb.cell (i := 10) rfl
                           clear hown)
                        | (go_simp
                           go_at_call 59
                           (with_reducible refine (K2.out _ h1).mono ?_)
                           rintro e we ⟨rfl, h2, hc2⟩
                           have hCc := hCb.chg hc2 hcb
                           have hoc := Reel.own_chg hob hc2 hne
                           have x4b := hCc.cell (i := 10) rfl
                           have x4c := (hCc.alloc (.cells #[.int .i64 (pg : Int), .int .i64 (dt : Int)] 82)).cell (i := 10) rfl
                           clear hob))
                    all_goals
                      have hRd := ((hR.drew.chg hc1 hbw).chg hc2 hbw).grown hgd (fun e => by have := (hoc.lt _ e.symm).1; omega)
                      have hEd := h2.grown hgd (fun e => by have := (hoc.lt _ e.symm).1; omega)
                      have hcc := below_one' (below_one' hc.drew hc1 hc.size hbl) hc2 (Nat.le_trans hc.size hc1.size) hbl
                      have hcd := hcc.grown hgd hcc.size (fun k hk => by have := (hoc.lt k hk).1; omega)
                      have hset : Chg (One w5.heap.size) wd (wd.setCell ⟨w5.heap.size, 10, none⟩ (.slice a' (acc.length + 1) cap')) := (Chg.refl _ _).put _ _
                      have hcd2 := below_one' hcd hset hcd.size (by show w.heap.size ≤ w5.heap.size; omega)
                      have hEd2 := hEd.chg hset (fun hx => hcb (Eq.symm hx))
                      have hRd2 := hRd.chg hset (by show ¬ w.heap.size = w5.heap.size; omega)
                      have hCd2 := (hCd.set 10 (.slice a' (acc.length + 1) cap'))
                      have hod2 := Reel.own_chg hod hset (fun k hk hx => by have := (hod.lt k hk).1; have hx' : k = w5.heap.size := hx; omega)
                      have hH2 : H3 ≤ (wd.setCell ⟨w5.heap.size, 10, none⟩ (.slice a' (acc.length + 1) cap')).heap.size := Nat.le_trans hH (Nat.le_trans hc1.size (Nat.le_trans hc2.size (Nat.le_trans hgd.size hset.size)))
                      simp only [List.set] at hCd2
                      have hp2 := Reel.own_chg (Reel.own_chg (Reel.own_chg (Reel.own_chg (w := wc.drew) hp hc1 hpne) hc2 hpne) (Chg.of_grown hgd) (fun k hk hx => by have := (hpl k hk).2; have := (hoc.lt k hx.symm).1; omega)) hset (fun k hk hx => by have := (hpl k hk).1; have hx' : k = w5.heap.size := hx; omega)
                      have ho2 := Reel.own_chg (Reel.own_chg (Reel.own_chg (Reel.own_chg (w := wc.drew) ho hc1 hone) hc2 hone) (Chg.of_grown hgd) (fun k hk hx => by have := (hol k hk).2; have := (hoc.lt k hx.symm).1; omega)) hset (fun k hk hx => by have := (hol k hk).1; have hx' : k = w5.heap.size := hx; omega)
                      have hof : (acc ++ [((pg : Int), (dt : Int))]).flatMap numCells = acc.flatMap numCells ++ [.int .i64 (pg : Int), .int .i64 (dt : Int)] := by rw [List.flatMap_append]; rfl
                      have hlen1 : acc.length + 1 = (acc ++ [((pg : Int), (dt : Int))]).length := by simp
                      rw [← hof] at hod2
                      have HOD : Hid (World.ownsRow _ H3 82 2 (.slice a' (acc.length + 1) cap') (acc ++ [((pg : Int), (dt : Int))]).length ((acc ++ [((pg : Int), (dt : Int))]).flatMap numCells)) := Lib.hid (own_len hod2 hlen1)
                      have HRD := Lib.hid hRd2
                      have HCD := Lib.hid hCd2
                      have HED := Lib.hid hEd2
                      have HCC := Lib.hid hcd2
                      clear hod2 hRd2 hCd2 hEd2 hcd2 hof hset hcd hEd hRd hoc hod hbd hgd x4e f4e x4a x4b x4c x4 f4 x4d hCd hCb hCc h1 hc1 h2 hc2 hcc h hC hR hc hlen1
                      go_wp2_with fail
                      exact ⟨⟨j + 1, m', acc ++ [((pg : Int), (dt : Int))], t2, .slice a' (acc.length + 1) cap', by go_num, by omega, HN.out, by have := hml; simp; try omega, by omega, HED.out, HCD.out, HRD.out, HOD.out, hH2, HCC.out, hp2, ho2⟩, by simp only [intOf]; omega⟩
                  · have hst : m = 0 ∨ sj.2 = true := by
                      rcases Nat.eq_zero_or_pos m with e | e
                      · exact .inl e
                      · exact .inr (by simpa [e] using hq)
                    obtain ⟨hall, hend⟩ := HG.out.stop hst
                    have HALL3 := Lib.hid hall
                    have HEND3 := Lib.hid hend
                    clear hq HG e1 hst hall hend
                    rw [← HALL3.out] at hown
                    rw [← HEND3.out] at h
                    obtain ⟨a2, c2, rfl, hz2, _⟩ := Reel.own_shape hown
                    have b1 : ps.length ≤ np := by have := (loopP_rest getImage getImage_rest np s9).2; rw [q10.out] at this; exact this
                    have b2 : os.length ≤ no := by have := (loopP_rest (getPair 4 4) (getPair_rest 4 4) no s10).2; rw [q12.out] at this; exact this
                    have b3 : ds.length ≤ nd := by have := (loopP_rest (getPair 2 4) (getPair_rest 2 4) nd s11).2; rw [q14.out] at this; exact this
                    obtain ⟨_, _, e0, p0, u0⟩ := pairs_of_own (g := Value.string) hp rfl (by omega)
                    obtain ⟨_, _, e1, p1, u1⟩ := pairs_of_own (g := Value.int .i64) ho rfl (by omega)
                    obtain ⟨_, _, e2, p2, u2⟩ := pairs_of_own (g := Value.int .i64) hown rfl (by omega)
                    simp only [Value.slice.injEq] at e0 e1 e2
                    obtain ⟨rfl, _, rfl⟩ := e0
                    obtain ⟨rfl, _, rfl⟩ := e1
                    obtain ⟨rfl, _, rfl⟩ := e2
                    clear hp ho hown
                    obtain ⟨rc, hrc⟩ : ∃ rc : Rec, rc = ⟨v1, v2, v3, v4, v5, v6, bs ky, bs vl, ps, os, ds⟩ := ⟨_, rfl⟩
                    have hcells : ∀ x y z, rc.cells x y z = [.int .i64 v1, .int .i64 v2, .int .i64 v3, .int .i64 v4, x, .int .i64 v5, .int .i64 v6, .string (bs ky), .string (bs vl), y, z] := fun x y z => by rw [hrc]; rfl
                    have hrow := hcells (.slice a0 ps.length c0) (.slice a1 os.length c1) (.slice a2 ds.length c2)
                    rw [← hrow] at hC
                    have hsmall : Small rc := by
                      rw [hrc]
                      have kl := eTake_len s6k nk
                      have vl' := eTake_len s7v nv
                      rw [q7'.out] at kl
                      rw [q8'.out] at vl'
                      have i1 : (bs ky).size = ky.length := rfl
                      have i2 : (bs vl).size = vl.length := rfl
                      simp only at kl vl'
                      exact ⟨by show ps.length ≤ _; omega, by show os.length ≤ _; omega, by show ds.length ≤ _; omega, by show (bs ky).size ≤ _; omega, by show (bs vl).size ≤ _; omega⟩
                    have hhas : HasRec wc (.agg (rc.cells (.slice a0 ps.length c0) (.slice a1 os.length c1) (.slice a2 ds.length c2)).toArray) rc := ⟨_, _, _, _, _, _, _, _, _, rfl, by rw [hrc]; exact p0, by rw [hrc]; exact p1, by rw [hrc]; exact p2, hz0, hz1, hz2⟩
                    have hrr : refRead t.data.toList = if sd.2 = false ∧ rc.good = true ∧ rc.bytes = t.data.toList.take (n + 8) then some (rc, n + 8) else none := by
                      unfold refRead
                      rw [if_neg (by rw [HL.out]; omega), ← HN.out, if_neg (by rw [HL.out]; omega), ← hS.out, hP.out, ← hrc]
                    have hrl : ∀ v ∈ rc.cells (.slice a0 ps.length c0) (.slice a1 os.length c1) (.slice a2 ds.length c2), v.oneCell' = true := by rw [hrow]; simp [Value.oneCell']
                    have hzl : ∀ v ∈ noCells, v.oneCell' = true := by simp [noCells, noRec, Rec.cells, Value.oneCell']
                    have hlen11 : (rc.cells (.slice a0 ps.length c0) (.slice a1 os.length c1) (.slice a2 ds.length c2)).length = 11 := rfl
                    have fin : ∀ (w' : World) (a : Act), refRead t.data.toList = none → Row w' w.heap.size 57 noCells → Below w.heap.size w w' → a.tmps.getD 2 undef = .pointer (some ⟨w.heap.size, 0, none⟩) → a.tmps.getD 3 undef = .int .i64 0 → a.tmps.getD 4 undef = .bool false → a.defers = [] →
                        bodyPost Try.prog Try.f34 (fun e w' => RefOut (refOut t.data.toList) e w' ∧ Below w.heap.size w w') .ret a w' := fun w' a hnn hr hbb h2 h3 h4 hd =>
                      ret_row3 hr Try.results34 Try.underlying57 rfl (by kernel_rfl) h2 hd ⟨by rw [refOut_none hnn]; exact ⟨_, by rw [h3, h4]; rfl, noRec_has w'⟩, hbb⟩
                    have e1 := h.cell (i := 1) rfl
                    have HRR := Lib.hid hrr
                    have RL := Lib.hid hrl
                    have ZL := Lib.hid hzl
                    have FIN := Lib.hid fin
                    have HAS := Lib.hid hhas
                    have SM := Lib.hid hsmall
                    have U0 := Lib.hid u0
                    have U1 := Lib.hid u1
                    have U2 := Lib.hid u2
                    have P0 := Lib.hid p0
                    have P1 := Lib.hid p1
                    have P2 := Lib.hid p2
                    have HRC := Lib.hid hrc
                    have HC := Lib.hid hC
                    have HR := Lib.hid hR
                    have HB := Lib.hid hc
                    have L11 := Lib.hid hlen11
                    clear hrr hrl hzl fin hhas hsmall u0 u1 u2 p0 p1 p2 hrow hcells hrc hC hR hc h hlen11
                    obtain ⟨sl, sb⟩ := sd
                    simp only at e1
                    cases sb
                    · go_wp2_with (refine load_row_g HC.out 57 Try.underlying57 rfl (by kernel_rfl) (by rfl) rfl rfl ?_)
                      refine (refgood_calls _ rc _ HAS.out SM.out).mono ?_
                      rintro e w6 ⟨rfl, hb6⟩
                      have hC6 := Lib.hid (HC.out.below hb6 HC.out.lt)
                      have hR6 := Lib.hid (HR.out.below hb6 HR.out.lt)
                      have hB6 := Lib.hid (HB.out.trans (hb6.mono HB.out.size))
                      have has6 := Lib.hid (HAS.out.keep hb6)
                      cases hg : rc.good
                      · have hnn : refRead t.data.toList = none := by rw [HRR.out, if_neg (by simp [hg])]
                        have NN := Lib.hid hnn
                        clear hnn hg hb6
                        go_wp2_with (refine store_row hR6.out noCells 57 (by kernel_rfl) rfl ZL.out rfl rfl rfl rfl ?_; intro wz hRz hcz hsz)
                        exact FIN.out _ _ NN.out hRz (below_one' hB6.out hcz hB6.out.size (Nat.le_refl _)) rfl rfl rfl rfl
                      · have GG := Lib.hid hg
                        clear hg
                        go_wp2_with (refine load_row_g hC6.out 57 Try.underlying57 rfl (by kernel_rfl) (by rfl) rfl rfl ?_)
                        refine (refbytes_calls _ rc _ has6.out GG.out).mono ?_
                        rintro e w7 ⟨rfl, hb7⟩
                        have hC7 := Lib.hid (hC6.out.below hb7 hC6.out.lt)
                        have hR7 := Lib.hid (hR6.out.below hb7 hR6.out.lt)
                        have hB7 := Lib.hid (hB6.out.trans (hb7.mono hB6.out.size))
                        have hPk : ∀ {Y : Type} {g : Y → Value} {a : Option Addr} {k : Nat} {xs : List (Int × Y)}, Pairs g wc a k xs → Pairs g w7 a k xs := fun hp => (hp.keep hb6).keep hb7
                        have PK0 := Lib.hid (hPk P0.out)
                        have PK1 := Lib.hid (hPk P1.out)
                        have PK2 := Lib.hid (hPk P2.out)
                        clear hPk hb6 hb7
                        by_cases hq : rc.bytes = t.data.toList.take (n + 8)
                        · have hss : refRead t.data.toList = some (rc, n + 8) := by rw [HRR.out, if_pos (by simp [GG.out, hq])]
                          have hq1 : ((bs rc.bytes).toList == (t.extract 0 (n + 8)).toList) = true := by rw [beq_iff_eq, Bytes.toList_inj, HA.out, hq]
                          have hs8 : (t.extract 0 (n + 8)).size = n + 8 := by rw [HA.out, bs_size, List.length_take, HL.out]; omega
                          have SS := Lib.hid hss
                          clear hss hq
                          go_wp2_with (first
                            | (refine store_row hR7.out (rc.cells (.slice a0 ps.length c0) (.slice a1 os.length c1) (.slice a2 ds.length c2)) 57 (by kernel_rfl) rfl RL.out rfl rfl rfl rfl ?_; intro wz hRz hcz hsz)
                            | (refine load_row hC7.out 57 Try.underlying57 rfl (by kernel_rfl) rfl rfl rfl ?_))
                          refine ret_row3 hRz Try.results34 Try.underlying57 rfl (by kernel_rfl) rfl rfl ⟨?_, below_one' hB7.out hcz hB7.out.size (Nat.le_refl _)⟩
                          rw [refOut_some SS.out]
                          refine ⟨_, rfl, a0, _, c0, a1, _, c1, a2, _, c2, rfl, ?_, ?_, ?_, hz0, hz1, hz2⟩
                          · rw [HRC.out]
                            exact PK0.out.chg hcz (fun ad h hx => by have := U0.out ad h; have hx' : ad.block = w.heap.size := hx; omega)
                          · rw [HRC.out]
                            exact PK1.out.chg hcz (fun ad h hx => by have := U1.out ad h; have hx' : ad.block = w.heap.size := hx; omega)
                          · rw [HRC.out]
                            exact PK2.out.chg hcz (fun ad h hx => by have := U2.out ad h; have hx' : ad.block = w.heap.size := hx; omega)
                        · have hnn : refRead t.data.toList = none := by rw [HRR.out, if_neg (fun h => hq h.2.2)]
                          have hq1 : ((bs rc.bytes).toList == (t.extract 0 (n + 8)).toList) = false := by
                            rw [beq_eq_false_iff_ne]
                            intro h
                            have h2 := Bytes.toList_inj.1 h
                            rw [HA.out] at h2
                            exact hq (bs_inj h2)
                          have NN := Lib.hid hnn
                          clear hnn hq
                          go_wp2_with (refine store_row hR7.out noCells 57 (by kernel_rfl) rfl ZL.out rfl rfl rfl rfl ?_; intro wz hRz hcz hsz)
                          exact FIN.out _ _ NN.out hRz (below_one' hB7.out hcz hB7.out.size (Nat.le_refl _)) rfl rfl rfl rfl
                    · have hnn : refRead t.data.toList = none := by rw [HRR.out, if_neg (by simp)]
                      have NN := Lib.hid hnn
                      clear hnn
                      go_wp2_with (refine store_row HR.out noCells 57 (by kernel_rfl) rfl ZL.out rfl rfl rfl rfl ?_; intro wz hRz hcz hsz)
                      exact FIN.out _ _ NN.out hRz (below_one' HB.out hcz HB.out.size (Nat.le_refl _)) rfl rfl rfl rfl
end Go.Proofs.Ythfpliiknifgdaa.Note
