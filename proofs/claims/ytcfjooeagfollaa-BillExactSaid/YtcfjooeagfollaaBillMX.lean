/- Merged by merge.py out of BillC, BillCW, BillRA, BillRS, BillRW. -/
import Derived.Test.YtcfjooeagfollaaBillE
import Derived.Test.YtcfjooeagfollaaSignRefR
import Derived.Test.YtcfjooeagfollaaBillR
import Derived.Test.YtcfjooeagfollaaSignRefC
import Derived.Test.YtcfjooeagfollaaBillQ
import Derived.Test.YtcfjooeagfollaaBillG
/- The cursor of gaugerref26: take, one, long, value. -/
namespace Go.Proofs.Ytcfjooeagfollaa.Bill
open Go.RowKit Go.Proofs.Ytcfjooeagfollaa.Mem Go.Proofs.Ytcfjooeagfollaa.Bytes Go.Proofs.Ytcfjooeagfollaa.Num Go.Proofs.Ytcfjooeagfollaa.Sign
set_option linter.unusedSimpArgs false
set_option linter.unusedVariables false
set_option maxRecDepth 20000

/-- Block b is a cursor. -/
abbrev Cur (w : World) (b : Nat) (s : St) : Prop := Row w b 198 [.string (bs s.1), .bool s.2]

set_option maxHeartbeats 400000 in
theorem ctake_calls (b : Nat) (s : St) (n : Nat) (w : World) (h : Cur w b s) (hn : n ≤ 9223372036854775807) (hs : s.1.length ≤ 9223372036854775807) :
    Calls Try.prog 158 #[.pointer (some ⟨b, 0, none⟩), .int .i64 (n : Int)] w fun e w' => e = .returned (.string (bs (eTake s n).1)) ∧ Cur w' b (eTake s n).2 ∧ Chg (One b) w w' := by
  obtain ⟨l, bad⟩ := s
  have x0 := h.cell (i := 0) rfl
  have x1 := h.cell (i := 1) rfl
  have f0 := h.frozen 0 (by simp)
  have f1 := h.frozen 1 (by simp)
  have hsz : (bs l).size = l.length := rfl
  by_cases hlt : l.length < n
  · have e : eTake (l, bad) n = ([], (l, true)) := by simp [eTake, hlt]
    rw [e]
    have hq : (bs l).size < n := hlt
    have H := Lib.hid h
    clear h e hsz
    go_enter Try.func158, Try.ntmps158
    go_wp2
    go_ret
    exact ⟨rfl, (H.out.set 1 _).cast rfl, (Chg.refl _ _).put _ _⟩
  · have e : eTake (l, bad) n = (l.take n, (l.drop n, bad)) := by simp [eTake, hlt]
    rw [e]
    have hq : ¬ (bs l).size < n := hlt
    have hq' : n ≤ (bs l).size := Nat.le_of_not_lt hlt
    have e1 : (bs l).extract 0 n = bs (l.take n) := extract_take _ _
    have e2 : (bs l).extract n (bs l).size = bs (l.drop n) := extract_drop _ _
    have H := Lib.hid h
    have E1 := Lib.hid e1
    have E2 := Lib.hid e2
    clear h e hsz e1 e2
    go_enter Try.func158, Try.ntmps158
    go_wp2
    go_ret
    exact ⟨by rw [E1.out]; rfl, (H.out.set 0 _).cast (by rw [E2.out]; rfl), (Chg.refl _ _).put _ _⟩


theorem lev_dropc {l : List UInt8} {j : Nat} (h : j < l.length) : lev (l.drop j) = l[j].toNat + 256 * lev (l.drop (j + 1)) := by
  rw [List.drop_eq_getElem_cons h]
  rfl
set_option maxHeartbeats 1000000 in
theorem cone_calls (b : Nat) (s : St) (w : World) (h : Cur w b s) (hs : s.1.length ≤ 9223372036854775807) :
    Calls Try.prog 109 #[.pointer (some ⟨b, 0, none⟩)] w fun e w' => e = .returned (.int .i64 ((eOne s).1 : Int)) ∧ Cur w' b (eOne s).2 ∧ Chg (One b) w w' := by
  have ht := ctake_calls b s 1 w h (by omega) hs
  have hlen := eTake_len s 1
  have he : eOne s = (lev (eTake s 1).1, (eTake s 1).2) := rfl
  rw [he]
  clear he h
  generalize eTake s 1 = q at *
  obtain ⟨l, s1⟩ := q
  simp only at hlen ht ⊢
  have HT := Lib.hid ht
  clear ht
  match l, hlen with
  | [], _ =>
    have hz : (bs ([] : List UInt8)).toList.isEmpty = true := by rw [bs_toList]; rfl
    go_enter Try.func109, Try.ntmps109
    go_wp2_with fail
    refine HT.out.mono ?_
    rintro e w1 ⟨rfl, h1, k1⟩
    have H1 := Lib.hid h1
    have K1 := Lib.hid k1
    clear h1 k1
    go_wp2_with fail
    go_ret
    exact ⟨rfl, H1.out, K1.out⟩
  | [x], _ =>
    have hz : (bs [x]).toList.isEmpty = false := by rw [bs_toList]; rfl
    have hsz : 0 < (bs [x]).size := by rw [bs_size]; simp
    have hx : lev [x] = x.toNat := by simp [lev]
    have hxt := x.toNat_lt
    have HX := Lib.hid hx
    clear hx
    go_enter Try.func109, Try.ntmps109
    go_wp2_with fail
    refine HT.out.mono ?_
    rintro e w1 ⟨rfl, h1, k1⟩
    have H1 := Lib.hid h1
    have K1 := Lib.hid k1
    clear h1 k1
    go_wp2_with fail
    go_ret
    exact ⟨by rw [HX.out]; show Ending.returned (.int .i64 (wrap64 (x.toNat : Int))) = _; rw [show wrap64 (x.toNat : Int) = (x.toNat : Int) by unfold wrap64; omega], H1.out, K1.out⟩
  | x :: y :: l, hl => simp at hl
set_option maxHeartbeats 1000000 in
theorem clong_calls (b : Nat) (s : St) (w : World) (h : Cur w b s) (hs : s.1.length ≤ 9223372036854775807) :
    Calls Try.prog 111 #[.pointer (some ⟨b, 0, none⟩)] w fun e w' => e = .returned (.int .i64 (eNum s 8).1) ∧ Cur w' b (eNum s 8).2 ∧ Chg (One b) w w' := by
  have hlen := eTake_len s 8
  have he : eNum s 8 = (wrap64 (lev (eTake s 8).1 : Int), (eTake s 8).2) := rfl
  have ht := ctake_calls b s 8 w h (by omega) hs
  rw [he]
  clear he h
  generalize eTake s 8 = q at *
  obtain ⟨l, s1⟩ := q
  have hl : l.length ≤ 8 := hlen
  have HT := Lib.hid ht
  clear ht hlen
  go_enter Try.func111, Try.ntmps111
  go_wp2_with fail
  refine HT.out.mono ?_
  rintro e w1 ⟨rfl, h1, k1⟩
  have H1 := Lib.hid h1
  have K1 := Lib.hid k1
  clear h1 k1 HT
  have hsz : (bs l).size = l.length := bs_size l
  have HSZ := Lib.hid hsz
  go_wp2_with fail
  clear hsz
  go_loop [4, 5] (fun u i => ∃ j : Nat, j ≤ l.length ∧ i = .int .i64 ((j : Int) - 1) ∧ u = .int .u64 (lev (l.drop j) : Int)) (fun u i => (intOf i + 1).toNat)
  case atStart => exact ⟨l.length, by omega, rfl, by simp [lev]⟩
  case round =>
    obtain ⟨j, hj, rfl, rfl⟩ := hrel
    by_cases hlt : 1 ≤ j
    · obtain ⟨j, rfl⟩ : ∃ q, j = q + 1 := ⟨j - 1, by omega⟩
      have hn : ((j + 1 : Nat) : Int) - 1 = (j : Int) := by omega
      rw [hn]
      clear hn
      have hjl : j < l.length := by omega
      have hst := lev_dropc hjl
      have hll := lev_lt (l.drop (j + 1))
      rw [List.length_drop] at hll
      have hpw := Nat.pow_le_pow_right (show 0 < 256 by omega) (show l.length - (j + 1) ≤ 7 by omega)
      have hxt := l[j].toNat_lt
      have hjs : j < (bs l).size := by rw [HSZ.out]; exact hjl
      have hjs' : (j : Int) < ((bs l).size : Int) := by omega
      have hgj : (bs l)[j] = l[j] := rfl
      have ST := Lib.hid hst
      have HGJ := Lib.hid hgj
      clear hst hgj
      go_wp2_with fail
      exact ⟨⟨j, by omega, by go_num, by rw [ST.out, wrap_u64, wrap_u64, HGJ.out]; congr 1; omega⟩, by simp [intOf]⟩
    · obtain rfl : j = 0 := by omega
      rw [List.drop_zero]
      go_wp2_with fail
      go_ret
      exact ⟨rfl, H1.out, K1.out⟩
theorem eVal_ref (s : St) : eVal s = ((refreadOut (eTake s 9).1).1, ((eTake s 9).2.1, (eTake s 9).2.2 || !(refreadOut (eTake s 9).1).2)) := by
  unfold eVal
  cases h : readV (eTake s 9).1 with
  | none => rw [readOut_none h, refreadOut_none h]; simp
  | some v => rw [readOut_some h, refreadOut_some h]; simp
set_option maxHeartbeats 2000000 in
theorem cvalue_calls (b : Nat) (s : St) (w : World) (h : Cur w b s) (hs : s.1.length ≤ 9223372036854775000) :
    Calls Try.prog 159 #[.pointer (some ⟨b, 0, none⟩)] w fun e w' => e = .returned (eVal s).1.val ∧ Cur w' b (eVal s).2 ∧ Chg (One b) w w' := by
  have hR := Row.new w 81 [.int .i64 0, .int .i64 0, .string ⟨#[]⟩]
  have hE := h.alloc (.cells #[.int .i64 0, .int .i64 0, .string ⟨#[]⟩] 81)
  have hlt := h.lt
  have ht := ctake_calls b s 9 _ hE (by omega) (by omega)
  have hv := eVal_ref s
  have h9 := eTake_len s 9
  rw [hv]
  clear hv
  generalize eTake s 9 = q at *
  obtain ⟨l, l1, bad⟩ := q
  simp only at h9
  have hrd := fun wx => refread_calls (bs l) wx (by rw [bs_size]; omega)
  have e1 : (bs l).data.toList = l := rfl
  obtain ⟨o, ho⟩ : ∃ o, refreadOut l = o := ⟨_, rfl⟩
  rw [e1, ho] at hrd
  rw [ho]
  obtain ⟨⟨vk, vn, vs⟩, c⟩ := o
  have TK := Lib.hid ht
  have RD := Lib.hid (show ∀ wx, Calls Try.prog 178 #[.string (bs l)] wx fun e w' => e = .returned (.tuple #[.agg #[.int .i64 vk, .int .i64 vn, .string vs], .bool c]) ∧ Below wx.heap.size wx w' from hrd)
  have HR := Lib.hid hR
  clear ho hrd ht hE h e1 hR
  go_enter Try.func159, Try.ntmps159
  go_wp2_with fail
  refine TK.out.mono ?_
  rintro e w1 ⟨rfl, h1, k1⟩
  have E1 := Lib.hid h1
  have K1 := Lib.hid (((Chg.refl (One b) w).alloc (.cells #[.int .i64 0, .int .i64 0, .string ⟨#[]⟩] 81)).trans k1)
  have R1 := Lib.hid (HR.out.chg k1 (fun e => by have e : w.heap.size = b := e; omega))
  clear h1 k1
  go_wp2_with fail
  refine (RD.out _).mono ?_
  rintro e w2 ⟨rfl, k2⟩
  have E2 := Lib.hid ((E1.out.below k2 E1.out.lt).alloc (.cells #[.int .i64 vk, .int .i64 vn, .string vs] 81))
  have K2 := Lib.hid ((K1.out.next (Chg.of_below (S := fun _ => False) k2) (fun _ _ x => x.elim)).alloc (.cells #[.int .i64 vk, .int .i64 vn, .string vs] 81))
  have R2 := Lib.hid ((R1.out.below k2 R1.out.lt).alloc (.cells #[.int .i64 vk, .int .i64 vn, .string vs] 81))
  have X2 := Lib.hid (Row.new w2 81 [.int .i64 vk, .int .i64 vn, .string vs])
  have LT := Lib.hid (Nat.lt_of_lt_of_le hlt (show w.heap.size ≤ w2.heap.size from by have a := R1.out.lt; have c := k2.size; omega))
  have LS := Lib.hid (show w.heap.size < w2.heap.size from by have a := R1.out.lt; have c := k2.size; omega)
  clear k2
  have f1 := E2.out.frozen 1 (by simp)
  have y1 := E2.out.cell (i := 1) rfl
  have hne : ¬ b = w2.heap.size := by have := LT.out; omega
  have hne' : ¬ w.heap.size = w2.heap.size := by have := LS.out; omega
  have hne2 : ¬ w.heap.size = b := by omega
  cases c
  · have E3 := Lib.hid ((E2.out.set 1 (.bool true)).cast (cs' := [.string (bs l1), .bool true]) rfl)
    have R3 := Lib.hid (R2.out.set_ne ⟨b, 1, none⟩ (.bool true) (fun e => hne2 e.symm))
    have X3 := Lib.hid (X2.out.set_ne ⟨b, 1, none⟩ (.bool true) (fun e => hne e))
    have K3 := Lib.hid (K2.out.put 1 (.bool true))
    go_wp2_with (first | (refine load_row X3.out 81 Try.underlying81 rfl (by kernel_rfl) rfl rfl rfl ?_) | (refine store_row R3.out [.int .i64 vk, .int .i64 vn, .string vs] 81 (by kernel_rfl) rfl (by simp [Value.oneCell']) rfl rfl rfl rfl ?_; intro w4 h4 k4 z4))
    have H4 := Lib.hid h4
    have E4 := Lib.hid (E3.out.chg k4 (fun e => hne2 (show b = w.heap.size from e).symm))
    have K4 := Lib.hid (K3.out.next k4 (fun k hk e => by have e : k = w.heap.size := e; omega))
    clear h4 k4 z4
    exact ret_row H4.out Try.results159 Try.underlying81 rfl (by kernel_rfl) rfl rfl ⟨rfl, by simpa using E4.out, K4.out⟩
  · go_wp2_with (first | (refine load_row X2.out 81 Try.underlying81 rfl (by kernel_rfl) rfl rfl rfl ?_) | (refine store_row R2.out [.int .i64 vk, .int .i64 vn, .string vs] 81 (by kernel_rfl) rfl (by simp [Value.oneCell']) rfl rfl rfl rfl ?_; intro w4 h4 k4 z4))
    have H4 := Lib.hid h4
    have E4 := Lib.hid (E2.out.chg k4 (fun e => hne2 (show b = w.heap.size from e).symm))
    have K4 := Lib.hid (K2.out.next k4 (fun k hk e => by have e : k = w.heap.size := e; omega))
    clear h4 k4 z4
    exact ret_row H4.out Try.results159 Try.underlying81 rfl (by kernel_rfl) rfl rfl ⟨rfl, by simpa using E4.out, K4.out⟩
end Go.Proofs.Ytcfjooeagfollaa.Bill

/- gaugerref26.cursor.wish. Printed by bill_cwish.py -/
namespace Go.Proofs.Ytcfjooeagfollaa.Bill
open Go.RowKit Go.Proofs.Ytcfjooeagfollaa.Mem Go.Proofs.Ytcfjooeagfollaa.Bytes Go.Proofs.Ytcfjooeagfollaa.Num Go.Proofs.Ytcfjooeagfollaa.Sign
set_option linter.unusedSimpArgs false
set_option linter.unusedVariables false
set_option maxRecDepth 20000

theorem cone_to {b : Nat} {s s' : St} {z : Int} (hz : ((eOne s).1 : Int) = z) (q : (eOne s).2 = s') (w : World) (h : Cur w b s) (hs : s.1.length ≤ 9223372036854775000) :
    Calls Try.prog 109 #[.pointer (some ⟨b, 0, none⟩)] w fun e w' => e = .returned (.int .i64 z) ∧ Cur w' b s' ∧ Chg (One b) w w' := by
  rw [← hz, ← q]
  exact cone_calls b s w h (by omega)
theorem cvalue_to {b : Nat} {s s' : St} {k n : Int} {t : ByteArray} (q : eVal s = (⟨k, n, t⟩, s')) (w : World) (h : Cur w b s) (hs : s.1.length ≤ 9223372036854775000) :
    Calls Try.prog 159 #[.pointer (some ⟨b, 0, none⟩)] w fun e w' => e = .returned (.agg #[.int .i64 k, .int .i64 n, .string t]) ∧ Cur w' b s' ∧ Chg (One b) w w' := by
  have h1 := cvalue_calls b s w h hs
  rw [q] at h1
  exact h1
def CWReads (b : Nat) (s : St) (w : World) (x : Wsh) (s' : St) : Prop := Calls Try.prog 110 #[.pointer (some ⟨b, 0, none⟩)] w fun e w' => WRes w.heap.size x e w' ∧ Cur w' b s' ∧ Chg (One b) w w'

set_option maxHeartbeats 8000000 in
theorem cwish_1 (b : Nat) (s : St) (w : World) (h : Cur w b s) (hs : s.1.length ≤ 9223372036854774000) (s0 s1 : St) (t : Int) (z0 : ((eOne s).1 : Int) = 1) (q0 : (eOne s).2 = s0) (z1 : ((eOne s0).1 : Int) = t) (q1 : (eOne s0).2 = s1) (s3 : St) (n : Nat) (z3 : (eOne s1).1 = n) (q3 : (eOne s1).2 = s3) (R : List V × St) (hR : eVals n s3 = R) : CWReads b s w ⟨1, t, noV, noV, none, 0, R.1, 0, noV, 0⟩ R.2 := by
  have hlt := h.lt
  unfold CWReads
  have Y := Lib.hid (Row.new w 97 [.int .i64 0, .int .i64 0, .int .i64 0, .int .i64 0, .string ⟨#[]⟩, .int .i64 0, .int .i64 0, .string ⟨#[]⟩, .slice none 0 0, .int .i64 0, .int .i64 0, .int .i64 0, .string ⟨#[]⟩, .int .i64 0])
  have E := Lib.hid (h.alloc (.cells #[.int .i64 0, .int .i64 0, .int .i64 0, .int .i64 0, .string ⟨#[]⟩, .int .i64 0, .int .i64 0, .string ⟨#[]⟩, .slice none 0 0, .int .i64 0, .int .i64 0, .int .i64 0, .string ⟨#[]⟩, .int .i64 0] 97))
  have C := Lib.hid ((Chg.refl (One b) w).alloc (.cells #[.int .i64 0, .int .i64 0, .int .i64 0, .int .i64 0, .string ⟨#[]⟩, .int .i64 0, .int .i64 0, .string ⟨#[]⟩, .slice none 0 0, .int .i64 0, .int .i64 0, .int .i64 0, .string ⟨#[]⟩, .int .i64 0] 97))
  have r0 := eOne_rest s
  rw [q0] at r0
  have r1 := eOne_rest s0
  rw [q1] at r1
  have Z1 := Lib.hid z1
  have Q1 := Lib.hid q1
  have Q0 := Lib.hid q0
  have Z0 := Lib.hid z0
  clear q0 q1 z0 z1 h
  go_enter Try.func110, Try.ntmps110
  have hy2 : w.heap.size ≠ b := by omega
  go_wp2_with fail
  refine (cone_to Z0.out Q0.out _ E.out (by omega)).mono ?_
  rintro e w1 ⟨rfl, hE, kc⟩
  replace Y := Lib.hid (Y.out.chg kc hy2)
  replace C := Lib.hid (C.out.trans kc)
  replace E := Lib.hid hE
  clear hE kc
  go_wp2_with fail
  refine (cone_to Z1.out Q1.out _ E.out (by omega)).mono ?_
  rintro e w2 ⟨rfl, hE, kc⟩
  have hyl := (Y.out.chg kc hy2).lt
  replace Y := Lib.hid ((Y.out.chg kc hy2).alloc (.cells #[.int .i64 0, .int .i64 0, .int .i64 0, .int .i64 0, .string ⟨#[]⟩, .int .i64 0, .int .i64 0, .string ⟨#[]⟩, .slice none 0 0, .int .i64 0, .int .i64 0, .int .i64 0, .string ⟨#[]⟩, .int .i64 0] 97))
  replace C := Lib.hid ((C.out.trans kc).alloc (.cells #[.int .i64 0, .int .i64 0, .int .i64 0, .int .i64 0, .string ⟨#[]⟩, .int .i64 0, .int .i64 0, .string ⟨#[]⟩, .slice none 0 0, .int .i64 0, .int .i64 0, .int .i64 0, .string ⟨#[]⟩, .int .i64 0] 97))
  replace E := Lib.hid (hE.alloc (.cells #[.int .i64 0, .int .i64 0, .int .i64 0, .int .i64 0, .string ⟨#[]⟩, .int .i64 0, .int .i64 0, .string ⟨#[]⟩, .slice none 0 0, .int .i64 0, .int .i64 0, .int .i64 0, .string ⟨#[]⟩, .int .i64 0] 97))
  have X := Lib.hid (Row.new w2 97 [.int .i64 0, .int .i64 0, .int .i64 0, .int .i64 0, .string ⟨#[]⟩, .int .i64 0, .int .i64 0, .string ⟨#[]⟩, .slice none 0 0, .int .i64 0, .int .i64 0, .int .i64 0, .string ⟨#[]⟩, .int .i64 0])
  have hb1 : b ≠ w2.heap.size := by omega
  have hb2 : w2.heap.size ≠ b := by omega
  have hy1 : w.heap.size ≠ w2.heap.size := by omega
  clear hE kc
  go_wp2_with (first | (refine store_row X.out [.int .i64 1, .int .i64 t, .int .i64 0, .int .i64 0, .string ⟨#[]⟩, .int .i64 0, .int .i64 0, .string ⟨#[]⟩, .slice none 0 0, .int .i64 0, .int .i64 0, .int .i64 0, .string ⟨#[]⟩, .int .i64 0] 97 (by kernel_rfl) rfl (by simp [Value.oneCell']) rfl rfl rfl rfl ?_; intro w3 hz kz zz; replace E := Lib.hid (E.out.chg kz hb1); replace Y := Lib.hid (Y.out.chg kz hy1); replace C := Lib.hid (chg_new C.out kz (by omega)); replace X := Lib.hid hz; clear hz kz zz; have x0 := X.out.cell (i := 0) rfl))
  clear x0
  have HW := Lib.hid (show w.heap.size ≤ w2.heap.size from by omega)
  generalize w2.heap.size = g at *
  have r3 := eOne_rest s1
  rw [q3] at r3
  have hn : n < 256 := by rw [← z3]; exact eOne_lt s1
  have Q3 := Lib.hid q3
  have Z3 := Lib.hid (show ((eOne s1).1 : Int) = (n : Int) by rw [z3])
  clear q3 z3
  have HR := Lib.hid hR
  clear hR
  refine (cone_to Z3.out Q3.out _ E.out (by omega)).mono ?_
  rintro e w4 ⟨rfl, hE, kc⟩
  replace X := Lib.hid (X.out.chg kc hb2)
  replace Y := Lib.hid (Y.out.chg kc hy2)
  replace C := Lib.hid (C.out.trans kc)
  replace E := Lib.hid hE
  clear hE kc
  go_wp2_with fail
  have hgs := X.out.lt
  go_loopw [5] (fun i wr => ∃ (m : Nat) (vs : List V) (sr : St) (p : Value), m + vs.length = n ∧ i = .int .i64 (vs.length : Int) ∧ Cur wr b sr ∧ sr.1.length ≤ s.1.length ∧ Row wr g 97 [.int .i64 1, .int .i64 t, .int .i64 0, .int .i64 0, .string ⟨#[]⟩, .int .i64 0, .int .i64 0, .string ⟨#[]⟩, p, .int .i64 0, .int .i64 0, .int .i64 0, .string ⟨#[]⟩, .int .i64 0] ∧ wr.ownsRow (g + 1) 81 3 p vs.length (vs.flatMap V.cells) ∧ Row wr w.heap.size 97 [.int .i64 0, .int .i64 0, .int .i64 0, .int .i64 0, .string ⟨#[]⟩, .int .i64 0, .int .i64 0, .string ⟨#[]⟩, .slice none 0 0, .int .i64 0, .int .i64 0, .int .i64 0, .string ⟨#[]⟩, .int .i64 0] ∧ Chg (One b) w wr ∧ R = (vs ++ (eVals m sr).1, (eVals m sr).2)) (fun i _ => n - (intOf i).toNat)
  case atStart => exact ⟨n, [], s3, .slice none 0 0, rfl, rfl, E.out, by omega, X.out, World.ownsRow_nil _ _ _ _, Y.out, C.out, HR.out.symm⟩
  case round =>
    clear X Y E C HR hgs
    obtain ⟨m, vs, sr, p, hmn, rfl, hE, hsr, hX, hO, hY, hC, hI⟩ := hrel
    have X := Lib.hid hX
    have Y := Lib.hid hY
    have E := Lib.hid hE
    have C := Lib.hid hC
    have O := Lib.hid hO
    have I := Lib.hid hI
    clear hX hY hE hC hO hI
    obtain ⟨l, bad⟩ := sr
    simp only at hsr
    have e1 := E.out.cell (i := 1) rfl
    by_cases hm : m = 0 ∨ bad = true
    · have hI2 : R = (vs, (l, bad)) := by
        rw [I.out]
        rcases hm with rfl | rfl
        · simp [eVals]
        · cases m <;> simp [eVals]
      obtain ⟨ra, rc, rfl, hV⟩ := vs_own O.out rfl
      have VV := Lib.hid hV
      have I2 := Lib.hid hI2
      have OO := Lib.hid O.out
      clear hI2 hV I
      by_cases hm0 : m = 0
      · subst hm0
        have d0 : decide (vs.length < n) = false := by simp; omega
        clear hm
        go_wp2_with (first | (refine load_row X.out 97 Try.underlying97 rfl (by kernel_rfl) rfl rfl rfl ?_) | (refine store_row Y.out [.int .i64 1, .int .i64 t, .int .i64 0, .int .i64 0, .string ⟨#[]⟩, .int .i64 0, .int .i64 0, .string ⟨#[]⟩, .slice ra vs.length rc, .int .i64 0, .int .i64 0, .int .i64 0, .string ⟨#[]⟩, .int .i64 0] 97 (by kernel_rfl) rfl (by simp [Value.oneCell']) rfl rfl rfl rfl ?_; intro w90 hR kc hsz2))
        have E9 := Lib.hid (E.out.chg kc (fun e => hy2 (show b = w.heap.size from e).symm))
        have C9 := Lib.hid (chg_new C.out kc (Nat.le_refl _))
        have V9 := Lib.hid (vs_own (Reel.own_chg OO.out kc (fun k hk e => by have a := (OO.out.lt k hk).1; have e : k = w.heap.size := e; have := HW.out; omega)) rfl)
        have R9 := Lib.hid hR
        clear hR kc hsz2
        refine ret_row R9.out Try.results110 Try.underlying97 rfl (by kernel_rfl) rfl rfl ⟨?_, ?_, C9.out⟩
        · rw [I2.out]
          obtain ⟨ra2, rc2, e, hv⟩ := V9.out
          cases e
          exact ⟨_, _, rfl, hv, fun ad e _ => by subst e; have := (OO.out.lt ad.block rfl).1; have := HW.out; omega⟩
        · rw [I2.out]
          exact E9.out
      · obtain rfl : bad = true := hm.resolve_left hm0
        clear hm
        have d0 : decide (vs.length < n) = true := by simp; omega
        go_wp2_with (first | (refine load_row X.out 97 Try.underlying97 rfl (by kernel_rfl) rfl rfl rfl ?_) | (refine store_row Y.out [.int .i64 1, .int .i64 t, .int .i64 0, .int .i64 0, .string ⟨#[]⟩, .int .i64 0, .int .i64 0, .string ⟨#[]⟩, .slice ra vs.length rc, .int .i64 0, .int .i64 0, .int .i64 0, .string ⟨#[]⟩, .int .i64 0] 97 (by kernel_rfl) rfl (by simp [Value.oneCell']) rfl rfl rfl rfl ?_; intro w90 hR kc hsz2))
        have E9 := Lib.hid (E.out.chg kc (fun e => hy2 (show b = w.heap.size from e).symm))
        have C9 := Lib.hid (chg_new C.out kc (Nat.le_refl _))
        have V9 := Lib.hid (vs_own (Reel.own_chg OO.out kc (fun k hk e => by have a := (OO.out.lt k hk).1; have e : k = w.heap.size := e; have := HW.out; omega)) rfl)
        have R9 := Lib.hid hR
        clear hR kc hsz2
        refine ret_row R9.out Try.results110 Try.underlying97 rfl (by kernel_rfl) rfl rfl ⟨?_, ?_, C9.out⟩
        · rw [I2.out]
          obtain ⟨ra2, rc2, e, hv⟩ := V9.out
          cases e
          exact ⟨_, _, rfl, hv, fun ad e _ => by subst e; have := (OO.out.lt ad.block rfl).1; have := HW.out; omega⟩
        · rw [I2.out]
          exact E9.out
    · obtain rfl : bad = false := by cases bad <;> simp_all
      have hm1 : 1 ≤ m := by omega
      clear hm
      obtain ⟨m, rfl⟩ : ∃ j, m = j + 1 := ⟨m - 1, by omega⟩
      have d0 : decide (vs.length < n) = true := decide_eq_true (by omega)
      obtain ⟨⟨⟨v1, v2, v3⟩, s5⟩, hev⟩ : ∃ r, eVal (l, false) = r := ⟨_, rfl⟩
      have hI2 : R = ((vs ++ [⟨v1, v2, v3⟩]) ++ (eVals m s5).1, (eVals m s5).2) := by
        rw [I.out]
        simp [eVals, hev]
      have r5 := eVal_rest (l, false)
      rw [hev] at r5
      simp only at r5
      have I2 := Lib.hid hI2
      have EV := Lib.hid hev
      clear hI2 hev I
      have LO := Lib.hid (Nat.le_of_lt X.out.lt)
      go_wp2_with fail
      clear e1
      replace X := Lib.hid X.out.drew
      replace Y := Lib.hid Y.out.drew
      replace E := Lib.hid E.out.drew
      replace C := Lib.hid C.out.drew
      replace O := Lib.hid (show wr.drew.ownsRow _ _ _ _ _ _ from O.out)
      refine Reg.start (fun w' => w'.cell? ⟨g, 8, none⟩ = some p) (fun i => i == 7) (by kernel_rfl) (X.out.cell rfl) (fun hHeld => ?_)
      generalize wr.drew = wd at *
      refine Reg.takeI 0 (v := ?_) rfl (by kernel_rfl) (by kernel_rfl) (by kernel_rfl) (by kernel_rfl) (fun _ _ _ h => h) (by rfl) ?_ hHeld ?_
      rotate_left 1
      · (intro w hSw; (try dsimp only at hSw); go_simp; try with_reducible rfl)
      try simp only [Act.put, List.setIfInBounds_toArray, List.set_cons_zero, List.set_cons_succ]
      refine Reg.takeI 1 (v := ?_) rfl (by kernel_rfl) (by kernel_rfl) (by kernel_rfl) (by kernel_rfl) (fun _ _ _ h => h) (by rfl) ?_ hHeld ?_
      rotate_left 1
      · (intro w hSw; (try dsimp only at hSw); go_simp; try with_reducible rfl)
      try simp only [Act.put, List.setIfInBounds_toArray, List.set_cons_zero, List.set_cons_succ]
      refine Reg.takeI 2 (v := ?_) rfl (by kernel_rfl) (by kernel_rfl) (by kernel_rfl) (by kernel_rfl) (fun _ _ _ h => h) (by rfl) ?_ hHeld ?_
      rotate_left 1
      · (intro w hSw; (try dsimp only at hSw); go_simp; try with_reducible rfl)
      try simp only [Act.put, List.setIfInBounds_toArray, List.set_cons_zero, List.set_cons_succ]
      refine Reg.oneI 3 rfl (by kernel_rfl) (by rfl) (fun K hK => ?_)
      go_simp
      go_at_call 159
      refine (cvalue_to EV.out _ E.out (show l.length ≤ 9223372036854775000 from by omega)).mono ?_
      rintro e w6 ⟨rfl, hE, kc⟩
      replace X := Lib.hid (X.out.chg kc hb2)
      replace Y := Lib.hid (Y.out.chg kc hy2)
      replace O := Lib.hid (Reel.own_chg O.out kc (fun k hk e => by have a := (O.out.lt k hk).1; have e : k = b := e; have := HW.out; omega))
      replace C := Lib.hid (C.out.trans kc)
      replace E := Lib.hid hE
      clear hE kc
      go_wp2_with fail
      refine hK.out _ _ (fun _ => (X.out.cell rfl)) (fun hHeld => ?_)
      replace hHeld := hHeld (by first | rfl | trivial)
      clear hK K
      try simp only [Act.put, List.setIfInBounds_toArray, List.set_cons_zero, List.set_cons_succ]
      refine Reg.oneI 4 rfl (by kernel_rfl) (by rfl) (fun K hK => ?_)
      go_simp
      have X2 := Lib.hid X.out
      have Y2 := Lib.hid Y.out
      have E2 := Lib.hid E.out
      have C2 := Lib.hid C.out
      replace X := Lib.hid (X.out.alloc (.cells #[.int .i64 v1, .int .i64 v2, .string v3] 81))
      refine hK.out _ _ (fun _ => (X.out.cell rfl)) (fun hHeld => ?_)
      replace hHeld := hHeld (by first | rfl | trivial)
      clear hK K
      try simp only [Act.put, List.setIfInBounds_toArray, List.set_cons_zero, List.set_cons_succ]
      refine Reg.oneI 5 rfl (by kernel_rfl) (by rfl) (fun K hK => ?_)
      refine app1_op (news := [.int .i64 v1, .int .i64 v2, .string v3]) O.out (show g + 1 ≤ w6.heap.size from X2.out.lt) 68 Try.underlying68 info_val val_size (by decide) (by decide) (by have := hmn; omega) rfl (by simp [Value.oneCell']) rfl rfl rfl ?_
      intro v' w7 O7 G7
      have hne : ∀ j, p.ownBlock = some j → g + 1 ≤ j := fun j hj => (O.out.lt j hj).1
      have C7 : Chg (fun j => g + 1 ≤ j) w6 w7 := chg_grown G7 hne
      obtain ⟨a', cap', rfl, _⟩ := Reel.own_shape O7
      replace X := Lib.hid (X2.out.chg C7 (by show ¬ g + 1 ≤ g; omega))
      have Y7 := Lib.hid (Y2.out.chg C7 (by show ¬ g + 1 ≤ w.heap.size; have := HW.out; omega))
      have E7 := Lib.hid (E2.out.chg C7 (by show ¬ g + 1 ≤ b; have := HW.out; omega))
      have C8 := Lib.hid (C2.out.next C7 (fun k hk e => by have e : g + 1 ≤ k := e; have := HW.out; omega))
      have c8 := X.out.cell (i := 8) rfl
      have f8 := X.out.frozen 8 (by simp)
      have HO7 := Lib.hid O7
      clear X2 Y2 E2 C2 C7 G7 hne O7 O Y E C
      refine hK.out _ _ (fun _ => (X.out.cell rfl)) (fun hHeld => ?_)
      replace hHeld := hHeld (by first | rfl | trivial)
      clear hK K
      try simp only [Act.put, List.setIfInBounds_toArray, List.set_cons_zero, List.set_cons_succ]
      refine Reg.takeI 6 (v := ?_) rfl (by kernel_rfl) (by kernel_rfl) (by kernel_rfl) (by kernel_rfl) (fun _ _ _ h => h) (by rfl) ?_ hHeld ?_
      rotate_left 1
      · (intro w hSw; (try dsimp only at hSw); go_simp; try with_reducible rfl)
      try simp only [Act.put, List.setIfInBounds_toArray, List.set_cons_zero, List.set_cons_succ]
      refine Reg.oneI 7 rfl (by kernel_rfl) (by rfl) (fun K hK => ?_)
      go_simp
      refine hK.out _ _ (fun h => by cases h) (fun _ => ?_)
      clear hK K
      try simp only [Act.put, List.setIfInBounds_toArray, List.set_cons_zero, List.set_cons_succ]
      refine Reg.doneI (by kernel_rfl) ?_
      have X8 := Lib.hid ((X.out.set 8 (.slice a' (vs.length + 1) cap')).cast (cs' := [.int .i64 1, .int .i64 t, .int .i64 0, .int .i64 0, .string ⟨#[]⟩, .int .i64 0, .int .i64 0, .string ⟨#[]⟩, (.slice a' (vs.length + 1) cap'), .int .i64 0, .int .i64 0, .int .i64 0, .string ⟨#[]⟩, .int .i64 0]) rfl)
      have Y8 := Lib.hid (Y7.out.set_ne ⟨g, 8, none⟩ (.slice a' (vs.length + 1) cap') (Ne.symm hy1))
      have E8 := Lib.hid (E7.out.set_ne ⟨g, 8, none⟩ (.slice a' (vs.length + 1) cap') hb2)
      have C9 := Lib.hid (chg_new C8.out ((Chg.refl (One g) _).put 8 (.slice a' (vs.length + 1) cap')) HW.out)
      have O8 := Lib.hid (Reel.own_chg HO7.out ((Chg.refl (One g) _).put 8 (.slice a' (vs.length + 1) cap')) (fun j hj x => by have := (HO7.out.lt j hj).1; have e : j = g := x; omega))
      clear X Y7 E7 C8 HO7 c8 f8 hHeld
      go_wp2_with fail
      exact ⟨⟨m, vs ++ [⟨v1, v2, v3⟩], s5, _, by rw [List.length_append]; simp; omega, by rw [List.length_append]; go_num, E8.out, by omega, X8.out, by rw [List.flatMap_append, List.length_append]; exact O8.out, Y8.out, C9.out, I2.out⟩, by simp [intOf]; omega⟩
set_option maxHeartbeats 8000000 in
theorem cwish_2 (b : Nat) (s : St) (w : World) (h : Cur w b s) (hs : s.1.length ≤ 9223372036854774000) (s0 s1 : St) (t : Int) (z0 : ((eOne s).1 : Int) = 2) (q0 : (eOne s).2 = s0) (z1 : ((eOne s0).1 : Int) = t) (q1 : (eOne s0).2 = s1) (s3 : St) (v1 v2 : Int) (v3 : ByteArray) (q3 : eVal s1 = (⟨v1, v2, v3⟩, s3)) : CWReads b s w ⟨2, t, ⟨v1, v2, v3⟩, noV, none, 0, [], 0, noV, 0⟩ s3 := by
  have hlt := h.lt
  unfold CWReads
  have Y := Lib.hid (Row.new w 97 [.int .i64 0, .int .i64 0, .int .i64 0, .int .i64 0, .string ⟨#[]⟩, .int .i64 0, .int .i64 0, .string ⟨#[]⟩, .slice none 0 0, .int .i64 0, .int .i64 0, .int .i64 0, .string ⟨#[]⟩, .int .i64 0])
  have E := Lib.hid (h.alloc (.cells #[.int .i64 0, .int .i64 0, .int .i64 0, .int .i64 0, .string ⟨#[]⟩, .int .i64 0, .int .i64 0, .string ⟨#[]⟩, .slice none 0 0, .int .i64 0, .int .i64 0, .int .i64 0, .string ⟨#[]⟩, .int .i64 0] 97))
  have C := Lib.hid ((Chg.refl (One b) w).alloc (.cells #[.int .i64 0, .int .i64 0, .int .i64 0, .int .i64 0, .string ⟨#[]⟩, .int .i64 0, .int .i64 0, .string ⟨#[]⟩, .slice none 0 0, .int .i64 0, .int .i64 0, .int .i64 0, .string ⟨#[]⟩, .int .i64 0] 97))
  have r0 := eOne_rest s
  rw [q0] at r0
  have r1 := eOne_rest s0
  rw [q1] at r1
  have Z1 := Lib.hid z1
  have Q1 := Lib.hid q1
  have Q0 := Lib.hid q0
  have Z0 := Lib.hid z0
  clear q0 q1 z0 z1 h
  go_enter Try.func110, Try.ntmps110
  have hy2 : w.heap.size ≠ b := by omega
  go_wp2_with fail
  refine (cone_to Z0.out Q0.out _ E.out (by omega)).mono ?_
  rintro e w1 ⟨rfl, hE, kc⟩
  replace Y := Lib.hid (Y.out.chg kc hy2)
  replace C := Lib.hid (C.out.trans kc)
  replace E := Lib.hid hE
  clear hE kc
  go_wp2_with fail
  refine (cone_to Z1.out Q1.out _ E.out (by omega)).mono ?_
  rintro e w2 ⟨rfl, hE, kc⟩
  have hyl := (Y.out.chg kc hy2).lt
  replace Y := Lib.hid ((Y.out.chg kc hy2).alloc (.cells #[.int .i64 0, .int .i64 0, .int .i64 0, .int .i64 0, .string ⟨#[]⟩, .int .i64 0, .int .i64 0, .string ⟨#[]⟩, .slice none 0 0, .int .i64 0, .int .i64 0, .int .i64 0, .string ⟨#[]⟩, .int .i64 0] 97))
  replace C := Lib.hid ((C.out.trans kc).alloc (.cells #[.int .i64 0, .int .i64 0, .int .i64 0, .int .i64 0, .string ⟨#[]⟩, .int .i64 0, .int .i64 0, .string ⟨#[]⟩, .slice none 0 0, .int .i64 0, .int .i64 0, .int .i64 0, .string ⟨#[]⟩, .int .i64 0] 97))
  replace E := Lib.hid (hE.alloc (.cells #[.int .i64 0, .int .i64 0, .int .i64 0, .int .i64 0, .string ⟨#[]⟩, .int .i64 0, .int .i64 0, .string ⟨#[]⟩, .slice none 0 0, .int .i64 0, .int .i64 0, .int .i64 0, .string ⟨#[]⟩, .int .i64 0] 97))
  have X := Lib.hid (Row.new w2 97 [.int .i64 0, .int .i64 0, .int .i64 0, .int .i64 0, .string ⟨#[]⟩, .int .i64 0, .int .i64 0, .string ⟨#[]⟩, .slice none 0 0, .int .i64 0, .int .i64 0, .int .i64 0, .string ⟨#[]⟩, .int .i64 0])
  have hb1 : b ≠ w2.heap.size := by omega
  have hb2 : w2.heap.size ≠ b := by omega
  have hy1 : w.heap.size ≠ w2.heap.size := by omega
  clear hE kc
  go_wp2_with (first | (refine store_row X.out [.int .i64 2, .int .i64 t, .int .i64 0, .int .i64 0, .string ⟨#[]⟩, .int .i64 0, .int .i64 0, .string ⟨#[]⟩, .slice none 0 0, .int .i64 0, .int .i64 0, .int .i64 0, .string ⟨#[]⟩, .int .i64 0] 97 (by kernel_rfl) rfl (by simp [Value.oneCell']) rfl rfl rfl rfl ?_; intro w3 hz kz zz; replace E := Lib.hid (E.out.chg kz hb1); replace Y := Lib.hid (Y.out.chg kz hy1); replace C := Lib.hid (chg_new C.out kz (by omega)); replace X := Lib.hid hz; clear hz kz zz; have x0 := X.out.cell (i := 0) rfl))
  clear x0
  have HW := Lib.hid (show w.heap.size ≤ w2.heap.size from by omega)
  generalize w2.heap.size = g at *
  have Q3 := Lib.hid q3
  clear q3
  refine (cvalue_to Q3.out _ E.out (by omega)).mono ?_
  rintro e w4 ⟨rfl, hE, kc⟩
  replace X := Lib.hid (X.out.chg kc hb2)
  replace Y := Lib.hid (Y.out.chg kc hy2)
  replace C := Lib.hid (C.out.trans kc)
  replace E := Lib.hid hE
  clear hE kc
  have x2 := X.out.cell (i := 2) rfl
  have g2 := X.out.frozen 2 (by simp)
  have x3 := X.out.cell (i := 3) rfl
  have g3 := X.out.frozen 3 (by simp)
  have x4 := X.out.cell (i := 4) rfl
  have g4 := X.out.frozen 4 (by simp)
  have XF := Lib.hid ((((X.out.set 2 (.int .i64 v1)).set 3 (.int .i64 v2)).set 4 (.string v3)).cast (cs' := [.int .i64 2, .int .i64 t, .int .i64 v1, .int .i64 v2, .string v3, .int .i64 0, .int .i64 0, .string ⟨#[]⟩, .slice none 0 0, .int .i64 0, .int .i64 0, .int .i64 0, .string ⟨#[]⟩, .int .i64 0]) rfl)
  have YF := Lib.hid (((Y.out.set_ne ⟨g, 2, none⟩ (.int .i64 v1) (Ne.symm hy1)).set_ne ⟨g, 3, none⟩ (.int .i64 v2) (Ne.symm hy1)).set_ne ⟨g, 4, none⟩ (.string v3) (Ne.symm hy1))
  have EF := Lib.hid (((E.out.set_ne ⟨g, 2, none⟩ (.int .i64 v1) hb2).set_ne ⟨g, 3, none⟩ (.int .i64 v2) hb2).set_ne ⟨g, 4, none⟩ (.string v3) hb2)
  have CF := Lib.hid (chg_new (chg_new (chg_new C.out ((Chg.refl (One g) _).put 2 (.int .i64 v1)) HW.out) ((Chg.refl (One g) _).put 3 (.int .i64 v2)) HW.out) ((Chg.refl (One g) _).put 4 (.string v3)) HW.out)
  go_wp2_with (first | (refine load_row XF.out 97 Try.underlying97 rfl (by kernel_rfl) rfl rfl rfl ?_) | (refine store_row YF.out [.int .i64 2, .int .i64 t, .int .i64 v1, .int .i64 v2, .string v3, .int .i64 0, .int .i64 0, .string ⟨#[]⟩, .slice none 0 0, .int .i64 0, .int .i64 0, .int .i64 0, .string ⟨#[]⟩, .int .i64 0] 97 (by kernel_rfl) rfl (by simp [Value.oneCell']) rfl rfl rfl rfl ?_; intro w90 hR kc hsz2))
  have E9 := Lib.hid (EF.out.chg kc (fun e => hy2 (show b = w.heap.size from e).symm))
  have C9 := Lib.hid (chg_new CF.out kc (Nat.le_refl _))
  have R9 := Lib.hid hR
  clear hR kc hsz2
  exact ret_row R9.out Try.results110 Try.underlying97 rfl (by kernel_rfl) rfl rfl ⟨wres_none rfl rfl rfl, E9.out, C9.out⟩
set_option maxHeartbeats 8000000 in
theorem cwish_4 (b : Nat) (s : St) (w : World) (h : Cur w b s) (hs : s.1.length ≤ 9223372036854774000) (s0 s1 : St) (t : Int) (z0 : ((eOne s).1 : Int) = 4) (q0 : (eOne s).2 = s0) (z1 : ((eOne s0).1 : Int) = t) (q1 : (eOne s0).2 = s1) (s3 : St) (v1 v2 : Int) (v3 : ByteArray) (q3 : eVal s1 = (⟨v1, v2, v3⟩, s3)) : CWReads b s w ⟨4, t, ⟨v1, v2, v3⟩, noV, none, 0, [], 0, noV, 0⟩ s3 := by
  have hlt := h.lt
  unfold CWReads
  have Y := Lib.hid (Row.new w 97 [.int .i64 0, .int .i64 0, .int .i64 0, .int .i64 0, .string ⟨#[]⟩, .int .i64 0, .int .i64 0, .string ⟨#[]⟩, .slice none 0 0, .int .i64 0, .int .i64 0, .int .i64 0, .string ⟨#[]⟩, .int .i64 0])
  have E := Lib.hid (h.alloc (.cells #[.int .i64 0, .int .i64 0, .int .i64 0, .int .i64 0, .string ⟨#[]⟩, .int .i64 0, .int .i64 0, .string ⟨#[]⟩, .slice none 0 0, .int .i64 0, .int .i64 0, .int .i64 0, .string ⟨#[]⟩, .int .i64 0] 97))
  have C := Lib.hid ((Chg.refl (One b) w).alloc (.cells #[.int .i64 0, .int .i64 0, .int .i64 0, .int .i64 0, .string ⟨#[]⟩, .int .i64 0, .int .i64 0, .string ⟨#[]⟩, .slice none 0 0, .int .i64 0, .int .i64 0, .int .i64 0, .string ⟨#[]⟩, .int .i64 0] 97))
  have r0 := eOne_rest s
  rw [q0] at r0
  have r1 := eOne_rest s0
  rw [q1] at r1
  have Z1 := Lib.hid z1
  have Q1 := Lib.hid q1
  have Q0 := Lib.hid q0
  have Z0 := Lib.hid z0
  clear q0 q1 z0 z1 h
  go_enter Try.func110, Try.ntmps110
  have hy2 : w.heap.size ≠ b := by omega
  go_wp2_with fail
  refine (cone_to Z0.out Q0.out _ E.out (by omega)).mono ?_
  rintro e w1 ⟨rfl, hE, kc⟩
  replace Y := Lib.hid (Y.out.chg kc hy2)
  replace C := Lib.hid (C.out.trans kc)
  replace E := Lib.hid hE
  clear hE kc
  go_wp2_with fail
  refine (cone_to Z1.out Q1.out _ E.out (by omega)).mono ?_
  rintro e w2 ⟨rfl, hE, kc⟩
  have hyl := (Y.out.chg kc hy2).lt
  replace Y := Lib.hid ((Y.out.chg kc hy2).alloc (.cells #[.int .i64 0, .int .i64 0, .int .i64 0, .int .i64 0, .string ⟨#[]⟩, .int .i64 0, .int .i64 0, .string ⟨#[]⟩, .slice none 0 0, .int .i64 0, .int .i64 0, .int .i64 0, .string ⟨#[]⟩, .int .i64 0] 97))
  replace C := Lib.hid ((C.out.trans kc).alloc (.cells #[.int .i64 0, .int .i64 0, .int .i64 0, .int .i64 0, .string ⟨#[]⟩, .int .i64 0, .int .i64 0, .string ⟨#[]⟩, .slice none 0 0, .int .i64 0, .int .i64 0, .int .i64 0, .string ⟨#[]⟩, .int .i64 0] 97))
  replace E := Lib.hid (hE.alloc (.cells #[.int .i64 0, .int .i64 0, .int .i64 0, .int .i64 0, .string ⟨#[]⟩, .int .i64 0, .int .i64 0, .string ⟨#[]⟩, .slice none 0 0, .int .i64 0, .int .i64 0, .int .i64 0, .string ⟨#[]⟩, .int .i64 0] 97))
  have X := Lib.hid (Row.new w2 97 [.int .i64 0, .int .i64 0, .int .i64 0, .int .i64 0, .string ⟨#[]⟩, .int .i64 0, .int .i64 0, .string ⟨#[]⟩, .slice none 0 0, .int .i64 0, .int .i64 0, .int .i64 0, .string ⟨#[]⟩, .int .i64 0])
  have hb1 : b ≠ w2.heap.size := by omega
  have hb2 : w2.heap.size ≠ b := by omega
  have hy1 : w.heap.size ≠ w2.heap.size := by omega
  clear hE kc
  go_wp2_with (first | (refine store_row X.out [.int .i64 4, .int .i64 t, .int .i64 0, .int .i64 0, .string ⟨#[]⟩, .int .i64 0, .int .i64 0, .string ⟨#[]⟩, .slice none 0 0, .int .i64 0, .int .i64 0, .int .i64 0, .string ⟨#[]⟩, .int .i64 0] 97 (by kernel_rfl) rfl (by simp [Value.oneCell']) rfl rfl rfl rfl ?_; intro w3 hz kz zz; replace E := Lib.hid (E.out.chg kz hb1); replace Y := Lib.hid (Y.out.chg kz hy1); replace C := Lib.hid (chg_new C.out kz (by omega)); replace X := Lib.hid hz; clear hz kz zz; have x0 := X.out.cell (i := 0) rfl))
  clear x0
  have HW := Lib.hid (show w.heap.size ≤ w2.heap.size from by omega)
  generalize w2.heap.size = g at *
  have Q3 := Lib.hid q3
  clear q3
  refine (cvalue_to Q3.out _ E.out (by omega)).mono ?_
  rintro e w4 ⟨rfl, hE, kc⟩
  replace X := Lib.hid (X.out.chg kc hb2)
  replace Y := Lib.hid (Y.out.chg kc hy2)
  replace C := Lib.hid (C.out.trans kc)
  replace E := Lib.hid hE
  clear hE kc
  have x2 := X.out.cell (i := 2) rfl
  have g2 := X.out.frozen 2 (by simp)
  have x3 := X.out.cell (i := 3) rfl
  have g3 := X.out.frozen 3 (by simp)
  have x4 := X.out.cell (i := 4) rfl
  have g4 := X.out.frozen 4 (by simp)
  have XF := Lib.hid ((((X.out.set 2 (.int .i64 v1)).set 3 (.int .i64 v2)).set 4 (.string v3)).cast (cs' := [.int .i64 4, .int .i64 t, .int .i64 v1, .int .i64 v2, .string v3, .int .i64 0, .int .i64 0, .string ⟨#[]⟩, .slice none 0 0, .int .i64 0, .int .i64 0, .int .i64 0, .string ⟨#[]⟩, .int .i64 0]) rfl)
  have YF := Lib.hid (((Y.out.set_ne ⟨g, 2, none⟩ (.int .i64 v1) (Ne.symm hy1)).set_ne ⟨g, 3, none⟩ (.int .i64 v2) (Ne.symm hy1)).set_ne ⟨g, 4, none⟩ (.string v3) (Ne.symm hy1))
  have EF := Lib.hid (((E.out.set_ne ⟨g, 2, none⟩ (.int .i64 v1) hb2).set_ne ⟨g, 3, none⟩ (.int .i64 v2) hb2).set_ne ⟨g, 4, none⟩ (.string v3) hb2)
  have CF := Lib.hid (chg_new (chg_new (chg_new C.out ((Chg.refl (One g) _).put 2 (.int .i64 v1)) HW.out) ((Chg.refl (One g) _).put 3 (.int .i64 v2)) HW.out) ((Chg.refl (One g) _).put 4 (.string v3)) HW.out)
  go_wp2_with (first | (refine load_row XF.out 97 Try.underlying97 rfl (by kernel_rfl) rfl rfl rfl ?_) | (refine store_row YF.out [.int .i64 4, .int .i64 t, .int .i64 v1, .int .i64 v2, .string v3, .int .i64 0, .int .i64 0, .string ⟨#[]⟩, .slice none 0 0, .int .i64 0, .int .i64 0, .int .i64 0, .string ⟨#[]⟩, .int .i64 0] 97 (by kernel_rfl) rfl (by simp [Value.oneCell']) rfl rfl rfl rfl ?_; intro w90 hR kc hsz2))
  have E9 := Lib.hid (EF.out.chg kc (fun e => hy2 (show b = w.heap.size from e).symm))
  have C9 := Lib.hid (chg_new CF.out kc (Nat.le_refl _))
  have R9 := Lib.hid hR
  clear hR kc hsz2
  exact ret_row R9.out Try.results110 Try.underlying97 rfl (by kernel_rfl) rfl rfl ⟨wres_none rfl rfl rfl, E9.out, C9.out⟩
set_option maxHeartbeats 8000000 in
theorem cwish_6 (b : Nat) (s : St) (w : World) (h : Cur w b s) (hs : s.1.length ≤ 9223372036854774000) (s0 s1 : St) (t : Int) (z0 : ((eOne s).1 : Int) = 6) (q0 : (eOne s).2 = s0) (z1 : ((eOne s0).1 : Int) = t) (q1 : (eOne s0).2 = s1) (s3 : St) (v1 v2 : Int) (v3 : ByteArray) (q3 : eVal s1 = (⟨v1, v2, v3⟩, s3)) : CWReads b s w ⟨6, t, ⟨v1, v2, v3⟩, noV, none, 0, [], 0, noV, 0⟩ s3 := by
  have hlt := h.lt
  unfold CWReads
  have Y := Lib.hid (Row.new w 97 [.int .i64 0, .int .i64 0, .int .i64 0, .int .i64 0, .string ⟨#[]⟩, .int .i64 0, .int .i64 0, .string ⟨#[]⟩, .slice none 0 0, .int .i64 0, .int .i64 0, .int .i64 0, .string ⟨#[]⟩, .int .i64 0])
  have E := Lib.hid (h.alloc (.cells #[.int .i64 0, .int .i64 0, .int .i64 0, .int .i64 0, .string ⟨#[]⟩, .int .i64 0, .int .i64 0, .string ⟨#[]⟩, .slice none 0 0, .int .i64 0, .int .i64 0, .int .i64 0, .string ⟨#[]⟩, .int .i64 0] 97))
  have C := Lib.hid ((Chg.refl (One b) w).alloc (.cells #[.int .i64 0, .int .i64 0, .int .i64 0, .int .i64 0, .string ⟨#[]⟩, .int .i64 0, .int .i64 0, .string ⟨#[]⟩, .slice none 0 0, .int .i64 0, .int .i64 0, .int .i64 0, .string ⟨#[]⟩, .int .i64 0] 97))
  have r0 := eOne_rest s
  rw [q0] at r0
  have r1 := eOne_rest s0
  rw [q1] at r1
  have Z1 := Lib.hid z1
  have Q1 := Lib.hid q1
  have Q0 := Lib.hid q0
  have Z0 := Lib.hid z0
  clear q0 q1 z0 z1 h
  go_enter Try.func110, Try.ntmps110
  have hy2 : w.heap.size ≠ b := by omega
  go_wp2_with fail
  refine (cone_to Z0.out Q0.out _ E.out (by omega)).mono ?_
  rintro e w1 ⟨rfl, hE, kc⟩
  replace Y := Lib.hid (Y.out.chg kc hy2)
  replace C := Lib.hid (C.out.trans kc)
  replace E := Lib.hid hE
  clear hE kc
  go_wp2_with fail
  refine (cone_to Z1.out Q1.out _ E.out (by omega)).mono ?_
  rintro e w2 ⟨rfl, hE, kc⟩
  have hyl := (Y.out.chg kc hy2).lt
  replace Y := Lib.hid ((Y.out.chg kc hy2).alloc (.cells #[.int .i64 0, .int .i64 0, .int .i64 0, .int .i64 0, .string ⟨#[]⟩, .int .i64 0, .int .i64 0, .string ⟨#[]⟩, .slice none 0 0, .int .i64 0, .int .i64 0, .int .i64 0, .string ⟨#[]⟩, .int .i64 0] 97))
  replace C := Lib.hid ((C.out.trans kc).alloc (.cells #[.int .i64 0, .int .i64 0, .int .i64 0, .int .i64 0, .string ⟨#[]⟩, .int .i64 0, .int .i64 0, .string ⟨#[]⟩, .slice none 0 0, .int .i64 0, .int .i64 0, .int .i64 0, .string ⟨#[]⟩, .int .i64 0] 97))
  replace E := Lib.hid (hE.alloc (.cells #[.int .i64 0, .int .i64 0, .int .i64 0, .int .i64 0, .string ⟨#[]⟩, .int .i64 0, .int .i64 0, .string ⟨#[]⟩, .slice none 0 0, .int .i64 0, .int .i64 0, .int .i64 0, .string ⟨#[]⟩, .int .i64 0] 97))
  have X := Lib.hid (Row.new w2 97 [.int .i64 0, .int .i64 0, .int .i64 0, .int .i64 0, .string ⟨#[]⟩, .int .i64 0, .int .i64 0, .string ⟨#[]⟩, .slice none 0 0, .int .i64 0, .int .i64 0, .int .i64 0, .string ⟨#[]⟩, .int .i64 0])
  have hb1 : b ≠ w2.heap.size := by omega
  have hb2 : w2.heap.size ≠ b := by omega
  have hy1 : w.heap.size ≠ w2.heap.size := by omega
  clear hE kc
  go_wp2_with (first | (refine store_row X.out [.int .i64 6, .int .i64 t, .int .i64 0, .int .i64 0, .string ⟨#[]⟩, .int .i64 0, .int .i64 0, .string ⟨#[]⟩, .slice none 0 0, .int .i64 0, .int .i64 0, .int .i64 0, .string ⟨#[]⟩, .int .i64 0] 97 (by kernel_rfl) rfl (by simp [Value.oneCell']) rfl rfl rfl rfl ?_; intro w3 hz kz zz; replace E := Lib.hid (E.out.chg kz hb1); replace Y := Lib.hid (Y.out.chg kz hy1); replace C := Lib.hid (chg_new C.out kz (by omega)); replace X := Lib.hid hz; clear hz kz zz; have x0 := X.out.cell (i := 0) rfl))
  clear x0
  have HW := Lib.hid (show w.heap.size ≤ w2.heap.size from by omega)
  generalize w2.heap.size = g at *
  have Q3 := Lib.hid q3
  clear q3
  refine (cvalue_to Q3.out _ E.out (by omega)).mono ?_
  rintro e w4 ⟨rfl, hE, kc⟩
  replace X := Lib.hid (X.out.chg kc hb2)
  replace Y := Lib.hid (Y.out.chg kc hy2)
  replace C := Lib.hid (C.out.trans kc)
  replace E := Lib.hid hE
  clear hE kc
  have x2 := X.out.cell (i := 2) rfl
  have g2 := X.out.frozen 2 (by simp)
  have x3 := X.out.cell (i := 3) rfl
  have g3 := X.out.frozen 3 (by simp)
  have x4 := X.out.cell (i := 4) rfl
  have g4 := X.out.frozen 4 (by simp)
  have XF := Lib.hid ((((X.out.set 2 (.int .i64 v1)).set 3 (.int .i64 v2)).set 4 (.string v3)).cast (cs' := [.int .i64 6, .int .i64 t, .int .i64 v1, .int .i64 v2, .string v3, .int .i64 0, .int .i64 0, .string ⟨#[]⟩, .slice none 0 0, .int .i64 0, .int .i64 0, .int .i64 0, .string ⟨#[]⟩, .int .i64 0]) rfl)
  have YF := Lib.hid (((Y.out.set_ne ⟨g, 2, none⟩ (.int .i64 v1) (Ne.symm hy1)).set_ne ⟨g, 3, none⟩ (.int .i64 v2) (Ne.symm hy1)).set_ne ⟨g, 4, none⟩ (.string v3) (Ne.symm hy1))
  have EF := Lib.hid (((E.out.set_ne ⟨g, 2, none⟩ (.int .i64 v1) hb2).set_ne ⟨g, 3, none⟩ (.int .i64 v2) hb2).set_ne ⟨g, 4, none⟩ (.string v3) hb2)
  have CF := Lib.hid (chg_new (chg_new (chg_new C.out ((Chg.refl (One g) _).put 2 (.int .i64 v1)) HW.out) ((Chg.refl (One g) _).put 3 (.int .i64 v2)) HW.out) ((Chg.refl (One g) _).put 4 (.string v3)) HW.out)
  go_wp2_with (first | (refine load_row XF.out 97 Try.underlying97 rfl (by kernel_rfl) rfl rfl rfl ?_) | (refine store_row YF.out [.int .i64 6, .int .i64 t, .int .i64 v1, .int .i64 v2, .string v3, .int .i64 0, .int .i64 0, .string ⟨#[]⟩, .slice none 0 0, .int .i64 0, .int .i64 0, .int .i64 0, .string ⟨#[]⟩, .int .i64 0] 97 (by kernel_rfl) rfl (by simp [Value.oneCell']) rfl rfl rfl rfl ?_; intro w90 hR kc hsz2))
  have E9 := Lib.hid (EF.out.chg kc (fun e => hy2 (show b = w.heap.size from e).symm))
  have C9 := Lib.hid (chg_new CF.out kc (Nat.le_refl _))
  have R9 := Lib.hid hR
  clear hR kc hsz2
  exact ret_row R9.out Try.results110 Try.underlying97 rfl (by kernel_rfl) rfl rfl ⟨wres_none rfl rfl rfl, E9.out, C9.out⟩
set_option maxHeartbeats 8000000 in
theorem cwish_3 (b : Nat) (s : St) (w : World) (h : Cur w b s) (hs : s.1.length ≤ 9223372036854774000) (s0 s1 : St) (t : Int) (z0 : ((eOne s).1 : Int) = 3) (q0 : (eOne s).2 = s0) (z1 : ((eOne s0).1 : Int) = t) (q1 : (eOne s0).2 = s1) (s3 s4 s5 : St) (v1 v2 : Int) (v3 : ByteArray) (q3 : eVal s1 = (⟨v1, v2, v3⟩, s3)) (c : Int) (z4 : ((eOne s3).1 : Int) = c) (q4 : (eOne s3).2 = s4) (u1 u2 : Int) (u3 : ByteArray) (q5 : eVal s4 = (⟨u1, u2, u3⟩, s5)) : CWReads b s w ⟨3, t, ⟨v1, v2, v3⟩, noV, none, 0, [], c, ⟨u1, u2, u3⟩, 0⟩ s5 := by
  have hlt := h.lt
  unfold CWReads
  have Y := Lib.hid (Row.new w 97 [.int .i64 0, .int .i64 0, .int .i64 0, .int .i64 0, .string ⟨#[]⟩, .int .i64 0, .int .i64 0, .string ⟨#[]⟩, .slice none 0 0, .int .i64 0, .int .i64 0, .int .i64 0, .string ⟨#[]⟩, .int .i64 0])
  have E := Lib.hid (h.alloc (.cells #[.int .i64 0, .int .i64 0, .int .i64 0, .int .i64 0, .string ⟨#[]⟩, .int .i64 0, .int .i64 0, .string ⟨#[]⟩, .slice none 0 0, .int .i64 0, .int .i64 0, .int .i64 0, .string ⟨#[]⟩, .int .i64 0] 97))
  have C := Lib.hid ((Chg.refl (One b) w).alloc (.cells #[.int .i64 0, .int .i64 0, .int .i64 0, .int .i64 0, .string ⟨#[]⟩, .int .i64 0, .int .i64 0, .string ⟨#[]⟩, .slice none 0 0, .int .i64 0, .int .i64 0, .int .i64 0, .string ⟨#[]⟩, .int .i64 0] 97))
  have r0 := eOne_rest s
  rw [q0] at r0
  have r1 := eOne_rest s0
  rw [q1] at r1
  have Z1 := Lib.hid z1
  have Q1 := Lib.hid q1
  have Q0 := Lib.hid q0
  have Z0 := Lib.hid z0
  clear q0 q1 z0 z1 h
  go_enter Try.func110, Try.ntmps110
  have hy2 : w.heap.size ≠ b := by omega
  go_wp2_with fail
  refine (cone_to Z0.out Q0.out _ E.out (by omega)).mono ?_
  rintro e w1 ⟨rfl, hE, kc⟩
  replace Y := Lib.hid (Y.out.chg kc hy2)
  replace C := Lib.hid (C.out.trans kc)
  replace E := Lib.hid hE
  clear hE kc
  go_wp2_with fail
  refine (cone_to Z1.out Q1.out _ E.out (by omega)).mono ?_
  rintro e w2 ⟨rfl, hE, kc⟩
  have hyl := (Y.out.chg kc hy2).lt
  replace Y := Lib.hid ((Y.out.chg kc hy2).alloc (.cells #[.int .i64 0, .int .i64 0, .int .i64 0, .int .i64 0, .string ⟨#[]⟩, .int .i64 0, .int .i64 0, .string ⟨#[]⟩, .slice none 0 0, .int .i64 0, .int .i64 0, .int .i64 0, .string ⟨#[]⟩, .int .i64 0] 97))
  replace C := Lib.hid ((C.out.trans kc).alloc (.cells #[.int .i64 0, .int .i64 0, .int .i64 0, .int .i64 0, .string ⟨#[]⟩, .int .i64 0, .int .i64 0, .string ⟨#[]⟩, .slice none 0 0, .int .i64 0, .int .i64 0, .int .i64 0, .string ⟨#[]⟩, .int .i64 0] 97))
  replace E := Lib.hid (hE.alloc (.cells #[.int .i64 0, .int .i64 0, .int .i64 0, .int .i64 0, .string ⟨#[]⟩, .int .i64 0, .int .i64 0, .string ⟨#[]⟩, .slice none 0 0, .int .i64 0, .int .i64 0, .int .i64 0, .string ⟨#[]⟩, .int .i64 0] 97))
  have X := Lib.hid (Row.new w2 97 [.int .i64 0, .int .i64 0, .int .i64 0, .int .i64 0, .string ⟨#[]⟩, .int .i64 0, .int .i64 0, .string ⟨#[]⟩, .slice none 0 0, .int .i64 0, .int .i64 0, .int .i64 0, .string ⟨#[]⟩, .int .i64 0])
  have hb1 : b ≠ w2.heap.size := by omega
  have hb2 : w2.heap.size ≠ b := by omega
  have hy1 : w.heap.size ≠ w2.heap.size := by omega
  clear hE kc
  go_wp2_with (first | (refine store_row X.out [.int .i64 3, .int .i64 t, .int .i64 0, .int .i64 0, .string ⟨#[]⟩, .int .i64 0, .int .i64 0, .string ⟨#[]⟩, .slice none 0 0, .int .i64 0, .int .i64 0, .int .i64 0, .string ⟨#[]⟩, .int .i64 0] 97 (by kernel_rfl) rfl (by simp [Value.oneCell']) rfl rfl rfl rfl ?_; intro w3 hz kz zz; replace E := Lib.hid (E.out.chg kz hb1); replace Y := Lib.hid (Y.out.chg kz hy1); replace C := Lib.hid (chg_new C.out kz (by omega)); replace X := Lib.hid hz; clear hz kz zz; have x0 := X.out.cell (i := 0) rfl))
  clear x0
  have HW := Lib.hid (show w.heap.size ≤ w2.heap.size from by omega)
  generalize w2.heap.size = g at *
  have r3 := eVal_rest s1
  rw [q3] at r3
  simp only at r3
  have r4 := eOne_rest s3
  rw [q4] at r4
  have Q3 := Lib.hid q3
  have Q4 := Lib.hid q4
  have Z4 := Lib.hid z4
  have Q5 := Lib.hid q5
  clear q3 q4 z4 q5
  refine (cvalue_to Q3.out _ E.out (by omega)).mono ?_
  rintro e w4 ⟨rfl, hE, kc⟩
  replace X := Lib.hid (X.out.chg kc hb2)
  replace Y := Lib.hid (Y.out.chg kc hy2)
  replace C := Lib.hid (C.out.trans kc)
  replace E := Lib.hid hE
  clear hE kc
  have x2 := X.out.cell (i := 2) rfl
  have g2 := X.out.frozen 2 (by simp)
  have x3 := X.out.cell (i := 3) rfl
  have g3 := X.out.frozen 3 (by simp)
  have x4 := X.out.cell (i := 4) rfl
  have g4 := X.out.frozen 4 (by simp)
  go_wp2_with fail
  replace X := Lib.hid ((((X.out.set 2 (.int .i64 v1)).set 3 (.int .i64 v2)).set 4 (.string v3)).cast (cs' := [.int .i64 3, .int .i64 t, .int .i64 v1, .int .i64 v2, .string v3, .int .i64 0, .int .i64 0, .string ⟨#[]⟩, .slice none 0 0, .int .i64 0, .int .i64 0, .int .i64 0, .string ⟨#[]⟩, .int .i64 0]) rfl)
  replace Y := Lib.hid (((Y.out.set_ne ⟨g, 2, none⟩ (.int .i64 v1) (Ne.symm hy1)).set_ne ⟨g, 3, none⟩ (.int .i64 v2) (Ne.symm hy1)).set_ne ⟨g, 4, none⟩ (.string v3) (Ne.symm hy1))
  replace E := Lib.hid (((E.out.set_ne ⟨g, 2, none⟩ (.int .i64 v1) hb2).set_ne ⟨g, 3, none⟩ (.int .i64 v2) hb2).set_ne ⟨g, 4, none⟩ (.string v3) hb2)
  replace C := Lib.hid (chg_new (chg_new (chg_new C.out ((Chg.refl (One g) _).put 2 (.int .i64 v1)) HW.out) ((Chg.refl (One g) _).put 3 (.int .i64 v2)) HW.out) ((Chg.refl (One g) _).put 4 (.string v3)) HW.out)
  clear x2 x3 x4 g2 g3 g4
  refine (cone_to Z4.out Q4.out _ E.out (by omega)).mono ?_
  rintro e w5 ⟨rfl, hE, kc⟩
  replace X := Lib.hid (X.out.chg kc hb2)
  replace Y := Lib.hid (Y.out.chg kc hy2)
  replace C := Lib.hid (C.out.trans kc)
  replace E := Lib.hid hE
  clear hE kc
  have x9 := X.out.cell (i := 9) rfl
  have g9 := X.out.frozen 9 (by simp)
  go_wp2_with fail
  replace X := Lib.hid ((X.out.set 9 (.int .i64 c)).cast (cs' := [.int .i64 3, .int .i64 t, .int .i64 v1, .int .i64 v2, .string v3, .int .i64 0, .int .i64 0, .string ⟨#[]⟩, .slice none 0 0, .int .i64 c, .int .i64 0, .int .i64 0, .string ⟨#[]⟩, .int .i64 0]) rfl)
  replace Y := Lib.hid (Y.out.set_ne ⟨g, 9, none⟩ (.int .i64 c) (Ne.symm hy1))
  replace E := Lib.hid (E.out.set_ne ⟨g, 9, none⟩ (.int .i64 c) hb2)
  replace C := Lib.hid (chg_new C.out ((Chg.refl (One g) _).put 9 (.int .i64 c)) HW.out)
  clear x9 g9
  refine (cvalue_to Q5.out _ E.out (by omega)).mono ?_
  rintro e w6 ⟨rfl, hE, kc⟩
  replace X := Lib.hid (X.out.chg kc hb2)
  replace Y := Lib.hid (Y.out.chg kc hy2)
  replace C := Lib.hid (C.out.trans kc)
  replace E := Lib.hid hE
  clear hE kc
  have x10 := X.out.cell (i := 10) rfl
  have g10 := X.out.frozen 10 (by simp)
  have x11 := X.out.cell (i := 11) rfl
  have g11 := X.out.frozen 11 (by simp)
  have x12 := X.out.cell (i := 12) rfl
  have g12 := X.out.frozen 12 (by simp)
  have XF := Lib.hid ((((X.out.set 10 (.int .i64 u1)).set 11 (.int .i64 u2)).set 12 (.string u3)).cast (cs' := [.int .i64 3, .int .i64 t, .int .i64 v1, .int .i64 v2, .string v3, .int .i64 0, .int .i64 0, .string ⟨#[]⟩, .slice none 0 0, .int .i64 c, .int .i64 u1, .int .i64 u2, .string u3, .int .i64 0]) rfl)
  have YF := Lib.hid (((Y.out.set_ne ⟨g, 10, none⟩ (.int .i64 u1) (Ne.symm hy1)).set_ne ⟨g, 11, none⟩ (.int .i64 u2) (Ne.symm hy1)).set_ne ⟨g, 12, none⟩ (.string u3) (Ne.symm hy1))
  have EF := Lib.hid (((E.out.set_ne ⟨g, 10, none⟩ (.int .i64 u1) hb2).set_ne ⟨g, 11, none⟩ (.int .i64 u2) hb2).set_ne ⟨g, 12, none⟩ (.string u3) hb2)
  have CF := Lib.hid (chg_new (chg_new (chg_new C.out ((Chg.refl (One g) _).put 10 (.int .i64 u1)) HW.out) ((Chg.refl (One g) _).put 11 (.int .i64 u2)) HW.out) ((Chg.refl (One g) _).put 12 (.string u3)) HW.out)
  go_wp2_with (first | (refine load_row XF.out 97 Try.underlying97 rfl (by kernel_rfl) rfl rfl rfl ?_) | (refine store_row YF.out [.int .i64 3, .int .i64 t, .int .i64 v1, .int .i64 v2, .string v3, .int .i64 0, .int .i64 0, .string ⟨#[]⟩, .slice none 0 0, .int .i64 c, .int .i64 u1, .int .i64 u2, .string u3, .int .i64 0] 97 (by kernel_rfl) rfl (by simp [Value.oneCell']) rfl rfl rfl rfl ?_; intro w90 hR kc hsz2))
  have E9 := Lib.hid (EF.out.chg kc (fun e => hy2 (show b = w.heap.size from e).symm))
  have C9 := Lib.hid (chg_new CF.out kc (Nat.le_refl _))
  have R9 := Lib.hid hR
  clear hR kc hsz2
  exact ret_row R9.out Try.results110 Try.underlying97 rfl (by kernel_rfl) rfl rfl ⟨wres_none rfl rfl rfl, E9.out, C9.out⟩
set_option maxHeartbeats 8000000 in
theorem cwish_5 (b : Nat) (s : St) (w : World) (h : Cur w b s) (hs : s.1.length ≤ 9223372036854774000) (s0 s1 : St) (t : Int) (z0 : ((eOne s).1 : Int) = 5) (q0 : (eOne s).2 = s0) (z1 : ((eOne s0).1 : Int) = t) (q1 : (eOne s0).2 = s1) (s3 s4 : St) (v1 v2 : Int) (v3 : ByteArray) (q3 : eVal s1 = (⟨v1, v2, v3⟩, s3)) (u1 u2 : Int) (u3 : ByteArray) (q4 : eVal s3 = (⟨u1, u2, u3⟩, s4)) : CWReads b s w ⟨5, t, ⟨v1, v2, v3⟩, ⟨u1, u2, u3⟩, none, 0, [], 0, noV, 0⟩ s4 := by
  have hlt := h.lt
  unfold CWReads
  have Y := Lib.hid (Row.new w 97 [.int .i64 0, .int .i64 0, .int .i64 0, .int .i64 0, .string ⟨#[]⟩, .int .i64 0, .int .i64 0, .string ⟨#[]⟩, .slice none 0 0, .int .i64 0, .int .i64 0, .int .i64 0, .string ⟨#[]⟩, .int .i64 0])
  have E := Lib.hid (h.alloc (.cells #[.int .i64 0, .int .i64 0, .int .i64 0, .int .i64 0, .string ⟨#[]⟩, .int .i64 0, .int .i64 0, .string ⟨#[]⟩, .slice none 0 0, .int .i64 0, .int .i64 0, .int .i64 0, .string ⟨#[]⟩, .int .i64 0] 97))
  have C := Lib.hid ((Chg.refl (One b) w).alloc (.cells #[.int .i64 0, .int .i64 0, .int .i64 0, .int .i64 0, .string ⟨#[]⟩, .int .i64 0, .int .i64 0, .string ⟨#[]⟩, .slice none 0 0, .int .i64 0, .int .i64 0, .int .i64 0, .string ⟨#[]⟩, .int .i64 0] 97))
  have r0 := eOne_rest s
  rw [q0] at r0
  have r1 := eOne_rest s0
  rw [q1] at r1
  have Z1 := Lib.hid z1
  have Q1 := Lib.hid q1
  have Q0 := Lib.hid q0
  have Z0 := Lib.hid z0
  clear q0 q1 z0 z1 h
  go_enter Try.func110, Try.ntmps110
  have hy2 : w.heap.size ≠ b := by omega
  go_wp2_with fail
  refine (cone_to Z0.out Q0.out _ E.out (by omega)).mono ?_
  rintro e w1 ⟨rfl, hE, kc⟩
  replace Y := Lib.hid (Y.out.chg kc hy2)
  replace C := Lib.hid (C.out.trans kc)
  replace E := Lib.hid hE
  clear hE kc
  go_wp2_with fail
  refine (cone_to Z1.out Q1.out _ E.out (by omega)).mono ?_
  rintro e w2 ⟨rfl, hE, kc⟩
  have hyl := (Y.out.chg kc hy2).lt
  replace Y := Lib.hid ((Y.out.chg kc hy2).alloc (.cells #[.int .i64 0, .int .i64 0, .int .i64 0, .int .i64 0, .string ⟨#[]⟩, .int .i64 0, .int .i64 0, .string ⟨#[]⟩, .slice none 0 0, .int .i64 0, .int .i64 0, .int .i64 0, .string ⟨#[]⟩, .int .i64 0] 97))
  replace C := Lib.hid ((C.out.trans kc).alloc (.cells #[.int .i64 0, .int .i64 0, .int .i64 0, .int .i64 0, .string ⟨#[]⟩, .int .i64 0, .int .i64 0, .string ⟨#[]⟩, .slice none 0 0, .int .i64 0, .int .i64 0, .int .i64 0, .string ⟨#[]⟩, .int .i64 0] 97))
  replace E := Lib.hid (hE.alloc (.cells #[.int .i64 0, .int .i64 0, .int .i64 0, .int .i64 0, .string ⟨#[]⟩, .int .i64 0, .int .i64 0, .string ⟨#[]⟩, .slice none 0 0, .int .i64 0, .int .i64 0, .int .i64 0, .string ⟨#[]⟩, .int .i64 0] 97))
  have X := Lib.hid (Row.new w2 97 [.int .i64 0, .int .i64 0, .int .i64 0, .int .i64 0, .string ⟨#[]⟩, .int .i64 0, .int .i64 0, .string ⟨#[]⟩, .slice none 0 0, .int .i64 0, .int .i64 0, .int .i64 0, .string ⟨#[]⟩, .int .i64 0])
  have hb1 : b ≠ w2.heap.size := by omega
  have hb2 : w2.heap.size ≠ b := by omega
  have hy1 : w.heap.size ≠ w2.heap.size := by omega
  clear hE kc
  go_wp2_with (first | (refine store_row X.out [.int .i64 5, .int .i64 t, .int .i64 0, .int .i64 0, .string ⟨#[]⟩, .int .i64 0, .int .i64 0, .string ⟨#[]⟩, .slice none 0 0, .int .i64 0, .int .i64 0, .int .i64 0, .string ⟨#[]⟩, .int .i64 0] 97 (by kernel_rfl) rfl (by simp [Value.oneCell']) rfl rfl rfl rfl ?_; intro w3 hz kz zz; replace E := Lib.hid (E.out.chg kz hb1); replace Y := Lib.hid (Y.out.chg kz hy1); replace C := Lib.hid (chg_new C.out kz (by omega)); replace X := Lib.hid hz; clear hz kz zz; have x0 := X.out.cell (i := 0) rfl))
  clear x0
  have HW := Lib.hid (show w.heap.size ≤ w2.heap.size from by omega)
  generalize w2.heap.size = g at *
  have r3 := eVal_rest s1
  rw [q3] at r3
  simp only at r3
  have Q3 := Lib.hid q3
  have Q4 := Lib.hid q4
  clear q3 q4
  refine (cvalue_to Q3.out _ E.out (by omega)).mono ?_
  rintro e w4 ⟨rfl, hE, kc⟩
  replace X := Lib.hid (X.out.chg kc hb2)
  replace Y := Lib.hid (Y.out.chg kc hy2)
  replace C := Lib.hid (C.out.trans kc)
  replace E := Lib.hid hE
  clear hE kc
  have x2 := X.out.cell (i := 2) rfl
  have g2 := X.out.frozen 2 (by simp)
  have x3 := X.out.cell (i := 3) rfl
  have g3 := X.out.frozen 3 (by simp)
  have x4 := X.out.cell (i := 4) rfl
  have g4 := X.out.frozen 4 (by simp)
  go_wp2_with fail
  replace X := Lib.hid ((((X.out.set 2 (.int .i64 v1)).set 3 (.int .i64 v2)).set 4 (.string v3)).cast (cs' := [.int .i64 5, .int .i64 t, .int .i64 v1, .int .i64 v2, .string v3, .int .i64 0, .int .i64 0, .string ⟨#[]⟩, .slice none 0 0, .int .i64 0, .int .i64 0, .int .i64 0, .string ⟨#[]⟩, .int .i64 0]) rfl)
  replace Y := Lib.hid (((Y.out.set_ne ⟨g, 2, none⟩ (.int .i64 v1) (Ne.symm hy1)).set_ne ⟨g, 3, none⟩ (.int .i64 v2) (Ne.symm hy1)).set_ne ⟨g, 4, none⟩ (.string v3) (Ne.symm hy1))
  replace E := Lib.hid (((E.out.set_ne ⟨g, 2, none⟩ (.int .i64 v1) hb2).set_ne ⟨g, 3, none⟩ (.int .i64 v2) hb2).set_ne ⟨g, 4, none⟩ (.string v3) hb2)
  replace C := Lib.hid (chg_new (chg_new (chg_new C.out ((Chg.refl (One g) _).put 2 (.int .i64 v1)) HW.out) ((Chg.refl (One g) _).put 3 (.int .i64 v2)) HW.out) ((Chg.refl (One g) _).put 4 (.string v3)) HW.out)
  clear x2 x3 x4 g2 g3 g4
  refine (cvalue_to Q4.out _ E.out (by omega)).mono ?_
  rintro e w5 ⟨rfl, hE, kc⟩
  replace X := Lib.hid (X.out.chg kc hb2)
  replace Y := Lib.hid (Y.out.chg kc hy2)
  replace C := Lib.hid (C.out.trans kc)
  replace E := Lib.hid hE
  clear hE kc
  have x5 := X.out.cell (i := 5) rfl
  have g5 := X.out.frozen 5 (by simp)
  have x6 := X.out.cell (i := 6) rfl
  have g6 := X.out.frozen 6 (by simp)
  have x7 := X.out.cell (i := 7) rfl
  have g7 := X.out.frozen 7 (by simp)
  have XF := Lib.hid ((((X.out.set 5 (.int .i64 u1)).set 6 (.int .i64 u2)).set 7 (.string u3)).cast (cs' := [.int .i64 5, .int .i64 t, .int .i64 v1, .int .i64 v2, .string v3, .int .i64 u1, .int .i64 u2, .string u3, .slice none 0 0, .int .i64 0, .int .i64 0, .int .i64 0, .string ⟨#[]⟩, .int .i64 0]) rfl)
  have YF := Lib.hid (((Y.out.set_ne ⟨g, 5, none⟩ (.int .i64 u1) (Ne.symm hy1)).set_ne ⟨g, 6, none⟩ (.int .i64 u2) (Ne.symm hy1)).set_ne ⟨g, 7, none⟩ (.string u3) (Ne.symm hy1))
  have EF := Lib.hid (((E.out.set_ne ⟨g, 5, none⟩ (.int .i64 u1) hb2).set_ne ⟨g, 6, none⟩ (.int .i64 u2) hb2).set_ne ⟨g, 7, none⟩ (.string u3) hb2)
  have CF := Lib.hid (chg_new (chg_new (chg_new C.out ((Chg.refl (One g) _).put 5 (.int .i64 u1)) HW.out) ((Chg.refl (One g) _).put 6 (.int .i64 u2)) HW.out) ((Chg.refl (One g) _).put 7 (.string u3)) HW.out)
  go_wp2_with (first | (refine load_row XF.out 97 Try.underlying97 rfl (by kernel_rfl) rfl rfl rfl ?_) | (refine store_row YF.out [.int .i64 5, .int .i64 t, .int .i64 v1, .int .i64 v2, .string v3, .int .i64 u1, .int .i64 u2, .string u3, .slice none 0 0, .int .i64 0, .int .i64 0, .int .i64 0, .string ⟨#[]⟩, .int .i64 0] 97 (by kernel_rfl) rfl (by simp [Value.oneCell']) rfl rfl rfl rfl ?_; intro w90 hR kc hsz2))
  have E9 := Lib.hid (EF.out.chg kc (fun e => hy2 (show b = w.heap.size from e).symm))
  have C9 := Lib.hid (chg_new CF.out kc (Nat.le_refl _))
  have R9 := Lib.hid hR
  clear hR kc hsz2
  exact ret_row R9.out Try.results110 Try.underlying97 rfl (by kernel_rfl) rfl rfl ⟨wres_none rfl rfl rfl, E9.out, C9.out⟩
set_option maxHeartbeats 8000000 in
theorem cwish_7 (b : Nat) (s : St) (w : World) (h : Cur w b s) (hs : s.1.length ≤ 9223372036854774000) (s0 s1 : St) (t : Int) (z0 : ((eOne s).1 : Int) = 7) (q0 : (eOne s).2 = s0) (z1 : ((eOne s0).1 : Int) = t) (q1 : (eOne s0).2 = s1) (s3 s4 : St) (v1 v2 : Int) (v3 : ByteArray) (q3 : eVal s1 = (⟨v1, v2, v3⟩, s3)) (u1 u2 : Int) (u3 : ByteArray) (q4 : eVal s3 = (⟨u1, u2, u3⟩, s4)) : CWReads b s w ⟨7, t, ⟨v1, v2, v3⟩, ⟨u1, u2, u3⟩, none, 0, [], 0, noV, 0⟩ s4 := by
  have hlt := h.lt
  unfold CWReads
  have Y := Lib.hid (Row.new w 97 [.int .i64 0, .int .i64 0, .int .i64 0, .int .i64 0, .string ⟨#[]⟩, .int .i64 0, .int .i64 0, .string ⟨#[]⟩, .slice none 0 0, .int .i64 0, .int .i64 0, .int .i64 0, .string ⟨#[]⟩, .int .i64 0])
  have E := Lib.hid (h.alloc (.cells #[.int .i64 0, .int .i64 0, .int .i64 0, .int .i64 0, .string ⟨#[]⟩, .int .i64 0, .int .i64 0, .string ⟨#[]⟩, .slice none 0 0, .int .i64 0, .int .i64 0, .int .i64 0, .string ⟨#[]⟩, .int .i64 0] 97))
  have C := Lib.hid ((Chg.refl (One b) w).alloc (.cells #[.int .i64 0, .int .i64 0, .int .i64 0, .int .i64 0, .string ⟨#[]⟩, .int .i64 0, .int .i64 0, .string ⟨#[]⟩, .slice none 0 0, .int .i64 0, .int .i64 0, .int .i64 0, .string ⟨#[]⟩, .int .i64 0] 97))
  have r0 := eOne_rest s
  rw [q0] at r0
  have r1 := eOne_rest s0
  rw [q1] at r1
  have Z1 := Lib.hid z1
  have Q1 := Lib.hid q1
  have Q0 := Lib.hid q0
  have Z0 := Lib.hid z0
  clear q0 q1 z0 z1 h
  go_enter Try.func110, Try.ntmps110
  have hy2 : w.heap.size ≠ b := by omega
  go_wp2_with fail
  refine (cone_to Z0.out Q0.out _ E.out (by omega)).mono ?_
  rintro e w1 ⟨rfl, hE, kc⟩
  replace Y := Lib.hid (Y.out.chg kc hy2)
  replace C := Lib.hid (C.out.trans kc)
  replace E := Lib.hid hE
  clear hE kc
  go_wp2_with fail
  refine (cone_to Z1.out Q1.out _ E.out (by omega)).mono ?_
  rintro e w2 ⟨rfl, hE, kc⟩
  have hyl := (Y.out.chg kc hy2).lt
  replace Y := Lib.hid ((Y.out.chg kc hy2).alloc (.cells #[.int .i64 0, .int .i64 0, .int .i64 0, .int .i64 0, .string ⟨#[]⟩, .int .i64 0, .int .i64 0, .string ⟨#[]⟩, .slice none 0 0, .int .i64 0, .int .i64 0, .int .i64 0, .string ⟨#[]⟩, .int .i64 0] 97))
  replace C := Lib.hid ((C.out.trans kc).alloc (.cells #[.int .i64 0, .int .i64 0, .int .i64 0, .int .i64 0, .string ⟨#[]⟩, .int .i64 0, .int .i64 0, .string ⟨#[]⟩, .slice none 0 0, .int .i64 0, .int .i64 0, .int .i64 0, .string ⟨#[]⟩, .int .i64 0] 97))
  replace E := Lib.hid (hE.alloc (.cells #[.int .i64 0, .int .i64 0, .int .i64 0, .int .i64 0, .string ⟨#[]⟩, .int .i64 0, .int .i64 0, .string ⟨#[]⟩, .slice none 0 0, .int .i64 0, .int .i64 0, .int .i64 0, .string ⟨#[]⟩, .int .i64 0] 97))
  have X := Lib.hid (Row.new w2 97 [.int .i64 0, .int .i64 0, .int .i64 0, .int .i64 0, .string ⟨#[]⟩, .int .i64 0, .int .i64 0, .string ⟨#[]⟩, .slice none 0 0, .int .i64 0, .int .i64 0, .int .i64 0, .string ⟨#[]⟩, .int .i64 0])
  have hb1 : b ≠ w2.heap.size := by omega
  have hb2 : w2.heap.size ≠ b := by omega
  have hy1 : w.heap.size ≠ w2.heap.size := by omega
  clear hE kc
  go_wp2_with (first | (refine store_row X.out [.int .i64 7, .int .i64 t, .int .i64 0, .int .i64 0, .string ⟨#[]⟩, .int .i64 0, .int .i64 0, .string ⟨#[]⟩, .slice none 0 0, .int .i64 0, .int .i64 0, .int .i64 0, .string ⟨#[]⟩, .int .i64 0] 97 (by kernel_rfl) rfl (by simp [Value.oneCell']) rfl rfl rfl rfl ?_; intro w3 hz kz zz; replace E := Lib.hid (E.out.chg kz hb1); replace Y := Lib.hid (Y.out.chg kz hy1); replace C := Lib.hid (chg_new C.out kz (by omega)); replace X := Lib.hid hz; clear hz kz zz; have x0 := X.out.cell (i := 0) rfl))
  clear x0
  have HW := Lib.hid (show w.heap.size ≤ w2.heap.size from by omega)
  generalize w2.heap.size = g at *
  have r3 := eVal_rest s1
  rw [q3] at r3
  simp only at r3
  have Q3 := Lib.hid q3
  have Q4 := Lib.hid q4
  clear q3 q4
  refine (cvalue_to Q3.out _ E.out (by omega)).mono ?_
  rintro e w4 ⟨rfl, hE, kc⟩
  replace X := Lib.hid (X.out.chg kc hb2)
  replace Y := Lib.hid (Y.out.chg kc hy2)
  replace C := Lib.hid (C.out.trans kc)
  replace E := Lib.hid hE
  clear hE kc
  have x2 := X.out.cell (i := 2) rfl
  have g2 := X.out.frozen 2 (by simp)
  have x3 := X.out.cell (i := 3) rfl
  have g3 := X.out.frozen 3 (by simp)
  have x4 := X.out.cell (i := 4) rfl
  have g4 := X.out.frozen 4 (by simp)
  go_wp2_with fail
  replace X := Lib.hid ((((X.out.set 2 (.int .i64 v1)).set 3 (.int .i64 v2)).set 4 (.string v3)).cast (cs' := [.int .i64 7, .int .i64 t, .int .i64 v1, .int .i64 v2, .string v3, .int .i64 0, .int .i64 0, .string ⟨#[]⟩, .slice none 0 0, .int .i64 0, .int .i64 0, .int .i64 0, .string ⟨#[]⟩, .int .i64 0]) rfl)
  replace Y := Lib.hid (((Y.out.set_ne ⟨g, 2, none⟩ (.int .i64 v1) (Ne.symm hy1)).set_ne ⟨g, 3, none⟩ (.int .i64 v2) (Ne.symm hy1)).set_ne ⟨g, 4, none⟩ (.string v3) (Ne.symm hy1))
  replace E := Lib.hid (((E.out.set_ne ⟨g, 2, none⟩ (.int .i64 v1) hb2).set_ne ⟨g, 3, none⟩ (.int .i64 v2) hb2).set_ne ⟨g, 4, none⟩ (.string v3) hb2)
  replace C := Lib.hid (chg_new (chg_new (chg_new C.out ((Chg.refl (One g) _).put 2 (.int .i64 v1)) HW.out) ((Chg.refl (One g) _).put 3 (.int .i64 v2)) HW.out) ((Chg.refl (One g) _).put 4 (.string v3)) HW.out)
  clear x2 x3 x4 g2 g3 g4
  refine (cvalue_to Q4.out _ E.out (by omega)).mono ?_
  rintro e w5 ⟨rfl, hE, kc⟩
  replace X := Lib.hid (X.out.chg kc hb2)
  replace Y := Lib.hid (Y.out.chg kc hy2)
  replace C := Lib.hid (C.out.trans kc)
  replace E := Lib.hid hE
  clear hE kc
  have x5 := X.out.cell (i := 5) rfl
  have g5 := X.out.frozen 5 (by simp)
  have x6 := X.out.cell (i := 6) rfl
  have g6 := X.out.frozen 6 (by simp)
  have x7 := X.out.cell (i := 7) rfl
  have g7 := X.out.frozen 7 (by simp)
  have XF := Lib.hid ((((X.out.set 5 (.int .i64 u1)).set 6 (.int .i64 u2)).set 7 (.string u3)).cast (cs' := [.int .i64 7, .int .i64 t, .int .i64 v1, .int .i64 v2, .string v3, .int .i64 u1, .int .i64 u2, .string u3, .slice none 0 0, .int .i64 0, .int .i64 0, .int .i64 0, .string ⟨#[]⟩, .int .i64 0]) rfl)
  have YF := Lib.hid (((Y.out.set_ne ⟨g, 5, none⟩ (.int .i64 u1) (Ne.symm hy1)).set_ne ⟨g, 6, none⟩ (.int .i64 u2) (Ne.symm hy1)).set_ne ⟨g, 7, none⟩ (.string u3) (Ne.symm hy1))
  have EF := Lib.hid (((E.out.set_ne ⟨g, 5, none⟩ (.int .i64 u1) hb2).set_ne ⟨g, 6, none⟩ (.int .i64 u2) hb2).set_ne ⟨g, 7, none⟩ (.string u3) hb2)
  have CF := Lib.hid (chg_new (chg_new (chg_new C.out ((Chg.refl (One g) _).put 5 (.int .i64 u1)) HW.out) ((Chg.refl (One g) _).put 6 (.int .i64 u2)) HW.out) ((Chg.refl (One g) _).put 7 (.string u3)) HW.out)
  go_wp2_with (first | (refine load_row XF.out 97 Try.underlying97 rfl (by kernel_rfl) rfl rfl rfl ?_) | (refine store_row YF.out [.int .i64 7, .int .i64 t, .int .i64 v1, .int .i64 v2, .string v3, .int .i64 u1, .int .i64 u2, .string u3, .slice none 0 0, .int .i64 0, .int .i64 0, .int .i64 0, .string ⟨#[]⟩, .int .i64 0] 97 (by kernel_rfl) rfl (by simp [Value.oneCell']) rfl rfl rfl rfl ?_; intro w90 hR kc hsz2))
  have E9 := Lib.hid (EF.out.chg kc (fun e => hy2 (show b = w.heap.size from e).symm))
  have C9 := Lib.hid (chg_new CF.out kc (Nat.le_refl _))
  have R9 := Lib.hid hR
  clear hR kc hsz2
  exact ret_row R9.out Try.results110 Try.underlying97 rfl (by kernel_rfl) rfl rfl ⟨wres_none rfl rfl rfl, E9.out, C9.out⟩
set_option maxHeartbeats 8000000 in
theorem cwish_9 (b : Nat) (s : St) (w : World) (h : Cur w b s) (hs : s.1.length ≤ 9223372036854774000) (s0 s1 : St) (t : Int) (z0 : ((eOne s).1 : Int) = 9) (q0 : (eOne s).2 = s0) (z1 : ((eOne s0).1 : Int) = t) (q1 : (eOne s0).2 = s1) (s3 : St) (n : Int) (z3 : ((eOne s1).1 : Int) = n) (q3 : (eOne s1).2 = s3) : CWReads b s w ⟨9, t, noV, noV, none, 0, [], 0, noV, n⟩ s3 := by
  have hlt := h.lt
  unfold CWReads
  have Y := Lib.hid (Row.new w 97 [.int .i64 0, .int .i64 0, .int .i64 0, .int .i64 0, .string ⟨#[]⟩, .int .i64 0, .int .i64 0, .string ⟨#[]⟩, .slice none 0 0, .int .i64 0, .int .i64 0, .int .i64 0, .string ⟨#[]⟩, .int .i64 0])
  have E := Lib.hid (h.alloc (.cells #[.int .i64 0, .int .i64 0, .int .i64 0, .int .i64 0, .string ⟨#[]⟩, .int .i64 0, .int .i64 0, .string ⟨#[]⟩, .slice none 0 0, .int .i64 0, .int .i64 0, .int .i64 0, .string ⟨#[]⟩, .int .i64 0] 97))
  have C := Lib.hid ((Chg.refl (One b) w).alloc (.cells #[.int .i64 0, .int .i64 0, .int .i64 0, .int .i64 0, .string ⟨#[]⟩, .int .i64 0, .int .i64 0, .string ⟨#[]⟩, .slice none 0 0, .int .i64 0, .int .i64 0, .int .i64 0, .string ⟨#[]⟩, .int .i64 0] 97))
  have r0 := eOne_rest s
  rw [q0] at r0
  have r1 := eOne_rest s0
  rw [q1] at r1
  have Z1 := Lib.hid z1
  have Q1 := Lib.hid q1
  have Q0 := Lib.hid q0
  have Z0 := Lib.hid z0
  clear q0 q1 z0 z1 h
  go_enter Try.func110, Try.ntmps110
  have hy2 : w.heap.size ≠ b := by omega
  go_wp2_with fail
  refine (cone_to Z0.out Q0.out _ E.out (by omega)).mono ?_
  rintro e w1 ⟨rfl, hE, kc⟩
  replace Y := Lib.hid (Y.out.chg kc hy2)
  replace C := Lib.hid (C.out.trans kc)
  replace E := Lib.hid hE
  clear hE kc
  go_wp2_with fail
  refine (cone_to Z1.out Q1.out _ E.out (by omega)).mono ?_
  rintro e w2 ⟨rfl, hE, kc⟩
  have hyl := (Y.out.chg kc hy2).lt
  replace Y := Lib.hid ((Y.out.chg kc hy2).alloc (.cells #[.int .i64 0, .int .i64 0, .int .i64 0, .int .i64 0, .string ⟨#[]⟩, .int .i64 0, .int .i64 0, .string ⟨#[]⟩, .slice none 0 0, .int .i64 0, .int .i64 0, .int .i64 0, .string ⟨#[]⟩, .int .i64 0] 97))
  replace C := Lib.hid ((C.out.trans kc).alloc (.cells #[.int .i64 0, .int .i64 0, .int .i64 0, .int .i64 0, .string ⟨#[]⟩, .int .i64 0, .int .i64 0, .string ⟨#[]⟩, .slice none 0 0, .int .i64 0, .int .i64 0, .int .i64 0, .string ⟨#[]⟩, .int .i64 0] 97))
  replace E := Lib.hid (hE.alloc (.cells #[.int .i64 0, .int .i64 0, .int .i64 0, .int .i64 0, .string ⟨#[]⟩, .int .i64 0, .int .i64 0, .string ⟨#[]⟩, .slice none 0 0, .int .i64 0, .int .i64 0, .int .i64 0, .string ⟨#[]⟩, .int .i64 0] 97))
  have X := Lib.hid (Row.new w2 97 [.int .i64 0, .int .i64 0, .int .i64 0, .int .i64 0, .string ⟨#[]⟩, .int .i64 0, .int .i64 0, .string ⟨#[]⟩, .slice none 0 0, .int .i64 0, .int .i64 0, .int .i64 0, .string ⟨#[]⟩, .int .i64 0])
  have hb1 : b ≠ w2.heap.size := by omega
  have hb2 : w2.heap.size ≠ b := by omega
  have hy1 : w.heap.size ≠ w2.heap.size := by omega
  clear hE kc
  go_wp2_with (first | (refine store_row X.out [.int .i64 9, .int .i64 t, .int .i64 0, .int .i64 0, .string ⟨#[]⟩, .int .i64 0, .int .i64 0, .string ⟨#[]⟩, .slice none 0 0, .int .i64 0, .int .i64 0, .int .i64 0, .string ⟨#[]⟩, .int .i64 0] 97 (by kernel_rfl) rfl (by simp [Value.oneCell']) rfl rfl rfl rfl ?_; intro w3 hz kz zz; replace E := Lib.hid (E.out.chg kz hb1); replace Y := Lib.hid (Y.out.chg kz hy1); replace C := Lib.hid (chg_new C.out kz (by omega)); replace X := Lib.hid hz; clear hz kz zz; have x0 := X.out.cell (i := 0) rfl))
  clear x0
  have HW := Lib.hid (show w.heap.size ≤ w2.heap.size from by omega)
  generalize w2.heap.size = g at *
  have Q3 := Lib.hid q3
  have Z3 := Lib.hid z3
  clear q3 z3
  refine (cone_to Z3.out Q3.out _ E.out (by omega)).mono ?_
  rintro e w4 ⟨rfl, hE, kc⟩
  replace X := Lib.hid (X.out.chg kc hb2)
  replace Y := Lib.hid (Y.out.chg kc hy2)
  replace C := Lib.hid (C.out.trans kc)
  replace E := Lib.hid hE
  clear hE kc
  have x13 := X.out.cell (i := 13) rfl
  have g13 := X.out.frozen 13 (by simp)
  have XF := Lib.hid ((X.out.set 13 (.int .i64 n)).cast (cs' := [.int .i64 9, .int .i64 t, .int .i64 0, .int .i64 0, .string ⟨#[]⟩, .int .i64 0, .int .i64 0, .string ⟨#[]⟩, .slice none 0 0, .int .i64 0, .int .i64 0, .int .i64 0, .string ⟨#[]⟩, .int .i64 n]) rfl)
  have YF := Lib.hid (Y.out.set_ne ⟨g, 13, none⟩ (.int .i64 n) (Ne.symm hy1))
  have EF := Lib.hid (E.out.set_ne ⟨g, 13, none⟩ (.int .i64 n) hb2)
  have CF := Lib.hid (chg_new C.out ((Chg.refl (One g) _).put 13 (.int .i64 n)) HW.out)
  go_wp2_with (first | (refine load_row XF.out 97 Try.underlying97 rfl (by kernel_rfl) rfl rfl rfl ?_) | (refine store_row YF.out [.int .i64 9, .int .i64 t, .int .i64 0, .int .i64 0, .string ⟨#[]⟩, .int .i64 0, .int .i64 0, .string ⟨#[]⟩, .slice none 0 0, .int .i64 0, .int .i64 0, .int .i64 0, .string ⟨#[]⟩, .int .i64 n] 97 (by kernel_rfl) rfl (by simp [Value.oneCell']) rfl rfl rfl rfl ?_; intro w90 hR kc hsz2))
  have E9 := Lib.hid (EF.out.chg kc (fun e => hy2 (show b = w.heap.size from e).symm))
  have C9 := Lib.hid (chg_new CF.out kc (Nat.le_refl _))
  have R9 := Lib.hid hR
  clear hR kc hsz2
  exact ret_row R9.out Try.results110 Try.underlying97 rfl (by kernel_rfl) rfl rfl ⟨wres_none rfl rfl rfl, E9.out, C9.out⟩
set_option maxHeartbeats 8000000 in
theorem cwish_10 (b : Nat) (s : St) (w : World) (h : Cur w b s) (hs : s.1.length ≤ 9223372036854774000) (s0 s1 : St) (t : Int) (z0 : ((eOne s).1 : Int) = 10) (q0 : (eOne s).2 = s0) (z1 : ((eOne s0).1 : Int) = t) (q1 : (eOne s0).2 = s1) (s3 : St) (n : Int) (z3 : ((eOne s1).1 : Int) = n) (q3 : (eOne s1).2 = s3) : CWReads b s w ⟨10, t, noV, noV, none, 0, [], 0, noV, n⟩ s3 := by
  have hlt := h.lt
  unfold CWReads
  have Y := Lib.hid (Row.new w 97 [.int .i64 0, .int .i64 0, .int .i64 0, .int .i64 0, .string ⟨#[]⟩, .int .i64 0, .int .i64 0, .string ⟨#[]⟩, .slice none 0 0, .int .i64 0, .int .i64 0, .int .i64 0, .string ⟨#[]⟩, .int .i64 0])
  have E := Lib.hid (h.alloc (.cells #[.int .i64 0, .int .i64 0, .int .i64 0, .int .i64 0, .string ⟨#[]⟩, .int .i64 0, .int .i64 0, .string ⟨#[]⟩, .slice none 0 0, .int .i64 0, .int .i64 0, .int .i64 0, .string ⟨#[]⟩, .int .i64 0] 97))
  have C := Lib.hid ((Chg.refl (One b) w).alloc (.cells #[.int .i64 0, .int .i64 0, .int .i64 0, .int .i64 0, .string ⟨#[]⟩, .int .i64 0, .int .i64 0, .string ⟨#[]⟩, .slice none 0 0, .int .i64 0, .int .i64 0, .int .i64 0, .string ⟨#[]⟩, .int .i64 0] 97))
  have r0 := eOne_rest s
  rw [q0] at r0
  have r1 := eOne_rest s0
  rw [q1] at r1
  have Z1 := Lib.hid z1
  have Q1 := Lib.hid q1
  have Q0 := Lib.hid q0
  have Z0 := Lib.hid z0
  clear q0 q1 z0 z1 h
  go_enter Try.func110, Try.ntmps110
  have hy2 : w.heap.size ≠ b := by omega
  go_wp2_with fail
  refine (cone_to Z0.out Q0.out _ E.out (by omega)).mono ?_
  rintro e w1 ⟨rfl, hE, kc⟩
  replace Y := Lib.hid (Y.out.chg kc hy2)
  replace C := Lib.hid (C.out.trans kc)
  replace E := Lib.hid hE
  clear hE kc
  go_wp2_with fail
  refine (cone_to Z1.out Q1.out _ E.out (by omega)).mono ?_
  rintro e w2 ⟨rfl, hE, kc⟩
  have hyl := (Y.out.chg kc hy2).lt
  replace Y := Lib.hid ((Y.out.chg kc hy2).alloc (.cells #[.int .i64 0, .int .i64 0, .int .i64 0, .int .i64 0, .string ⟨#[]⟩, .int .i64 0, .int .i64 0, .string ⟨#[]⟩, .slice none 0 0, .int .i64 0, .int .i64 0, .int .i64 0, .string ⟨#[]⟩, .int .i64 0] 97))
  replace C := Lib.hid ((C.out.trans kc).alloc (.cells #[.int .i64 0, .int .i64 0, .int .i64 0, .int .i64 0, .string ⟨#[]⟩, .int .i64 0, .int .i64 0, .string ⟨#[]⟩, .slice none 0 0, .int .i64 0, .int .i64 0, .int .i64 0, .string ⟨#[]⟩, .int .i64 0] 97))
  replace E := Lib.hid (hE.alloc (.cells #[.int .i64 0, .int .i64 0, .int .i64 0, .int .i64 0, .string ⟨#[]⟩, .int .i64 0, .int .i64 0, .string ⟨#[]⟩, .slice none 0 0, .int .i64 0, .int .i64 0, .int .i64 0, .string ⟨#[]⟩, .int .i64 0] 97))
  have X := Lib.hid (Row.new w2 97 [.int .i64 0, .int .i64 0, .int .i64 0, .int .i64 0, .string ⟨#[]⟩, .int .i64 0, .int .i64 0, .string ⟨#[]⟩, .slice none 0 0, .int .i64 0, .int .i64 0, .int .i64 0, .string ⟨#[]⟩, .int .i64 0])
  have hb1 : b ≠ w2.heap.size := by omega
  have hb2 : w2.heap.size ≠ b := by omega
  have hy1 : w.heap.size ≠ w2.heap.size := by omega
  clear hE kc
  go_wp2_with (first | (refine store_row X.out [.int .i64 10, .int .i64 t, .int .i64 0, .int .i64 0, .string ⟨#[]⟩, .int .i64 0, .int .i64 0, .string ⟨#[]⟩, .slice none 0 0, .int .i64 0, .int .i64 0, .int .i64 0, .string ⟨#[]⟩, .int .i64 0] 97 (by kernel_rfl) rfl (by simp [Value.oneCell']) rfl rfl rfl rfl ?_; intro w3 hz kz zz; replace E := Lib.hid (E.out.chg kz hb1); replace Y := Lib.hid (Y.out.chg kz hy1); replace C := Lib.hid (chg_new C.out kz (by omega)); replace X := Lib.hid hz; clear hz kz zz; have x0 := X.out.cell (i := 0) rfl))
  clear x0
  have HW := Lib.hid (show w.heap.size ≤ w2.heap.size from by omega)
  generalize w2.heap.size = g at *
  have Q3 := Lib.hid q3
  have Z3 := Lib.hid z3
  clear q3 z3
  refine (cone_to Z3.out Q3.out _ E.out (by omega)).mono ?_
  rintro e w4 ⟨rfl, hE, kc⟩
  replace X := Lib.hid (X.out.chg kc hb2)
  replace Y := Lib.hid (Y.out.chg kc hy2)
  replace C := Lib.hid (C.out.trans kc)
  replace E := Lib.hid hE
  clear hE kc
  have x13 := X.out.cell (i := 13) rfl
  have g13 := X.out.frozen 13 (by simp)
  have XF := Lib.hid ((X.out.set 13 (.int .i64 n)).cast (cs' := [.int .i64 10, .int .i64 t, .int .i64 0, .int .i64 0, .string ⟨#[]⟩, .int .i64 0, .int .i64 0, .string ⟨#[]⟩, .slice none 0 0, .int .i64 0, .int .i64 0, .int .i64 0, .string ⟨#[]⟩, .int .i64 n]) rfl)
  have YF := Lib.hid (Y.out.set_ne ⟨g, 13, none⟩ (.int .i64 n) (Ne.symm hy1))
  have EF := Lib.hid (E.out.set_ne ⟨g, 13, none⟩ (.int .i64 n) hb2)
  have CF := Lib.hid (chg_new C.out ((Chg.refl (One g) _).put 13 (.int .i64 n)) HW.out)
  go_wp2_with (first | (refine load_row XF.out 97 Try.underlying97 rfl (by kernel_rfl) rfl rfl rfl ?_) | (refine store_row YF.out [.int .i64 10, .int .i64 t, .int .i64 0, .int .i64 0, .string ⟨#[]⟩, .int .i64 0, .int .i64 0, .string ⟨#[]⟩, .slice none 0 0, .int .i64 0, .int .i64 0, .int .i64 0, .string ⟨#[]⟩, .int .i64 n] 97 (by kernel_rfl) rfl (by simp [Value.oneCell']) rfl rfl rfl rfl ?_; intro w90 hR kc hsz2))
  have E9 := Lib.hid (EF.out.chg kc (fun e => hy2 (show b = w.heap.size from e).symm))
  have C9 := Lib.hid (chg_new CF.out kc (Nat.le_refl _))
  have R9 := Lib.hid hR
  clear hR kc hsz2
  exact ret_row R9.out Try.results110 Try.underlying97 rfl (by kernel_rfl) rfl rfl ⟨wres_none rfl rfl rfl, E9.out, C9.out⟩
set_option maxHeartbeats 8000000 in
theorem cwish_other (b : Nat) (s : St) (w : World) (h : Cur w b s) (hs : s.1.length ≤ 9223372036854774000) (s0 s1 : St) (t k : Int) (d1 : ((k : Int) == 1) = false) (d2 : ((k : Int) == 2) = false) (d3 : ((k : Int) == 3) = false) (d4 : ((k : Int) == 4) = false) (d5 : ((k : Int) == 5) = false) (d6 : ((k : Int) == 6) = false) (d7 : ((k : Int) == 7) = false) (d9 : ((k : Int) == 9) = false) (d10 : ((k : Int) == 10) = false) (z0 : ((eOne s).1 : Int) = k) (q0 : (eOne s).2 = s0) (z1 : ((eOne s0).1 : Int) = t) (q1 : (eOne s0).2 = s1) : CWReads b s w (Wsh.only k t) s1 := by
  have hlt := h.lt
  unfold CWReads
  have Y := Lib.hid (Row.new w 97 [.int .i64 0, .int .i64 0, .int .i64 0, .int .i64 0, .string ⟨#[]⟩, .int .i64 0, .int .i64 0, .string ⟨#[]⟩, .slice none 0 0, .int .i64 0, .int .i64 0, .int .i64 0, .string ⟨#[]⟩, .int .i64 0])
  have E := Lib.hid (h.alloc (.cells #[.int .i64 0, .int .i64 0, .int .i64 0, .int .i64 0, .string ⟨#[]⟩, .int .i64 0, .int .i64 0, .string ⟨#[]⟩, .slice none 0 0, .int .i64 0, .int .i64 0, .int .i64 0, .string ⟨#[]⟩, .int .i64 0] 97))
  have C := Lib.hid ((Chg.refl (One b) w).alloc (.cells #[.int .i64 0, .int .i64 0, .int .i64 0, .int .i64 0, .string ⟨#[]⟩, .int .i64 0, .int .i64 0, .string ⟨#[]⟩, .slice none 0 0, .int .i64 0, .int .i64 0, .int .i64 0, .string ⟨#[]⟩, .int .i64 0] 97))
  have r0 := eOne_rest s
  rw [q0] at r0
  have r1 := eOne_rest s0
  rw [q1] at r1
  have Z1 := Lib.hid z1
  have Q1 := Lib.hid q1
  have Q0 := Lib.hid q0
  have Z0 := Lib.hid z0
  clear q0 q1 z0 z1 h
  go_enter Try.func110, Try.ntmps110
  have hy2 : w.heap.size ≠ b := by omega
  go_wp2_with fail
  refine (cone_to Z0.out Q0.out _ E.out (by omega)).mono ?_
  rintro e w1 ⟨rfl, hE, kc⟩
  replace Y := Lib.hid (Y.out.chg kc hy2)
  replace C := Lib.hid (C.out.trans kc)
  replace E := Lib.hid hE
  clear hE kc
  go_wp2_with fail
  refine (cone_to Z1.out Q1.out _ E.out (by omega)).mono ?_
  rintro e w2 ⟨rfl, hE, kc⟩
  have hyl := (Y.out.chg kc hy2).lt
  replace Y := Lib.hid ((Y.out.chg kc hy2).alloc (.cells #[.int .i64 0, .int .i64 0, .int .i64 0, .int .i64 0, .string ⟨#[]⟩, .int .i64 0, .int .i64 0, .string ⟨#[]⟩, .slice none 0 0, .int .i64 0, .int .i64 0, .int .i64 0, .string ⟨#[]⟩, .int .i64 0] 97))
  replace C := Lib.hid ((C.out.trans kc).alloc (.cells #[.int .i64 0, .int .i64 0, .int .i64 0, .int .i64 0, .string ⟨#[]⟩, .int .i64 0, .int .i64 0, .string ⟨#[]⟩, .slice none 0 0, .int .i64 0, .int .i64 0, .int .i64 0, .string ⟨#[]⟩, .int .i64 0] 97))
  replace E := Lib.hid (hE.alloc (.cells #[.int .i64 0, .int .i64 0, .int .i64 0, .int .i64 0, .string ⟨#[]⟩, .int .i64 0, .int .i64 0, .string ⟨#[]⟩, .slice none 0 0, .int .i64 0, .int .i64 0, .int .i64 0, .string ⟨#[]⟩, .int .i64 0] 97))
  have X := Lib.hid (Row.new w2 97 [.int .i64 0, .int .i64 0, .int .i64 0, .int .i64 0, .string ⟨#[]⟩, .int .i64 0, .int .i64 0, .string ⟨#[]⟩, .slice none 0 0, .int .i64 0, .int .i64 0, .int .i64 0, .string ⟨#[]⟩, .int .i64 0])
  have hb1 : b ≠ w2.heap.size := by omega
  have hb2 : w2.heap.size ≠ b := by omega
  have hy1 : w.heap.size ≠ w2.heap.size := by omega
  clear hE kc
  go_wp2_with (first | (refine store_row X.out [.int .i64 k, .int .i64 t, .int .i64 0, .int .i64 0, .string ⟨#[]⟩, .int .i64 0, .int .i64 0, .string ⟨#[]⟩, .slice none 0 0, .int .i64 0, .int .i64 0, .int .i64 0, .string ⟨#[]⟩, .int .i64 0] 97 (by kernel_rfl) rfl (by simp [Value.oneCell']) rfl rfl rfl rfl ?_; intro w3 hz kz zz; replace E := Lib.hid (E.out.chg kz hb1); replace Y := Lib.hid (Y.out.chg kz hy1); replace C := Lib.hid (chg_new C.out kz (by omega)); replace X := Lib.hid hz; clear hz kz zz; have x0 := X.out.cell (i := 0) rfl) | (refine load_row X.out 97 Try.underlying97 rfl (by kernel_rfl) rfl rfl rfl ?_) | (refine store_row Y.out [.int .i64 k, .int .i64 t, .int .i64 0, .int .i64 0, .string ⟨#[]⟩, .int .i64 0, .int .i64 0, .string ⟨#[]⟩, .slice none 0 0, .int .i64 0, .int .i64 0, .int .i64 0, .string ⟨#[]⟩, .int .i64 0] 97 (by kernel_rfl) rfl (by simp [Value.oneCell']) rfl rfl rfl rfl ?_; intro w90 hR kc hsz2))
  clear x0
  have HW := Lib.hid (show w.heap.size ≤ w2.heap.size from by omega)
  generalize w2.heap.size = g at *
  have E9 := Lib.hid (E.out.chg kc (fun e => hy2 (show b = w.heap.size from e).symm))
  have C9 := Lib.hid (chg_new C.out kc (Nat.le_refl _))
  have R9 := Lib.hid hR
  clear hR kc hsz2
  exact ret_row R9.out Try.results110 Try.underlying97 rfl (by kernel_rfl) rfl rfl ⟨wres_none rfl rfl rfl, E9.out, C9.out⟩
theorem cwish_reads (b : Nat) (s : St) (w : World) (h : Cur w b s) (hs : s.1.length ≤ 9223372036854774000) : CWReads b s w (eWish s).1 (eWish s).2 := by
  obtain ⟨k, hk⟩ : ∃ k, (eOne s).1 = k := ⟨_, rfl⟩
  obtain ⟨s0, q0⟩ : ∃ x, (eOne s).2 = x := ⟨_, rfl⟩
  obtain ⟨t, z1⟩ : ∃ k : Nat, (eOne s0).1 = k := ⟨_, rfl⟩
  obtain ⟨s1, q1⟩ : ∃ x, (eOne s0).2 = x := ⟨_, rfl⟩
  obtain ⟨n, z3⟩ : ∃ k : Nat, (eOne s1).1 = k := ⟨_, rfl⟩
  obtain ⟨s3, q3⟩ : ∃ x, (eOne s1).2 = x := ⟨_, rfl⟩
  obtain ⟨⟨⟨v1, v2, v3⟩, s4⟩, q4⟩ : ∃ r, eVal s1 = r := ⟨_, rfl⟩
  obtain ⟨⟨⟨u1, u2, u3⟩, s5⟩, q5⟩ : ∃ r, eVal s4 = r := ⟨_, rfl⟩
  obtain ⟨c, z6⟩ : ∃ k : Nat, (eOne s4).1 = k := ⟨_, rfl⟩
  obtain ⟨s6, q6⟩ : ∃ x, (eOne s4).2 = x := ⟨_, rfl⟩
  obtain ⟨⟨⟨y1, y2, y3⟩, s7⟩, q7⟩ : ∃ r, eVal s6 = r := ⟨_, rfl⟩
  have hw : eWish s = if k = 1 then (⟨1, t, noV, noV, none, 0, (eVals n s3).1, 0, noV, 0⟩, (eVals n s3).2)
    else if k = 2 ∨ k = 4 ∨ k = 6 then (⟨k, t, ⟨v1, v2, v3⟩, noV, none, 0, [], 0, noV, 0⟩, s4)
    else if k = 3 then (⟨3, t, ⟨v1, v2, v3⟩, noV, none, 0, [], c, ⟨y1, y2, y3⟩, 0⟩, s7)
    else if k = 5 ∨ k = 7 then (⟨k, t, ⟨v1, v2, v3⟩, ⟨u1, u2, u3⟩, none, 0, [], 0, noV, 0⟩, s5)
    else if k = 9 ∨ k = 10 then (⟨k, t, noV, noV, none, 0, [], 0, noV, n⟩, s3)
    else (Wsh.only k t, s1) := by
    unfold eWish
    rw [hk, q0, z1, q1, z3, q3, q4, q5, z6, q6, q7]
  have zt : ((eOne s0).1 : Int) = t := by rw [z1]
  have zk : ((eOne s).1 : Int) = k := by rw [hk]
  rw [hw]
  clear hw
  by_cases c1 : k = 1
  · subst c1
    exact cwish_1 b s w h hs _ _ _ zk q0 zt q1 _ _ z3 q3 _ rfl
  by_cases c2 : k = 2
  · subst c2
    exact cwish_2 b s w h hs _ _ _ zk q0 zt q1 _ _ _ _ q4
  by_cases c4 : k = 4
  · subst c4
    exact cwish_4 b s w h hs _ _ _ zk q0 zt q1 _ _ _ _ q4
  by_cases c6 : k = 6
  · subst c6
    exact cwish_6 b s w h hs _ _ _ zk q0 zt q1 _ _ _ _ q4
  by_cases c3 : k = 3
  · subst c3
    exact cwish_3 b s w h hs _ _ _ zk q0 zt q1 _ _ _ _ _ _ q4 _ (by rw [z6]) q6 _ _ _ q7
  by_cases c5 : k = 5
  · subst c5
    exact cwish_5 b s w h hs _ _ _ zk q0 zt q1 _ _ _ _ _ q4 _ _ _ q5
  by_cases c7 : k = 7
  · subst c7
    exact cwish_7 b s w h hs _ _ _ zk q0 zt q1 _ _ _ _ _ q4 _ _ _ q5
  by_cases c9 : k = 9
  · subst c9
    exact cwish_9 b s w h hs _ _ _ zk q0 zt q1 _ _ (by rw [z3]) q3
  by_cases c10 : k = 10
  · subst c10
    exact cwish_10 b s w h hs _ _ _ zk q0 zt q1 _ _ (by rw [z3]) q3
  rw [if_neg c1, if_neg (by omega), if_neg c3, if_neg (by omega), if_neg (by omega)]
  exact cwish_other b s w h hs _ _ _ k (by simp; omega) (by simp; omega) (by simp; omega) (by simp; omega) (by simp; omega) (by simp; omega) (by simp; omega) (by simp; omega) (by simp; omega) zk q0 zt q1
end Go.Proofs.Ytcfjooeagfollaa.Bill

/- gaugerref26.one, long, values. -/
namespace Go.Proofs.Ytcfjooeagfollaa.Bill
open Go.RowKit Go.Proofs.Ytcfjooeagfollaa.Mem Go.Proofs.Ytcfjooeagfollaa.Bytes Go.Proofs.Ytcfjooeagfollaa.Num Go.Proofs.Ytcfjooeagfollaa.Sign
set_option linter.unusedSimpArgs false
set_option linter.unusedVariables false
set_option maxRecDepth 20000

theorem ob_mod (n : Int) : n % 256 = ((oneB n).toNat : Int) := by rw [← oneB_mod]; simp only [IntKind.wrap, IntKind.bits, IntKind.signed]; simp
theorem run_str1 (c : UInt8) (w : World) : (convert 112 9 (.slice (some ⟨w.heap.size, 0, none⟩) 1 1)).run Try.prog (w.alloc (.cells #[.int .u8 (c.toNat : Int)] 5)) = .ok (.string (bs [c])) (w.alloc (.cells #[.int .u8 (c.toNat : Int)] 5)) :=
  run_string_row (P := Try.prog) (l := [c]) (r := []) (Row.new w 5 [.int .u8 (c.toNat : Int)]) Try.underlying112 Try.underlying5 Try.underlying9 1
set_option maxHeartbeats 1000000 in
theorem refone_calls (n : Int) (w : World) : Calls Try.prog 102 #[.int .i64 n] w fun e w' => e = .returned (.tuple #[.string (bs [oneB n]), .bool (!oneBad n)]) ∧ Below w.heap.size w w' := by
  have hm := ob_mod n
  have hs := run_str1 (oneB n) w
  have hb := (Below.refl w.heap.size w).alloc (Nat.le_refl _) (.cells #[.int .u8 ((oneB n).toNat : Int)] 5)
  have B := Lib.hid hb
  obtain ⟨c, hc⟩ : ∃ c, oneB n = c := ⟨_, rfl⟩
  rw [hc] at hm hs B ⊢
  clear hc hb
  by_cases h0 : 0 ≤ n
  · have d0 : decide (0 ≤ n) = true := by simpa using h0
    by_cases h1 : n ≤ 255
    · have d1 : decide (n ≤ 255) = true := by simpa using h1
      have e : oneBad n = false := by unfold oneBad; simp; omega
      rw [e]
      clear e
      obtain rfl : n = (c.toNat : Int) := by omega
      clear hm
      go_enter Try.func102, Try.ntmps102
      go_wp2_with fail
      go_ret2
      exact ⟨rfl, B.out⟩
    · have d1 : decide (n ≤ 255) = false := by simpa using h1
      have e : oneBad n = true := by unfold oneBad; simp; omega
      rw [e]
      clear e
      go_enter Try.func102, Try.ntmps102
      go_wp2_with fail
      go_ret2
      exact ⟨rfl, B.out⟩
  · have d0 : decide (0 ≤ n) = false := by simpa using h0
    have e : oneBad n = true := by unfold oneBad; simp; omega
    rw [e]
    clear e
    go_enter Try.func102, Try.ntmps102
    go_wp2_with fail
    go_ret2
    exact ⟨rfl, B.out⟩

/-! values -/
def valR (l : List V) : List UInt8 × Bool := if l.all V.good = true then (codes l, true) else ([], false)
theorem valR_bad {l : List V} {k : Nat} (h : k < l.length) (hk : l[k].good = false) : valR l = ([], false) := by
  unfold valR
  rw [if_neg]
  intro ha
  rw [List.all_eq_true] at ha
  rw [ha _ (List.getElem_mem h)] at hk
  cases hk
theorem valR_all {l : List V} (h : ∀ v ∈ l, v.good = true) : valR l = (codes l, true) := by
  unfold valR
  rw [if_pos (List.all_eq_true.2 h)]
theorem vals_codes {l : List V} (h : ∀ v ∈ l, v.good = true) : vals l = codes l := by
  unfold vals codes
  induction l with
  | nil => rfl
  | cons v r ih =>
    rw [List.flatMap_cons, List.flatMap_cons, ih (fun x hx => h x (List.mem_cons_of_mem _ hx))]
    congr 1
    unfold codeOut
    rw [if_pos (h v List.mem_cons_self)]
theorem valR_is (l : List V) : (valR l).2 = !valsBad l := by
  unfold valR valsBad
  by_cases h : l.all V.good = true
  · rw [if_pos h]
    rw [List.all_eq_true] at h
    symm
    rw [Bool.not_eq_true', List.any_eq_false]
    intro v hv
    simp [h v hv]
  · rw [if_neg h]
    symm
    rw [Bool.not_eq_false', List.any_eq_true]
    simp only [List.all_eq_true] at h
    obtain ⟨v, hv⟩ := Classical.not_forall.1 h
    obtain ⟨hv, hg⟩ := Classical.not_imp.1 hv
    exact ⟨v, hv, by simpa using hg⟩
theorem valR_bytes {l : List V} (h : valsBad l = false) : valR l = (vals l, true) := by
  have hg : ∀ v ∈ l, v.good = true := fun v hv => by
    unfold valsBad at h
    rw [List.any_eq_false] at h
    simpa using h v hv
  rw [valR_all hg, vals_codes hg]
set_option maxHeartbeats 1000000 in
theorem refvalues_calls (l : List V) (a : Option Addr) (cap : Nat) (w : World) (hV : Vs w a l) (hf : ∀ v ∈ l, v.fits) (hl : l.length ≤ 100000) :
    Calls Try.prog 150 #[.slice a l.length cap] w fun e w' => e = .returned (.tuple #[.string (bs (valR l).1), .bool (valR l).2]) ∧ Below w.heap.size w w' := by
  go_enter Try.func150, Try.ntmps150
  go_wp2_with fail
  go_loopw [4, 5] (fun s i wr => ∃ k : Nat, k ≤ l.length ∧ i = .int .i64 k ∧ s = .string (bs (codes (l.take k))) ∧ (∀ v ∈ l.take k, v.good = true) ∧ Below w.heap.size w wr) (fun _ i _ => l.length - (intOf i).toNat)
  case atStart => exact ⟨0, by omega, rfl, by simp [codes]; rfl, by simp, Below.refl _ _⟩
  case round =>
    obtain ⟨k, hk, rfl, rfl, hg, hb⟩ := hrel
    by_cases hlt : k < l.length
    · obtain ⟨ad, rfl, hlb, hx⟩ := hV k hlt
      have hlt' : (k : Int) < (l.length : Int) := by omega
      have hfv := hf _ (List.getElem_mem hlt)
      have hct := codes_take hlt
      have htg := take_good hlt hg
      have hrb := valR_bad hlt
      have hcl := codes_length hg
      rw [List.length_take_of_le (by omega)] at hcl
      generalize l[k] = v at *
      generalize codes (l.take k) = L at *
      have G := Lib.hid (refgood_calls v)
      have CO := Lib.hid (fun h => refcode_calls v h hfv)
      have CL := Lib.hid (fun h => V.code_length (v := v) h)
      have HX := Lib.hid hx
      have HB := Lib.hid hb
      have CT := Lib.hid hct
      have TG := Lib.hid htg
      have RB := Lib.hid hrb
      clear hx hb hct htg hrb hg hfv hV
      obtain ⟨x0, x1, x2⟩ := HX.out _ HB.out
      by_cases hgv : v.good = true
      · obtain ⟨vc, hvc⟩ : ∃ vc, v.code = vc := ⟨_, rfl⟩
        have hvl := CL.out hgv
        have CO2 := Lib.hid (CO.out hgv)
        rw [hgv] at G
        rw [hvc] at hvl CO2 CT
        have TG2 := Lib.hid (TG.out hgv)
        obtain ⟨k0, n0, s0⟩ := v
        try simp only at x0 x1 x2
        clear CO TG RB CL hvc
        go_wp2_with fail
        clear x0 x1 x2
        refine (G.out _).mono ?_
        rintro e w1 ⟨rfl, h1⟩
        replace HB := Lib.hid (HB.out.trans (h1.mono HB.out.size))
        clear h1
        obtain ⟨x0, x1, x2⟩ := HX.out _ HB.out
        try simp only at x0 x1 x2
        go_wp2_with fail
        clear x0 x1 x2
        refine (CO2.out _).mono ?_
        rintro e w2 ⟨rfl, h2⟩
        replace HB := Lib.hid (HB.out.trans (h2.mono HB.out.size))
        clear h2
        have z1 : (bs L).size = 9 * k := hcl
        have z2 : (bs vc).size = 9 := hvl
        have z3 : ¬ 9223372036854775807 < (bs L).size + (bs vc).size := by omega
        go_wp2_with fail
        exact ⟨⟨k + 1, by omega, by go_num, by rw [CT.out, bs_append], TG2.out, HB.out⟩, by simp [intOf]; omega⟩
      · rw [Bool.not_eq_true] at hgv
        have hn := RB.out hgv
        rw [hgv] at G
        obtain ⟨k0, n0, s0⟩ := v
        try simp only at x0 x1 x2
        clear CO TG RB CL CT
        go_wp2_with fail
        refine (G.out _).mono ?_
        rintro e w1 ⟨rfl, h1⟩
        replace HB := Lib.hid (HB.out.trans (h1.mono HB.out.size))
        clear h1
        go_wp2_with fail
        go_ret2
        exact ⟨by rw [hn]; rfl, HB.out⟩
    · obtain rfl : k = l.length := by omega
      rw [List.take_length] at hg ⊢
      have hr := valR_all hg
      go_wp2_with fail
      go_ret2
      exact ⟨by rw [hr]; rfl, hb⟩

/-! long -/
theorem byte_at (n : Int) (j : Nat) (hj : j < 8) : (n % 18446744073709551616) / 2 ^ (8 * j) % 256 = ((UInt8.ofNat (u64 n / 256 ^ j)).toNat : Int) := by
  unfold u64
  rcases (by omega : j = 0 ∨ j = 1 ∨ j = 2 ∨ j = 3 ∨ j = 4 ∨ j = 5 ∨ j = 6 ∨ j = 7) with rfl | rfl | rfl | rfl | rfl | rfl | rfl | rfl <;> simp <;> omega
set_option maxHeartbeats 1000000 in
theorem reflong_calls (n : Int) (w : World) : Calls Try.prog 104 #[.int .i64 n] w fun e w' => e = .returned (.string (bs (le (u64 n) 8))) ∧ Below w.heap.size w w' := by
  have hby := byte_at n
  have hl := World.ownsRow_lit (e := 5) (size := 1) w #[] 0 (Nat.le_refl w.heap.size) (by unfold maxLen; omega) rfl
  have hb := (Below.refl w.heap.size w).alloc (Nat.le_refl _) (.cells #[] 5)
  have HL := Lib.hid hl
  have BY := Lib.hid hby
  have B0 := Lib.hid hb
  generalize u64 n = u at *
  clear hby hl hb
  go_enter Try.func104, Try.ntmps104
  go_wp2_with fail
  go_loopw [3, 4] (fun v i wr => ∃ k : Nat, k ≤ 8 ∧ i = .int .i64 k ∧ wr.ownsRow w.heap.size 5 1 v k ((le u k).map bv) ∧ Below w.heap.size w wr) (fun _ i _ => 8 - (intOf i).toNat)
  case atStart => exact ⟨0, by omega, rfl, HL.out, B0.out⟩
  case round =>
    obtain ⟨k, hk, rfl, ho, hbw⟩ := hrel
    by_cases hlt : k < 8
    · have hlt' : (k : Int) < 8 := by omega
      have OO := Lib.hid ho
      have BB := Lib.hid hbw
      have hB := Lib.hid (BY.out k hlt)
      have e1 : (8 * (k : Int)).toNat = 8 * k := by omega
      clear ho hbw
      go_wp2_with (refine app1 (news := [_]) OO.out BB.out BB.out.size 112 Try.underlying112 Sign.info_u8 rfl (by decide) (by decide) (by omega) rfl (by simp [Value.oneCell']) rfl rfl rfl rfl ?_; intro v' w3 ho3 hb3 _)
      exact ⟨⟨k + 1, by omega, by go_num, Sign.cast_own ho3 (by rw [le, List.map_append]; simp only [List.map_cons, List.map_nil, bv]; rw [← hB.out, wrap_u64]), hb3⟩, by simp [intOf]; omega⟩
    · obtain rfl : k = 8 := by omega
      have hcv := run_string_own (P := Try.prog) ho Try.underlying112 Try.underlying5 Try.underlying9
      go_wp2_with fail
      go_ret
      exact ⟨rfl, hbw⟩
end Go.Proofs.Ytcfjooeagfollaa.Bill

/- gaugerref26.same, Same, of any two. Printed by bill_refsame.py -/
namespace Go.Proofs.Ytcfjooeagfollaa.Bill
open Go.RowKit Go.Proofs.Ytcfjooeagfollaa.Mem Go.Proofs.Ytcfjooeagfollaa.Bytes Go.Proofs.Ytcfjooeagfollaa.Num Go.Proofs.Ytcfjooeagfollaa.Sign
set_option linter.unusedSimpArgs false
set_option linter.unusedVariables false
set_option maxRecDepth 20000

def Tells (p : Prop) (e : Ending) : Prop := ∃ r : Bool, (r = true ↔ p) ∧ e = .returned (.bool r)
theorem tells_no {p : Prop} (h : ¬ p) : Tells p (.returned (.bool false)) := ⟨false, ⟨fun e => (by cases e), fun e => absurd e h⟩, rfl⟩
theorem tells_yes {p : Prop} (h : p) : Tells p (.returned (.bool true)) := ⟨true, ⟨fun _ => h, fun _ => rfl⟩, rfl⟩
set_option maxHeartbeats 16000000 in
theorem wsame_calls (x y : Wsh) (w : World) (hV : Vs w x.ra x.row) (hU : Vs w y.ra y.row) (hl : x.row.length ≤ 9223372036854775807) (hl2 : y.row.length ≤ 9223372036854775807) :
    Calls Try.prog 112 #[.agg x.cells.toArray, .agg y.cells.toArray] w fun e w' => Tells (x.eqv y) e ∧ Below w.heap.size w w' := by
  obtain ⟨wk, wt, ⟨kk, kn, ks⟩, ⟨hk, hn, hs⟩, ra, rc, row, c, ⟨vk, vn, vs⟩, wn⟩ := x
  obtain ⟨wk', wt', ⟨kk', kn', ks'⟩, ⟨hk', hn', hs'⟩, ra', rc', row', c', ⟨vk', vn', vs'⟩, wn'⟩ := y
  simp only at hV hU hl hl2
  show Calls Try.prog 112 #[.agg #[.int .i64 wk, .int .i64 wt, .int .i64 kk, .int .i64 kn, .string ks, .int .i64 hk, .int .i64 hn, .string hs, .slice ra row.length rc, .int .i64 c, .int .i64 vk, .int .i64 vn, .string vs, .int .i64 wn], .agg #[.int .i64 wk', .int .i64 wt', .int .i64 kk', .int .i64 kn', .string ks', .int .i64 hk', .int .i64 hn', .string hs', .slice ra' row'.length rc', .int .i64 c', .int .i64 vk', .int .i64 vn', .string vs', .int .i64 wn']] w _
  have hX := (Row.new w 97 [.int .i64 wk, .int .i64 wt, .int .i64 kk, .int .i64 kn, .string ks, .int .i64 hk, .int .i64 hn, .string hs, .slice ra row.length rc, .int .i64 c, .int .i64 vk, .int .i64 vn, .string vs, .int .i64 wn]).alloc (.cells #[.int .i64 wk', .int .i64 wt', .int .i64 kk', .int .i64 kn', .string ks', .int .i64 hk', .int .i64 hn', .string hs', .slice ra' row'.length rc', .int .i64 c', .int .i64 vk', .int .i64 vn', .string vs', .int .i64 wn'] 97)
  have hY : Row ((w.alloc (.cells #[.int .i64 wk, .int .i64 wt, .int .i64 kk, .int .i64 kn, .string ks, .int .i64 hk, .int .i64 hn, .string hs, .slice ra row.length rc, .int .i64 c, .int .i64 vk, .int .i64 vn, .string vs, .int .i64 wn] 97)).alloc (.cells #[.int .i64 wk', .int .i64 wt', .int .i64 kk', .int .i64 kn', .string ks', .int .i64 hk', .int .i64 hn', .string hs', .slice ra' row'.length rc', .int .i64 c', .int .i64 vk', .int .i64 vn', .string vs', .int .i64 wn'] 97)) (w.heap.size + 1) 97 [.int .i64 wk', .int .i64 wt', .int .i64 kk', .int .i64 kn', .string ks', .int .i64 hk', .int .i64 hn', .string hs', .slice ra' row'.length rc', .int .i64 c', .int .i64 vk', .int .i64 vn', .string vs', .int .i64 wn'] := Wide.new_at (by simp)
  have hb := ((Below.refl w.heap.size w).alloc (Nat.le_refl _) (.cells #[.int .i64 wk, .int .i64 wt, .int .i64 kk, .int .i64 kn, .string ks, .int .i64 hk, .int .i64 hn, .string hs, .slice ra row.length rc, .int .i64 c, .int .i64 vk, .int .i64 vn, .string vs, .int .i64 wn] 97)).alloc (by simp) (.cells #[.int .i64 wk', .int .i64 wt', .int .i64 kk', .int .i64 kn', .string ks', .int .i64 hk', .int .i64 hn', .string hs', .slice ra' row'.length rc', .int .i64 c', .int .i64 vk', .int .i64 vn', .string vs', .int .i64 wn'] 97)
  have X := Lib.hid hX
  have Y := Lib.hid hY
  have B := Lib.hid hb
  have SC := Lib.hid (vsame_calls row row' ra ra' rc rc' _ (hV.keep hb) (hU.keep hb) hl hl2)
  have x0 := X.out.cell (i := 0) rfl
  have y0 := Y.out.cell (i := 0) rfl
  have x1 := X.out.cell (i := 1) rfl
  have y1 := Y.out.cell (i := 1) rfl
  have x2 := X.out.cell (i := 2) rfl
  have y2 := Y.out.cell (i := 2) rfl
  have x3 := X.out.cell (i := 3) rfl
  have y3 := Y.out.cell (i := 3) rfl
  have x4 := X.out.cell (i := 4) rfl
  have y4 := Y.out.cell (i := 4) rfl
  have x5 := X.out.cell (i := 5) rfl
  have y5 := Y.out.cell (i := 5) rfl
  have x6 := X.out.cell (i := 6) rfl
  have y6 := Y.out.cell (i := 6) rfl
  have x7 := X.out.cell (i := 7) rfl
  have y7 := Y.out.cell (i := 7) rfl
  have x8 := X.out.cell (i := 8) rfl
  have y8 := Y.out.cell (i := 8) rfl
  clear hX hY hb hV hU
  go_enter Try.func112, Try.ntmps112
  by_cases c_wk : wk = wk'
  rotate_left 1
  · have d_wk : ((wk : Int) == wk') = false := by simpa using c_wk
    go_wp2_with fail
    go_ret
    exact ⟨tells_no (fun e => c_wk e.1), B.out⟩
  have d_wk : ((wk : Int) == wk') = true := by simpa using c_wk
  have C_wk := Lib.hid c_wk
  clear c_wk
  by_cases c_wt : wt = wt'
  rotate_left 1
  · have d_wt : ((wt : Int) == wt') = false := by simpa using c_wt
    go_wp2_with fail
    go_ret
    exact ⟨tells_no (fun e => c_wt e.2.1), B.out⟩
  have d_wt : ((wt : Int) == wt') = true := by simpa using c_wt
  have C_wt := Lib.hid c_wt
  clear c_wt
  by_cases c_kk : kk = kk'
  rotate_left 1
  · have d_kk : ((kk : Int) == kk') = false := by simpa using c_kk
    go_wp2_with fail
    go_ret
    exact ⟨tells_no (fun e => c_kk (V.mk.inj e.2.2.1).1), B.out⟩
  have d_kk : ((kk : Int) == kk') = true := by simpa using c_kk
  have C_kk := Lib.hid c_kk
  clear c_kk
  by_cases c_kn : kn = kn'
  rotate_left 1
  · have d_kn : ((kn : Int) == kn') = false := by simpa using c_kn
    go_wp2_with fail
    go_ret
    exact ⟨tells_no (fun e => c_kn (V.mk.inj e.2.2.1).2.1), B.out⟩
  have d_kn : ((kn : Int) == kn') = true := by simpa using c_kn
  have C_kn := Lib.hid c_kn
  clear c_kn
  by_cases c_ks : ks = ks'
  rotate_left 1
  · have d_ks : ¬ ks.toList = ks'.toList := fun e => c_ks (Bytes.toList_inj.1 e)
    go_wp2_with fail
    go_ret
    exact ⟨tells_no (fun e => c_ks (V.mk.inj e.2.2.1).2.2), B.out⟩
  have d_ks : (ks.toList == ks'.toList) = true := by rw [c_ks]; simp
  have C_k := Lib.hid (show (⟨kk, kn, ks⟩ : V) = ⟨kk', kn', ks'⟩ by rw [C_kk.out, C_kn.out, c_ks])
  clear c_ks
  by_cases c_hk : hk = hk'
  rotate_left 1
  · have d_hk : ((hk : Int) == hk') = false := by simpa using c_hk
    go_wp2_with fail
    go_ret
    exact ⟨tells_no (fun e => c_hk (V.mk.inj e.2.2.2.1).1), B.out⟩
  have d_hk : ((hk : Int) == hk') = true := by simpa using c_hk
  have C_hk := Lib.hid c_hk
  clear c_hk
  by_cases c_hn : hn = hn'
  rotate_left 1
  · have d_hn : ((hn : Int) == hn') = false := by simpa using c_hn
    go_wp2_with fail
    go_ret
    exact ⟨tells_no (fun e => c_hn (V.mk.inj e.2.2.2.1).2.1), B.out⟩
  have d_hn : ((hn : Int) == hn') = true := by simpa using c_hn
  have C_hn := Lib.hid c_hn
  clear c_hn
  by_cases c_hs : hs = hs'
  rotate_left 1
  · have d_hs : ¬ hs.toList = hs'.toList := fun e => c_hs (Bytes.toList_inj.1 e)
    go_wp2_with fail
    go_ret
    exact ⟨tells_no (fun e => c_hs (V.mk.inj e.2.2.2.1).2.2), B.out⟩
  have d_hs : (hs.toList == hs'.toList) = true := by rw [c_hs]; simp
  have C_h := Lib.hid (show (⟨hk, hn, hs⟩ : V) = ⟨hk', hn', hs'⟩ by rw [C_hk.out, C_hn.out, c_hs])
  clear c_hs
  go_wp2_with fail
  refine SC.out.mono ?_
  rintro e w1 ⟨⟨r, hr, rfl⟩, k1⟩
  replace X := Lib.hid (X.out.below k1 X.out.lt)
  replace Y := Lib.hid (Y.out.below k1 Y.out.lt)
  replace B := Lib.hid (B.out.trans (k1.mono B.out.size))
  clear k1 x0 y0 x1 y1 x2 y2 x3 y3 x4 y4 x5 y5 x6 y6 x7 y7 x8 y8
  cases r
  · have hr2 : ¬ row = row' := fun e => by have := hr.2 e; cases this
    have HR := Lib.hid hr2
    clear hr hr2
    go_wp2_with fail
    go_ret
    exact ⟨tells_no (fun e => HR.out e.2.2.2.2.1), B.out⟩
  have HR := Lib.hid (show row = row' from hr.1 rfl)
  clear hr
  have x9 := X.out.cell (i := 9) rfl
  have y9 := Y.out.cell (i := 9) rfl
  have x10 := X.out.cell (i := 10) rfl
  have y10 := Y.out.cell (i := 10) rfl
  have x11 := X.out.cell (i := 11) rfl
  have y11 := Y.out.cell (i := 11) rfl
  have x12 := X.out.cell (i := 12) rfl
  have y12 := Y.out.cell (i := 12) rfl
  have x13 := X.out.cell (i := 13) rfl
  have y13 := Y.out.cell (i := 13) rfl
  by_cases c_c : c = c'
  rotate_left 1
  · have d_c : ((c : Int) == c') = false := by simpa using c_c
    go_wp2_with fail
    go_ret
    exact ⟨tells_no (fun e => c_c e.2.2.2.2.2.1), B.out⟩
  have d_c : ((c : Int) == c') = true := by simpa using c_c
  have C_c := Lib.hid c_c
  clear c_c
  by_cases c_vk : vk = vk'
  rotate_left 1
  · have d_vk : ((vk : Int) == vk') = false := by simpa using c_vk
    go_wp2_with fail
    go_ret
    exact ⟨tells_no (fun e => c_vk (V.mk.inj e.2.2.2.2.2.2.1).1), B.out⟩
  have d_vk : ((vk : Int) == vk') = true := by simpa using c_vk
  have C_vk := Lib.hid c_vk
  clear c_vk
  by_cases c_vn : vn = vn'
  rotate_left 1
  · have d_vn : ((vn : Int) == vn') = false := by simpa using c_vn
    go_wp2_with fail
    go_ret
    exact ⟨tells_no (fun e => c_vn (V.mk.inj e.2.2.2.2.2.2.1).2.1), B.out⟩
  have d_vn : ((vn : Int) == vn') = true := by simpa using c_vn
  have C_vn := Lib.hid c_vn
  clear c_vn
  by_cases c_vs : vs = vs'
  rotate_left 1
  · have d_vs : ¬ vs.toList = vs'.toList := fun e => c_vs (Bytes.toList_inj.1 e)
    go_wp2_with fail
    go_ret
    exact ⟨tells_no (fun e => c_vs (V.mk.inj e.2.2.2.2.2.2.1).2.2), B.out⟩
  have d_vs : (vs.toList == vs'.toList) = true := by rw [c_vs]; simp
  have C_v := Lib.hid (show (⟨vk, vn, vs⟩ : V) = ⟨vk', vn', vs'⟩ by rw [C_vk.out, C_vn.out, c_vs])
  clear c_vs
  by_cases c_wn : wn = wn'
  rotate_left 1
  · have d_wn : ((wn : Int) == wn') = false := by simpa using c_wn
    go_wp2_with fail
    go_ret
    exact ⟨tells_no (fun e => c_wn e.2.2.2.2.2.2.2), B.out⟩
  have d_wn : ((wn : Int) == wn') = true := by simpa using c_wn
  have C_wn := Lib.hid c_wn
  clear c_wn
  go_wp2_with fail
  go_ret
  exact ⟨tells_yes ⟨C_wk.out, C_wt.out, C_k.out, C_h.out, HR.out, C_c.out, C_v.out, C_wn.out⟩, B.out⟩
set_option maxHeartbeats 16000000 in
theorem msame_calls (x y : Mv) (w : World) (hV : Vs w x.w.ra x.w.row) (hU : Vs w y.w.ra y.w.row) (hl : x.w.row.length ≤ 9223372036854775807) (hl2 : y.w.row.length ≤ 9223372036854775807) :
    Calls Try.prog 50 #[.agg x.cells.toArray, .agg y.cells.toArray] w fun e w' => Tells (x.eqv y) e ∧ Below w.heap.size w w' := by
  obtain ⟨k, n, a, ⟨wk, wt, ⟨kk, kn, ks⟩, ⟨hk, hn, hs⟩, ra, rc, row, c, ⟨vk, vn, vs⟩, wn⟩, p, q⟩ := x
  obtain ⟨k', n', a', ⟨wk', wt', ⟨kk', kn', ks'⟩, ⟨hk', hn', hs'⟩, ra', rc', row', c', ⟨vk', vn', vs'⟩, wn'⟩, p', q'⟩ := y
  simp only at hV hU hl hl2
  show Calls Try.prog 50 #[.agg #[.int .i64 k, .int .i64 n, .int .i64 a, .int .i64 wk, .int .i64 wt, .int .i64 kk, .int .i64 kn, .string ks, .int .i64 hk, .int .i64 hn, .string hs, .slice ra row.length rc, .int .i64 c, .int .i64 vk, .int .i64 vn, .string vs, .int .i64 wn, .int .i64 p, .int .i64 q], .agg #[.int .i64 k', .int .i64 n', .int .i64 a', .int .i64 wk', .int .i64 wt', .int .i64 kk', .int .i64 kn', .string ks', .int .i64 hk', .int .i64 hn', .string hs', .slice ra' row'.length rc', .int .i64 c', .int .i64 vk', .int .i64 vn', .string vs', .int .i64 wn', .int .i64 p', .int .i64 q']] w _
  have hX := (Row.new w 99 [.int .i64 k, .int .i64 n, .int .i64 a, .int .i64 wk, .int .i64 wt, .int .i64 kk, .int .i64 kn, .string ks, .int .i64 hk, .int .i64 hn, .string hs, .slice ra row.length rc, .int .i64 c, .int .i64 vk, .int .i64 vn, .string vs, .int .i64 wn, .int .i64 p, .int .i64 q]).alloc (.cells #[.int .i64 k', .int .i64 n', .int .i64 a', .int .i64 wk', .int .i64 wt', .int .i64 kk', .int .i64 kn', .string ks', .int .i64 hk', .int .i64 hn', .string hs', .slice ra' row'.length rc', .int .i64 c', .int .i64 vk', .int .i64 vn', .string vs', .int .i64 wn', .int .i64 p', .int .i64 q'] 99)
  have hY : Row ((w.alloc (.cells #[.int .i64 k, .int .i64 n, .int .i64 a, .int .i64 wk, .int .i64 wt, .int .i64 kk, .int .i64 kn, .string ks, .int .i64 hk, .int .i64 hn, .string hs, .slice ra row.length rc, .int .i64 c, .int .i64 vk, .int .i64 vn, .string vs, .int .i64 wn, .int .i64 p, .int .i64 q] 99)).alloc (.cells #[.int .i64 k', .int .i64 n', .int .i64 a', .int .i64 wk', .int .i64 wt', .int .i64 kk', .int .i64 kn', .string ks', .int .i64 hk', .int .i64 hn', .string hs', .slice ra' row'.length rc', .int .i64 c', .int .i64 vk', .int .i64 vn', .string vs', .int .i64 wn', .int .i64 p', .int .i64 q'] 99)) (w.heap.size + 1) 99 [.int .i64 k', .int .i64 n', .int .i64 a', .int .i64 wk', .int .i64 wt', .int .i64 kk', .int .i64 kn', .string ks', .int .i64 hk', .int .i64 hn', .string hs', .slice ra' row'.length rc', .int .i64 c', .int .i64 vk', .int .i64 vn', .string vs', .int .i64 wn', .int .i64 p', .int .i64 q'] := Wide.new_at (by simp)
  have hb := ((Below.refl w.heap.size w).alloc (Nat.le_refl _) (.cells #[.int .i64 k, .int .i64 n, .int .i64 a, .int .i64 wk, .int .i64 wt, .int .i64 kk, .int .i64 kn, .string ks, .int .i64 hk, .int .i64 hn, .string hs, .slice ra row.length rc, .int .i64 c, .int .i64 vk, .int .i64 vn, .string vs, .int .i64 wn, .int .i64 p, .int .i64 q] 99)).alloc (by simp) (.cells #[.int .i64 k', .int .i64 n', .int .i64 a', .int .i64 wk', .int .i64 wt', .int .i64 kk', .int .i64 kn', .string ks', .int .i64 hk', .int .i64 hn', .string hs', .slice ra' row'.length rc', .int .i64 c', .int .i64 vk', .int .i64 vn', .string vs', .int .i64 wn', .int .i64 p', .int .i64 q'] 99)
  have X := Lib.hid hX
  have Y := Lib.hid hY
  have B := Lib.hid hb
  have SC := Lib.hid (wsame_calls ⟨wk, wt, ⟨kk, kn, ks⟩, ⟨hk, hn, hs⟩, ra, rc, row, c, ⟨vk, vn, vs⟩, wn⟩ ⟨wk', wt', ⟨kk', kn', ks'⟩, ⟨hk', hn', hs'⟩, ra', rc', row', c', ⟨vk', vn', vs'⟩, wn'⟩ _ (hV.keep hb) (hU.keep hb) hl hl2)
  replace SC := Lib.hid (show Calls Try.prog 112 #[.agg #[.int .i64 wk, .int .i64 wt, .int .i64 kk, .int .i64 kn, .string ks, .int .i64 hk, .int .i64 hn, .string hs, .slice ra row.length rc, .int .i64 c, .int .i64 vk, .int .i64 vn, .string vs, .int .i64 wn], .agg #[.int .i64 wk', .int .i64 wt', .int .i64 kk', .int .i64 kn', .string ks', .int .i64 hk', .int .i64 hn', .string hs', .slice ra' row'.length rc', .int .i64 c', .int .i64 vk', .int .i64 vn', .string vs', .int .i64 wn']] _ _ from SC.out)
  have x0 := X.out.cell (i := 0) rfl
  have y0 := Y.out.cell (i := 0) rfl
  have x1 := X.out.cell (i := 1) rfl
  have y1 := Y.out.cell (i := 1) rfl
  have x2 := X.out.cell (i := 2) rfl
  have y2 := Y.out.cell (i := 2) rfl
  clear hX hY hb hV hU
  go_enter Try.func50, Try.ntmps50
  by_cases c_k : k = k'
  rotate_left 1
  · have d_k : ((k : Int) == k') = false := by simpa using c_k
    go_wp2_with fail
    go_ret
    exact ⟨tells_no (fun e => c_k e.1), B.out⟩
  have d_k : ((k : Int) == k') = true := by simpa using c_k
  have C_k := Lib.hid c_k
  clear c_k
  by_cases c_n : n = n'
  rotate_left 1
  · have d_n : ((n : Int) == n') = false := by simpa using c_n
    go_wp2_with fail
    go_ret
    exact ⟨tells_no (fun e => c_n e.2.1), B.out⟩
  have d_n : ((n : Int) == n') = true := by simpa using c_n
  have C_n := Lib.hid c_n
  clear c_n
  by_cases c_a : a = a'
  rotate_left 1
  · have d_a : ((a : Int) == a') = false := by simpa using c_a
    go_wp2_with fail
    go_ret
    exact ⟨tells_no (fun e => c_a e.2.2.1), B.out⟩
  have d_a : ((a : Int) == a') = true := by simpa using c_a
  have C_a := Lib.hid c_a
  clear c_a
  go_wp2_with (first | (refine load_part_g [.int .i64 k, .int .i64 n, .int .i64 a] [.int .i64 wk, .int .i64 wt, .int .i64 kk, .int .i64 kn, .string ks, .int .i64 hk, .int .i64 hn, .string hs, .slice ra row.length rc, .int .i64 c, .int .i64 vk, .int .i64 vn, .string vs, .int .i64 wn] [.int .i64 p, .int .i64 q] X.out 97 Try.underlying97 rfl (by kernel_rfl) (by rfl) rfl 3 rfl rfl ?_) | (refine load_part_g [.int .i64 k', .int .i64 n', .int .i64 a'] [.int .i64 wk', .int .i64 wt', .int .i64 kk', .int .i64 kn', .string ks', .int .i64 hk', .int .i64 hn', .string hs', .slice ra' row'.length rc', .int .i64 c', .int .i64 vk', .int .i64 vn', .string vs', .int .i64 wn'] [.int .i64 p', .int .i64 q'] Y.out 97 Try.underlying97 rfl (by kernel_rfl) (by rfl) rfl 3 rfl rfl ?_))
  refine SC.out.mono ?_
  rintro e w1 ⟨⟨r, hr, rfl⟩, k1⟩
  replace X := Lib.hid (X.out.below k1 X.out.lt)
  replace Y := Lib.hid (Y.out.below k1 Y.out.lt)
  replace B := Lib.hid (B.out.trans (k1.mono B.out.size))
  clear k1 x0 y0 x1 y1 x2 y2
  have HR := Lib.hid hr
  clear hr
  cases r
  · have HR2 := Lib.hid (mt HR.out.2 (by decide))
    clear HR
    go_wp2_with fail
    go_ret
    exact ⟨tells_no (fun e => HR2.out e.2.2.2.1), B.out⟩
  have HR3 := Lib.hid (HR.out.1 rfl)
  clear HR
  have x17 := X.out.cell (i := 17) rfl
  have y17 := Y.out.cell (i := 17) rfl
  have x18 := X.out.cell (i := 18) rfl
  have y18 := Y.out.cell (i := 18) rfl
  by_cases c_p : p = p'
  rotate_left 1
  · have d_p : ((p : Int) == p') = false := by simpa using c_p
    go_wp2_with fail
    go_ret
    exact ⟨tells_no (fun e => c_p e.2.2.2.2.1), B.out⟩
  have d_p : ((p : Int) == p') = true := by simpa using c_p
  have C_p := Lib.hid c_p
  clear c_p
  by_cases c_q : q = q'
  rotate_left 1
  · have d_q : ((q : Int) == q') = false := by simpa using c_q
    go_wp2_with fail
    go_ret
    exact ⟨tells_no (fun e => c_q e.2.2.2.2.2), B.out⟩
  have d_q : ((q : Int) == q') = true := by simpa using c_q
  have C_q := Lib.hid c_q
  clear c_q
  go_wp2_with fail
  go_ret
  exact ⟨tells_yes ⟨C_k.out, C_n.out, C_a.out, HR3.out, C_p.out, C_q.out⟩, B.out⟩
end Go.Proofs.Ytcfjooeagfollaa.Bill

/- gaugerref26.wish. Printed by bill_refwish.py -/
namespace Go.Proofs.Ytcfjooeagfollaa.Bill
open Go.RowKit Go.Proofs.Ytcfjooeagfollaa.Mem Go.Proofs.Ytcfjooeagfollaa.Bytes Go.Proofs.Ytcfjooeagfollaa.Num Go.Proofs.Ytcfjooeagfollaa.Sign
set_option linter.unusedSimpArgs false
set_option linter.unusedVariables false
set_option maxRecDepth 20000

def WPost (x : Wsh) (e : Ending) : Prop := ∃ (s : ByteArray) (r : Bool), e = .returned (.tuple #[.string s, .bool r]) ∧ (r = true ↔ x.bad = false ∧ x.told.eqv x) ∧ (r = true → s = bs x.bytes)
theorem wpost_no {x : Wsh} {s : ByteArray} (h : x.bad = true) : WPost x (.returned (.tuple #[.string s, .bool false])) :=
  ⟨s, false, rfl, ⟨fun e => (by cases e), fun e => (by rw [h] at e; cases e.1)⟩, fun e => (by cases e)⟩
theorem weqv_symm {x y : Wsh} (h : x.eqv y) : y.eqv x := ⟨h.1.symm, h.2.1.symm, h.2.2.1.symm, h.2.2.2.1.symm, h.2.2.2.2.1.symm, h.2.2.2.2.2.1.symm, h.2.2.2.2.2.2.1.symm, h.2.2.2.2.2.2.2.symm⟩
theorem wpost_is {x y : Wsh} {s : ByteArray} {r : Bool} (hb : x.bad = false) (hy : x.told = y) (hr : r = true ↔ x.eqv y) (hs : s = bs x.bytes) : WPost x (.returned (.tuple #[.string s, .bool r])) :=
  ⟨s, r, rfl, ⟨fun e => ⟨hb, by rw [hy]; exact weqv_symm (hr.1 e)⟩, fun e => hr.2 (by rw [← hy]; exact weqv_symm e.2)⟩, fun _ => hs⟩
theorem one_is {n : Int} {c : UInt8} {r : Bool} (hc : oneB n = c) (hr : oneBad n = !r) (w : World) : Calls Try.prog 102 #[.int .i64 n] w fun e w' => e = .returned (.tuple #[.string (bs [c]), .bool r]) ∧ Below w.heap.size w w' := by
  have h := refone_calls n w
  rw [hc, hr, Bool.not_not] at h
  exact h
theorem vals_is {l : List V} {vb : List UInt8} {r : Bool} (hr : valR l = (vb, r)) {a : Option Addr} {cap : Nat} {w : World} (hV : Vs w a l) (hf : ∀ v ∈ l, v.fits) (hl : l.length ≤ 100000) {n : Int} (hn : n = (l.length : Int)) :
    Calls Try.prog 150 #[.slice a l.length cap] w fun e w' => e = .returned (.tuple #[.string (bs vb), .bool r]) ∧ Below w.heap.size w w' := by
  have h := refvalues_calls l a cap w hV hf hl
  rw [hr] at h
  exact h
theorem valR_len {l : List V} {vb : List UInt8} {r : Bool} (hr : valR l = (vb, r)) : vb.length ≤ 9 * l.length := by
  unfold valR at hr
  split at hr
  · rename_i h
    rw [List.all_eq_true] at h
    have := codes_length h
    cases hr
    omega
  · cases hr
    simp
theorem valR_fst {l : List V} {vb : List UInt8} (hr : valR l = (vb, true)) : vals l = vb ∧ valsBad l = false := by
  have h2 := valR_is l
  rw [hr] at h2
  have h3 : valsBad l = false := by simpa using h2.symm
  have h1 := valR_bytes h3
  rw [hr] at h1
  exact ⟨(Prod.mk.inj h1).1.symm, h3⟩
theorem valR_snd {l : List V} {vb : List UInt8} (hr : valR l = (vb, false)) : valsBad l = true := by
  have h2 := valR_is l
  rw [hr] at h2
  simpa using h2.symm
theorem vs_lit1 (k n : Int) (s : ByteArray) {w : World} {b : Nat} (hb : b = w.heap.size) : Vs (w.alloc (.cells #[.int .i64 k, .int .i64 n, .string s] 81)) (some ⟨b, 0, none⟩) [⟨k, n, s⟩] := by
  subst hb
  intro i hi
  obtain rfl : i = 0 := by simpa using hi
  have hR := Row.new w 81 [.int .i64 k, .int .i64 n, .string s]
  exact ⟨_, rfl, hR.lt, fun w' hb => ⟨(hR.below hb hR.lt).cell rfl, (hR.below hb hR.lt).cell rfl, (hR.below hb hR.lt).cell rfl⟩⟩
theorem vs_lit2 (k n : Int) (s : ByteArray) (k' n' : Int) (s' : ByteArray) {w : World} {b : Nat} (hb : b = w.heap.size) : Vs (w.alloc (.cells #[.int .i64 k, .int .i64 n, .string s, .int .i64 k', .int .i64 n', .string s'] 81)) (some ⟨b, 0, none⟩) [⟨k, n, s⟩, ⟨k', n', s'⟩] := by
  subst hb
  intro i hi
  have hR := Row.new w 81 [.int .i64 k, .int .i64 n, .string s, .int .i64 k', .int .i64 n', .string s']
  rcases (by have : i < 2 := hi; omega : i = 0 ∨ i = 1) with rfl | rfl
  · exact ⟨_, rfl, hR.lt, fun w' hb => ⟨(hR.below hb hR.lt).cell rfl, (hR.below hb hR.lt).cell rfl, (hR.below hb hR.lt).cell rfl⟩⟩
  · exact ⟨_, rfl, hR.lt, fun w' hb => ⟨(hR.below hb hR.lt).cell rfl, (hR.below hb hR.lt).cell rfl, (hR.below hb hR.lt).cell rfl⟩⟩
theorem app2 (a b : UInt8) : bs [a] ++ bs [b] = bs [a, b] := (bs_append [a] [b]).symm
theorem app3 (a b : UInt8) (l : List UInt8) : bs [a, b] ++ bs l = bs (a :: b :: l) := (bs_append [a, b] l).symm
theorem app1l (a : UInt8) (l : List UInt8) : bs [a] ++ bs l = bs (a :: l) := (bs_append [a] l).symm
theorem fit_size {a b : List UInt8} (h : a.length + b.length ≤ 1000000) : ¬ 9223372036854775807 < (bs a).size + (bs b).size := by rw [bs_size, bs_size]; omega

set_option maxHeartbeats 8000000 in
theorem rw_1 (t kk kn hk hn c vk vn wn : Int) (ks hs vs : ByteArray) (ra : Option Addr) (rc : Nat) (row : List V) (w : World) (hV : Vs w ra row) (hf : ((⟨1, t, ⟨kk, kn, ks⟩, ⟨hk, hn, hs⟩, ra, rc, row, c, ⟨vk, vn, vs⟩, wn⟩ : Wsh)).fits) (hl : row.length ≤ 1000) (ht : oneBad t = false) (h4 : row.length ≤ 4) :
    Calls Try.prog 103 #[.agg #[.int .i64 1, .int .i64 t, .int .i64 kk, .int .i64 kn, .string ks, .int .i64 hk, .int .i64 hn, .string hs, .slice ra row.length rc, .int .i64 c, .int .i64 vk, .int .i64 vn, .string vs, .int .i64 wn]] w fun e w' => WPost (⟨1, t, ⟨kk, kn, ks⟩, ⟨hk, hn, hs⟩, ra, rc, row, c, ⟨vk, vn, vs⟩, wn⟩ : Wsh) e ∧ Below w.heap.size w w' := by
  have hbad : Wsh.bad (⟨1, t, ⟨kk, kn, ks⟩, ⟨hk, hn, hs⟩, ra, rc, row, c, ⟨vk, vn, vs⟩, wn⟩ : Wsh) = valsBad row := by simp [Wsh.bad, ht, show oneBad 1 = false from by decide, show ¬ 4 < row.length from by omega, show oneBad (row.length : Int) = false from by unfold oneBad; simp; omega]
  have htold : Wsh.told (⟨1, t, ⟨kk, kn, ks⟩, ⟨hk, hn, hs⟩, ra, rc, row, c, ⟨vk, vn, vs⟩, wn⟩ : Wsh) = ⟨1, t, noV, noV, ra, rc, row, 0, noV, 0⟩ := by simp [Wsh.told]
  obtain ⟨c1, hc1⟩ : ∃ c, oneB 1 = c := ⟨_, rfl⟩
  obtain ⟨c2, hc2⟩ : ∃ c, oneB t = c := ⟨_, rfl⟩
  have hbytes : ∀ v, ((oneB row.length :: vals row) = v → Wsh.bytes (⟨1, t, ⟨kk, kn, ks⟩, ⟨hk, hn, hs⟩, ra, rc, row, c, ⟨vk, vn, vs⟩, wn⟩ : Wsh) = c1 :: c2 :: v) := fun v hv => by simp [Wsh.bytes, ← hc1, ← hc2, ← hv]
  have O1 := Lib.hid (one_is (n := 1) (r := true) hc1 (by decide))
  have O2 := Lib.hid (one_is (n := t) (r := true) hc2 (by rw [ht]; rfl))
  have HBAD := Lib.hid hbad
  have HTOLD := Lib.hid htold
  have HBY := Lib.hid hbytes
  have VV := Lib.hid hV
  have HF := Lib.hid hf
  have X := Lib.hid (Row.new w 97 [.int .i64 1, .int .i64 t, .int .i64 kk, .int .i64 kn, .string ks, .int .i64 hk, .int .i64 hn, .string hs, .slice ra row.length rc, .int .i64 c, .int .i64 vk, .int .i64 vn, .string vs, .int .i64 wn])
  have B := Lib.hid ((Below.refl w.heap.size w).alloc (Nat.le_refl _) (.cells #[.int .i64 1, .int .i64 t, .int .i64 kk, .int .i64 kn, .string ks, .int .i64 hk, .int .i64 hn, .string hs, .slice ra row.length rc, .int .i64 c, .int .i64 vk, .int .i64 vn, .string vs, .int .i64 wn] 97))
  have e2 := app2 c1 c2
  have q2 := fit_size (a := [c1]) (b := [c2]) (by simp)
  have x0 := X.out.cell (i := 0) rfl
  have x1 := X.out.cell (i := 1) rfl
  clear hbad htold hbytes hV hf hc1 hc2 ht
  obtain ⟨⟨pb, pr⟩, hp⟩ : ∃ p, valR row = p := ⟨_, rfl⟩
  have lp := valR_len hp
  try simp only [List.length_cons, List.length_nil] at lp
  have Vp := Lib.hid hp
  clear hp
  obtain ⟨c3, hc3⟩ : ∃ x, oneB row.length = x := ⟨_, rfl⟩
  have hm3 := ob_mod (row.length : Int)
  rw [hc3] at hm3
  have hm4 : (row.length : Int) = (c3.toNat : Int) := by omega
  have HM4 := Lib.hid hm4
  have HC3 := Lib.hid hc3
  clear hc3 hm3 hm4
  have e4 := app1l c3 pb
  have q4 := fit_size (a := [c3]) (b := pb) (by simp only [List.length_cons, List.length_nil]; omega)
  have e3 := app3 c1 c2 (c3 :: pb)
  have q3 := fit_size (a := [c1, c2]) (b := c3 :: pb) (by simp only [List.length_cons, List.length_nil]; omega)
  have h4' : decide ((4 : Int) < (row.length : Int)) = false := by simp; omega
  go_enter Try.func103, Try.ntmps103
  go_wp2_with fail
  refine (O1.out _).mono ?_
  rintro e w1 ⟨rfl, k1⟩
  replace X := Lib.hid (X.out.below k1 X.out.lt)
  replace B := Lib.hid (B.out.trans (k1.mono B.out.size))
  clear k1 x0 x1
  have x1 := X.out.cell (i := 1) rfl
  go_wp2_with fail
  refine (O2.out _).mono ?_
  rintro e w2 ⟨rfl, k2⟩
  replace X := Lib.hid (X.out.below k2 X.out.lt)
  replace B := Lib.hid (B.out.trans (k2.mono B.out.size))
  clear k2 x1
  have T := Lib.hid (Row.new w2 97 [.int .i64 0, .int .i64 0, .int .i64 0, .int .i64 0, .string ⟨#[]⟩, .int .i64 0, .int .i64 0, .string ⟨#[]⟩, .slice none 0 0, .int .i64 0, .int .i64 0, .int .i64 0, .string ⟨#[]⟩, .int .i64 0])
  have HXL := Lib.hid X.out.lt
  have hne : w.heap.size ≠ w2.heap.size := by have := HXL.out; omega
  have x0 := X.out.cell (i := 0) rfl
  have x1 := X.out.cell (i := 1) rfl
  go_wp2_with (first | (refine store_row T.out [.int .i64 1, .int .i64 t, .int .i64 0, .int .i64 0, .string ⟨#[]⟩, .int .i64 0, .int .i64 0, .string ⟨#[]⟩, .slice none 0 0, .int .i64 0, .int .i64 0, .int .i64 0, .string ⟨#[]⟩, .int .i64 0] 97 (by kernel_rfl) rfl (by simp [Value.oneCell']) rfl rfl rfl rfl ?_; intro w3 hz kz zz; clear x0 x1; replace X := Lib.hid ((X.out.alloc (.cells #[.int .i64 0, .int .i64 0, .int .i64 0, .int .i64 0, .string ⟨#[]⟩, .int .i64 0, .int .i64 0, .string ⟨#[]⟩, .slice none 0 0, .int .i64 0, .int .i64 0, .int .i64 0, .string ⟨#[]⟩, .int .i64 0] 97)).chg kz hne); have HW := Lib.hid (show w.heap.size ≤ w2.heap.size from B.out.size); replace B := Lib.hid ((B.out.alloc B.out.size (.cells #[.int .i64 0, .int .i64 0, .int .i64 0, .int .i64 0, .string ⟨#[]⟩, .int .i64 0, .int .i64 0, .string ⟨#[]⟩, .slice none 0 0, .int .i64 0, .int .i64 0, .int .i64 0, .string ⟨#[]⟩, .int .i64 0] 97)).trans (kz.below (B := w.heap.size) (by have := B.out.size; simp; omega) (fun i e => by have e : i = w2.heap.size := e; have := B.out.size; omega))); replace T := Lib.hid hz; clear hz kz zz; have x0 := X.out.cell (i := 0) rfl; have x1 := X.out.cell (i := 1) rfl; have x2 := X.out.cell (i := 2) rfl; have x3 := X.out.cell (i := 3) rfl; have x4 := X.out.cell (i := 4) rfl; have x5 := X.out.cell (i := 5) rfl; have x6 := X.out.cell (i := 6) rfl; have x7 := X.out.cell (i := 7) rfl; have x8 := X.out.cell (i := 8) rfl; have x9 := X.out.cell (i := 9) rfl; have x10 := X.out.cell (i := 10) rfl; have x11 := X.out.cell (i := 11) rfl; have x12 := X.out.cell (i := 12) rfl; have x13 := X.out.cell (i := 13) rfl; have t8 := T.out.cell (i := 8) rfl; have g8 := T.out.frozen 8 (by simp); have T_0 := Lib.hid ((T.out.set 8 (.slice ra row.length rc)).cast (cs' := [.int .i64 1, .int .i64 t, .int .i64 0, .int .i64 0, .string ⟨#[]⟩, .int .i64 0, .int .i64 0, .string ⟨#[]⟩, .slice ra row.length rc, .int .i64 0, .int .i64 0, .int .i64 0, .string ⟨#[]⟩, .int .i64 0]) rfl); have X_0 := Lib.hid (X.out.set_ne ⟨w2.heap.size, 8, none⟩ (.slice ra row.length rc) (Ne.symm hne)); have B_0 := Lib.hid (B.out.setCell (p := ⟨w2.heap.size, 8, none⟩) HW.out (.slice ra row.length rc))))
  generalize w2.heap.size = g at *
  clear x0 x1 x2 x3 x4 x5 x6 x7 x8 x9 x10 x11 x12 x13 t8 g8
  replace X := X_0
  replace T := T_0
  replace B := B_0
  refine (vals_is Vp.out (VV.out.keep B.out) HF.out.2.2.2 (by omega) rfl).mono ?_
  rintro e w4 ⟨rfl, k9⟩
  replace X := Lib.hid (X.out.below k9 X.out.lt)
  replace T := Lib.hid (T.out.below k9 T.out.lt)
  replace B := Lib.hid (B.out.trans (k9.mono B.out.size))
  clear k9
  have x8 := X.out.cell (i := 8) rfl
  have cv := run_str1 c3 w4
  rw [← HM4.out] at cv
  have XA := Lib.hid (X.out.alloc (.cells #[.int .u8 (c3.toNat : Int)] 5))
  have TA := Lib.hid (T.out.alloc (.cells #[.int .u8 (c3.toNat : Int)] 5))
  have BA := Lib.hid (B.out.alloc B.out.size (.cells #[.int .u8 (c3.toNat : Int)] 5))
  rw [← HM4.out] at XA TA BA
  clear X T B
  cases pr
  · have HQ := Lib.hid (valR_snd Vp.out)
    have B := BA
    go_wp2_with fail
    go_ret2
    exact ⟨wpost_no (by rw [HBAD.out]; exact HQ.out), B.out⟩
  · have HQ := Lib.hid (valR_fst Vp.out)
    have X := XA
    have T := TA
    have B := BA
    go_wp2_with (first | (refine load_row_g X.out 97 Try.underlying97 rfl (by kernel_rfl) (by rfl) rfl rfl ?_) | (refine load_row_g T.out 97 Try.underlying97 rfl (by kernel_rfl) (by rfl) rfl rfl ?_))
    have SC := Lib.hid (wsame_calls (⟨1, t, ⟨kk, kn, ks⟩, ⟨hk, hn, hs⟩, ra, rc, row, c, ⟨vk, vn, vs⟩, wn⟩ : Wsh) ⟨1, t, noV, noV, ra, rc, row, 0, noV, 0⟩ _ (VV.out.keep B.out) (VV.out.keep B.out) (by simp only; omega) (by first | (simp; done) | (simp only; omega)))
    replace SC := Lib.hid (show Calls Try.prog 112 #[.agg #[.int .i64 1, .int .i64 t, .int .i64 kk, .int .i64 kn, .string ks, .int .i64 hk, .int .i64 hn, .string hs, .slice ra row.length rc, .int .i64 c, .int .i64 vk, .int .i64 vn, .string vs, .int .i64 wn], .agg #[.int .i64 1, .int .i64 t, .int .i64 0, .int .i64 0, .string ⟨#[]⟩, .int .i64 0, .int .i64 0, .string ⟨#[]⟩, .slice ra row.length rc, .int .i64 0, .int .i64 0, .int .i64 0, .string ⟨#[]⟩, .int .i64 0]] _ _ from SC.out)
    refine SC.out.mono ?_
    rintro e w30 ⟨⟨r, hr, rfl⟩, k9⟩
    replace B := Lib.hid (B.out.trans (k9.mono B.out.size))
    have HR := Lib.hid hr
    clear k9 hr SC
    go_wp2_with fail
    go_ret2
    exact ⟨wpost_is (by rw [HBAD.out]; exact HQ.out.2) HTOLD.out HR.out (by rw [HBY.out (c3 :: pb) (by rw [HQ.out.1, HC3.out])]), B.out⟩
set_option maxHeartbeats 8000000 in
theorem rw_2 (t kk kn hk hn c vk vn wn : Int) (ks hs vs : ByteArray) (ra : Option Addr) (rc : Nat) (row : List V) (w : World) (hV : Vs w ra row) (hf : ((⟨2, t, ⟨kk, kn, ks⟩, ⟨hk, hn, hs⟩, ra, rc, row, c, ⟨vk, vn, vs⟩, wn⟩ : Wsh)).fits) (hl : row.length ≤ 1000) (ht : oneBad t = false) :
    Calls Try.prog 103 #[.agg #[.int .i64 2, .int .i64 t, .int .i64 kk, .int .i64 kn, .string ks, .int .i64 hk, .int .i64 hn, .string hs, .slice ra row.length rc, .int .i64 c, .int .i64 vk, .int .i64 vn, .string vs, .int .i64 wn]] w fun e w' => WPost (⟨2, t, ⟨kk, kn, ks⟩, ⟨hk, hn, hs⟩, ra, rc, row, c, ⟨vk, vn, vs⟩, wn⟩ : Wsh) e ∧ Below w.heap.size w w' := by
  have hbad : Wsh.bad (⟨2, t, ⟨kk, kn, ks⟩, ⟨hk, hn, hs⟩, ra, rc, row, c, ⟨vk, vn, vs⟩, wn⟩ : Wsh) = valsBad [(⟨kk, kn, ks⟩ : V)] := by simp [Wsh.bad, ht, show oneBad 2 = false from by decide]
  have htold : Wsh.told (⟨2, t, ⟨kk, kn, ks⟩, ⟨hk, hn, hs⟩, ra, rc, row, c, ⟨vk, vn, vs⟩, wn⟩ : Wsh) = ⟨2, t, ⟨kk, kn, ks⟩, noV, none, 0, [], 0, noV, 0⟩ := by simp [Wsh.told]
  obtain ⟨c1, hc1⟩ : ∃ c, oneB 2 = c := ⟨_, rfl⟩
  obtain ⟨c2, hc2⟩ : ∃ c, oneB t = c := ⟨_, rfl⟩
  have hbytes : ∀ v, (vals [(⟨kk, kn, ks⟩ : V)] = v → Wsh.bytes (⟨2, t, ⟨kk, kn, ks⟩, ⟨hk, hn, hs⟩, ra, rc, row, c, ⟨vk, vn, vs⟩, wn⟩ : Wsh) = c1 :: c2 :: v) := fun v hv => by simp [Wsh.bytes, ← hc1, ← hc2, ← hv]
  have O1 := Lib.hid (one_is (n := 2) (r := true) hc1 (by decide))
  have O2 := Lib.hid (one_is (n := t) (r := true) hc2 (by rw [ht]; rfl))
  have HBAD := Lib.hid hbad
  have HTOLD := Lib.hid htold
  have HBY := Lib.hid hbytes
  have VV := Lib.hid hV
  have HF := Lib.hid hf
  have X := Lib.hid (Row.new w 97 [.int .i64 2, .int .i64 t, .int .i64 kk, .int .i64 kn, .string ks, .int .i64 hk, .int .i64 hn, .string hs, .slice ra row.length rc, .int .i64 c, .int .i64 vk, .int .i64 vn, .string vs, .int .i64 wn])
  have B := Lib.hid ((Below.refl w.heap.size w).alloc (Nat.le_refl _) (.cells #[.int .i64 2, .int .i64 t, .int .i64 kk, .int .i64 kn, .string ks, .int .i64 hk, .int .i64 hn, .string hs, .slice ra row.length rc, .int .i64 c, .int .i64 vk, .int .i64 vn, .string vs, .int .i64 wn] 97))
  have e2 := app2 c1 c2
  have q2 := fit_size (a := [c1]) (b := [c2]) (by simp)
  have x0 := X.out.cell (i := 0) rfl
  have x1 := X.out.cell (i := 1) rfl
  clear hbad htold hbytes hV hf hc1 hc2 ht
  obtain ⟨⟨pb, pr⟩, hp⟩ : ∃ p, valR [(⟨kk, kn, ks⟩ : V)] = p := ⟨_, rfl⟩
  have lp := valR_len hp
  try simp only [List.length_cons, List.length_nil] at lp
  have Vp := Lib.hid hp
  clear hp
  have e3 := app3 c1 c2 pb
  have q3 := fit_size (a := [c1, c2]) (b := pb) (by simp only [List.length_cons, List.length_nil]; omega)
  go_enter Try.func103, Try.ntmps103
  go_wp2_with fail
  refine (O1.out _).mono ?_
  rintro e w1 ⟨rfl, k1⟩
  replace X := Lib.hid (X.out.below k1 X.out.lt)
  replace B := Lib.hid (B.out.trans (k1.mono B.out.size))
  clear k1 x0 x1
  have x1 := X.out.cell (i := 1) rfl
  go_wp2_with fail
  refine (O2.out _).mono ?_
  rintro e w2 ⟨rfl, k2⟩
  replace X := Lib.hid (X.out.below k2 X.out.lt)
  replace B := Lib.hid (B.out.trans (k2.mono B.out.size))
  clear k2 x1
  have T := Lib.hid (Row.new w2 97 [.int .i64 0, .int .i64 0, .int .i64 0, .int .i64 0, .string ⟨#[]⟩, .int .i64 0, .int .i64 0, .string ⟨#[]⟩, .slice none 0 0, .int .i64 0, .int .i64 0, .int .i64 0, .string ⟨#[]⟩, .int .i64 0])
  have HXL := Lib.hid X.out.lt
  have hne : w.heap.size ≠ w2.heap.size := by have := HXL.out; omega
  have x0 := X.out.cell (i := 0) rfl
  have x1 := X.out.cell (i := 1) rfl
  go_wp2_with (first | (refine store_row T.out [.int .i64 2, .int .i64 t, .int .i64 0, .int .i64 0, .string ⟨#[]⟩, .int .i64 0, .int .i64 0, .string ⟨#[]⟩, .slice none 0 0, .int .i64 0, .int .i64 0, .int .i64 0, .string ⟨#[]⟩, .int .i64 0] 97 (by kernel_rfl) rfl (by simp [Value.oneCell']) rfl rfl rfl rfl ?_; intro w3 hz kz zz; clear x0 x1; replace X := Lib.hid ((X.out.alloc (.cells #[.int .i64 0, .int .i64 0, .int .i64 0, .int .i64 0, .string ⟨#[]⟩, .int .i64 0, .int .i64 0, .string ⟨#[]⟩, .slice none 0 0, .int .i64 0, .int .i64 0, .int .i64 0, .string ⟨#[]⟩, .int .i64 0] 97)).chg kz hne); have HW := Lib.hid (show w.heap.size ≤ w2.heap.size from B.out.size); replace B := Lib.hid ((B.out.alloc B.out.size (.cells #[.int .i64 0, .int .i64 0, .int .i64 0, .int .i64 0, .string ⟨#[]⟩, .int .i64 0, .int .i64 0, .string ⟨#[]⟩, .slice none 0 0, .int .i64 0, .int .i64 0, .int .i64 0, .string ⟨#[]⟩, .int .i64 0] 97)).trans (kz.below (B := w.heap.size) (by have := B.out.size; simp; omega) (fun i e => by have e : i = w2.heap.size := e; have := B.out.size; omega))); replace T := Lib.hid hz; clear hz kz zz; have x0 := X.out.cell (i := 0) rfl; have x1 := X.out.cell (i := 1) rfl; have x2 := X.out.cell (i := 2) rfl; have x3 := X.out.cell (i := 3) rfl; have x4 := X.out.cell (i := 4) rfl; have x5 := X.out.cell (i := 5) rfl; have x6 := X.out.cell (i := 6) rfl; have x7 := X.out.cell (i := 7) rfl; have x8 := X.out.cell (i := 8) rfl; have x9 := X.out.cell (i := 9) rfl; have x10 := X.out.cell (i := 10) rfl; have x11 := X.out.cell (i := 11) rfl; have x12 := X.out.cell (i := 12) rfl; have x13 := X.out.cell (i := 13) rfl) | (refine store_part [.int .i64 2, .int .i64 t] [.int .i64 0, .int .i64 0, .string ⟨#[]⟩] [.int .i64 0, .int .i64 0, .string ⟨#[]⟩, .slice none 0 0, .int .i64 0, .int .i64 0, .int .i64 0, .string ⟨#[]⟩, .int .i64 0] T.out [.int .i64 kk, .int .i64 kn, .string ks] 81 (by kernel_rfl) rfl (by simp [Value.oneCell']) rfl rfl 2 rfl rfl rfl ?_; intro w8 hR kc hsz; clear x0 x1 x2 x3 x4 x5 x6 x7 x8 x9 x10 x11 x12 x13; have X_0 := Lib.hid (X.out.chg kc hne); have T_0 := Lib.hid hR; have B_0 := Lib.hid (B.out.trans (kc.below (B := w.heap.size) (B.out.size) (fun i e => by have e : i = w2.heap.size := e; have := HW.out; omega))); clear hR kc hsz; have x0 := X_0.out.cell (i := 0) rfl; have x1 := X_0.out.cell (i := 1) rfl; have x2 := X_0.out.cell (i := 2) rfl; have x3 := X_0.out.cell (i := 3) rfl; have x4 := X_0.out.cell (i := 4) rfl; have x5 := X_0.out.cell (i := 5) rfl; have x6 := X_0.out.cell (i := 6) rfl; have x7 := X_0.out.cell (i := 7) rfl; have x8 := X_0.out.cell (i := 8) rfl; have x9 := X_0.out.cell (i := 9) rfl; have x10 := X_0.out.cell (i := 10) rfl; have x11 := X_0.out.cell (i := 11) rfl; have x12 := X_0.out.cell (i := 12) rfl; have x13 := X_0.out.cell (i := 13) rfl))
  generalize w2.heap.size = g at *
  clear x0 x1 x2 x3 x4 x5 x6 x7 x8 x9 x10 x11 x12 x13
  replace X := X_0
  replace T := T_0
  replace B := B_0
  replace X := Lib.hid (X.out.alloc (.cells #[.int .i64 kk, .int .i64 kn, .string ks] 81))
  replace T := Lib.hid (T.out.alloc (.cells #[.int .i64 kk, .int .i64 kn, .string ks] 81))
  replace B := Lib.hid (B.out.alloc B.out.size (.cells #[.int .i64 kk, .int .i64 kn, .string ks] 81))
  refine (vals_is Vp.out (vs_lit1 kk kn ks (by simp [World.setCell])) (by intro v hv; rw [List.mem_singleton.1 hv]; exact HF.out.1) (by simp) rfl).mono ?_
  rintro e w4 ⟨rfl, k9⟩
  replace X := Lib.hid (X.out.below k9 X.out.lt)
  replace T := Lib.hid (T.out.below k9 T.out.lt)
  replace B := Lib.hid (B.out.trans (k9.mono B.out.size))
  clear k9
  cases pr
  · have HQ := Lib.hid (valR_snd Vp.out)
    go_wp2_with fail
    go_ret2
    exact ⟨wpost_no (by rw [HBAD.out]; exact HQ.out), B.out⟩
  · have HQ := Lib.hid (valR_fst Vp.out)
    go_wp2_with (first | (refine load_row_g X.out 97 Try.underlying97 rfl (by kernel_rfl) (by rfl) rfl rfl ?_) | (refine load_row_g T.out 97 Try.underlying97 rfl (by kernel_rfl) (by rfl) rfl rfl ?_))
    have SC := Lib.hid (wsame_calls (⟨2, t, ⟨kk, kn, ks⟩, ⟨hk, hn, hs⟩, ra, rc, row, c, ⟨vk, vn, vs⟩, wn⟩ : Wsh) ⟨2, t, ⟨kk, kn, ks⟩, noV, none, 0, [], 0, noV, 0⟩ _ (VV.out.keep B.out) (Vs.nil _ _) (by simp only; omega) (by first | (simp; done) | (simp only; omega)))
    replace SC := Lib.hid (show Calls Try.prog 112 #[.agg #[.int .i64 2, .int .i64 t, .int .i64 kk, .int .i64 kn, .string ks, .int .i64 hk, .int .i64 hn, .string hs, .slice ra row.length rc, .int .i64 c, .int .i64 vk, .int .i64 vn, .string vs, .int .i64 wn], .agg #[.int .i64 2, .int .i64 t, .int .i64 kk, .int .i64 kn, .string ks, .int .i64 0, .int .i64 0, .string ⟨#[]⟩, .slice none 0 0, .int .i64 0, .int .i64 0, .int .i64 0, .string ⟨#[]⟩, .int .i64 0]] _ _ from SC.out)
    refine SC.out.mono ?_
    rintro e w30 ⟨⟨r, hr, rfl⟩, k9⟩
    replace B := Lib.hid (B.out.trans (k9.mono B.out.size))
    have HR := Lib.hid hr
    clear k9 hr SC
    go_wp2_with fail
    go_ret2
    exact ⟨wpost_is (by rw [HBAD.out]; exact HQ.out.2) HTOLD.out HR.out (by rw [HBY.out (pb) HQ.out.1]), B.out⟩
set_option maxHeartbeats 8000000 in
theorem rw_4 (t kk kn hk hn c vk vn wn : Int) (ks hs vs : ByteArray) (ra : Option Addr) (rc : Nat) (row : List V) (w : World) (hV : Vs w ra row) (hf : ((⟨4, t, ⟨kk, kn, ks⟩, ⟨hk, hn, hs⟩, ra, rc, row, c, ⟨vk, vn, vs⟩, wn⟩ : Wsh)).fits) (hl : row.length ≤ 1000) (ht : oneBad t = false) :
    Calls Try.prog 103 #[.agg #[.int .i64 4, .int .i64 t, .int .i64 kk, .int .i64 kn, .string ks, .int .i64 hk, .int .i64 hn, .string hs, .slice ra row.length rc, .int .i64 c, .int .i64 vk, .int .i64 vn, .string vs, .int .i64 wn]] w fun e w' => WPost (⟨4, t, ⟨kk, kn, ks⟩, ⟨hk, hn, hs⟩, ra, rc, row, c, ⟨vk, vn, vs⟩, wn⟩ : Wsh) e ∧ Below w.heap.size w w' := by
  have hbad : Wsh.bad (⟨4, t, ⟨kk, kn, ks⟩, ⟨hk, hn, hs⟩, ra, rc, row, c, ⟨vk, vn, vs⟩, wn⟩ : Wsh) = valsBad [(⟨kk, kn, ks⟩ : V)] := by simp [Wsh.bad, ht, show oneBad 4 = false from by decide]
  have htold : Wsh.told (⟨4, t, ⟨kk, kn, ks⟩, ⟨hk, hn, hs⟩, ra, rc, row, c, ⟨vk, vn, vs⟩, wn⟩ : Wsh) = ⟨4, t, ⟨kk, kn, ks⟩, noV, none, 0, [], 0, noV, 0⟩ := by simp [Wsh.told]
  obtain ⟨c1, hc1⟩ : ∃ c, oneB 4 = c := ⟨_, rfl⟩
  obtain ⟨c2, hc2⟩ : ∃ c, oneB t = c := ⟨_, rfl⟩
  have hbytes : ∀ v, (vals [(⟨kk, kn, ks⟩ : V)] = v → Wsh.bytes (⟨4, t, ⟨kk, kn, ks⟩, ⟨hk, hn, hs⟩, ra, rc, row, c, ⟨vk, vn, vs⟩, wn⟩ : Wsh) = c1 :: c2 :: v) := fun v hv => by simp [Wsh.bytes, ← hc1, ← hc2, ← hv]
  have O1 := Lib.hid (one_is (n := 4) (r := true) hc1 (by decide))
  have O2 := Lib.hid (one_is (n := t) (r := true) hc2 (by rw [ht]; rfl))
  have HBAD := Lib.hid hbad
  have HTOLD := Lib.hid htold
  have HBY := Lib.hid hbytes
  have VV := Lib.hid hV
  have HF := Lib.hid hf
  have X := Lib.hid (Row.new w 97 [.int .i64 4, .int .i64 t, .int .i64 kk, .int .i64 kn, .string ks, .int .i64 hk, .int .i64 hn, .string hs, .slice ra row.length rc, .int .i64 c, .int .i64 vk, .int .i64 vn, .string vs, .int .i64 wn])
  have B := Lib.hid ((Below.refl w.heap.size w).alloc (Nat.le_refl _) (.cells #[.int .i64 4, .int .i64 t, .int .i64 kk, .int .i64 kn, .string ks, .int .i64 hk, .int .i64 hn, .string hs, .slice ra row.length rc, .int .i64 c, .int .i64 vk, .int .i64 vn, .string vs, .int .i64 wn] 97))
  have e2 := app2 c1 c2
  have q2 := fit_size (a := [c1]) (b := [c2]) (by simp)
  have x0 := X.out.cell (i := 0) rfl
  have x1 := X.out.cell (i := 1) rfl
  clear hbad htold hbytes hV hf hc1 hc2 ht
  obtain ⟨⟨pb, pr⟩, hp⟩ : ∃ p, valR [(⟨kk, kn, ks⟩ : V)] = p := ⟨_, rfl⟩
  have lp := valR_len hp
  try simp only [List.length_cons, List.length_nil] at lp
  have Vp := Lib.hid hp
  clear hp
  have e3 := app3 c1 c2 pb
  have q3 := fit_size (a := [c1, c2]) (b := pb) (by simp only [List.length_cons, List.length_nil]; omega)
  go_enter Try.func103, Try.ntmps103
  go_wp2_with fail
  refine (O1.out _).mono ?_
  rintro e w1 ⟨rfl, k1⟩
  replace X := Lib.hid (X.out.below k1 X.out.lt)
  replace B := Lib.hid (B.out.trans (k1.mono B.out.size))
  clear k1 x0 x1
  have x1 := X.out.cell (i := 1) rfl
  go_wp2_with fail
  refine (O2.out _).mono ?_
  rintro e w2 ⟨rfl, k2⟩
  replace X := Lib.hid (X.out.below k2 X.out.lt)
  replace B := Lib.hid (B.out.trans (k2.mono B.out.size))
  clear k2 x1
  have T := Lib.hid (Row.new w2 97 [.int .i64 0, .int .i64 0, .int .i64 0, .int .i64 0, .string ⟨#[]⟩, .int .i64 0, .int .i64 0, .string ⟨#[]⟩, .slice none 0 0, .int .i64 0, .int .i64 0, .int .i64 0, .string ⟨#[]⟩, .int .i64 0])
  have HXL := Lib.hid X.out.lt
  have hne : w.heap.size ≠ w2.heap.size := by have := HXL.out; omega
  have x0 := X.out.cell (i := 0) rfl
  have x1 := X.out.cell (i := 1) rfl
  go_wp2_with (first | (refine store_row T.out [.int .i64 4, .int .i64 t, .int .i64 0, .int .i64 0, .string ⟨#[]⟩, .int .i64 0, .int .i64 0, .string ⟨#[]⟩, .slice none 0 0, .int .i64 0, .int .i64 0, .int .i64 0, .string ⟨#[]⟩, .int .i64 0] 97 (by kernel_rfl) rfl (by simp [Value.oneCell']) rfl rfl rfl rfl ?_; intro w3 hz kz zz; clear x0 x1; replace X := Lib.hid ((X.out.alloc (.cells #[.int .i64 0, .int .i64 0, .int .i64 0, .int .i64 0, .string ⟨#[]⟩, .int .i64 0, .int .i64 0, .string ⟨#[]⟩, .slice none 0 0, .int .i64 0, .int .i64 0, .int .i64 0, .string ⟨#[]⟩, .int .i64 0] 97)).chg kz hne); have HW := Lib.hid (show w.heap.size ≤ w2.heap.size from B.out.size); replace B := Lib.hid ((B.out.alloc B.out.size (.cells #[.int .i64 0, .int .i64 0, .int .i64 0, .int .i64 0, .string ⟨#[]⟩, .int .i64 0, .int .i64 0, .string ⟨#[]⟩, .slice none 0 0, .int .i64 0, .int .i64 0, .int .i64 0, .string ⟨#[]⟩, .int .i64 0] 97)).trans (kz.below (B := w.heap.size) (by have := B.out.size; simp; omega) (fun i e => by have e : i = w2.heap.size := e; have := B.out.size; omega))); replace T := Lib.hid hz; clear hz kz zz; have x0 := X.out.cell (i := 0) rfl; have x1 := X.out.cell (i := 1) rfl; have x2 := X.out.cell (i := 2) rfl; have x3 := X.out.cell (i := 3) rfl; have x4 := X.out.cell (i := 4) rfl; have x5 := X.out.cell (i := 5) rfl; have x6 := X.out.cell (i := 6) rfl; have x7 := X.out.cell (i := 7) rfl; have x8 := X.out.cell (i := 8) rfl; have x9 := X.out.cell (i := 9) rfl; have x10 := X.out.cell (i := 10) rfl; have x11 := X.out.cell (i := 11) rfl; have x12 := X.out.cell (i := 12) rfl; have x13 := X.out.cell (i := 13) rfl) | (refine store_part [.int .i64 4, .int .i64 t] [.int .i64 0, .int .i64 0, .string ⟨#[]⟩] [.int .i64 0, .int .i64 0, .string ⟨#[]⟩, .slice none 0 0, .int .i64 0, .int .i64 0, .int .i64 0, .string ⟨#[]⟩, .int .i64 0] T.out [.int .i64 kk, .int .i64 kn, .string ks] 81 (by kernel_rfl) rfl (by simp [Value.oneCell']) rfl rfl 2 rfl rfl rfl ?_; intro w8 hR kc hsz; clear x0 x1 x2 x3 x4 x5 x6 x7 x8 x9 x10 x11 x12 x13; have X_0 := Lib.hid (X.out.chg kc hne); have T_0 := Lib.hid hR; have B_0 := Lib.hid (B.out.trans (kc.below (B := w.heap.size) (B.out.size) (fun i e => by have e : i = w2.heap.size := e; have := HW.out; omega))); clear hR kc hsz; have x0 := X_0.out.cell (i := 0) rfl; have x1 := X_0.out.cell (i := 1) rfl; have x2 := X_0.out.cell (i := 2) rfl; have x3 := X_0.out.cell (i := 3) rfl; have x4 := X_0.out.cell (i := 4) rfl; have x5 := X_0.out.cell (i := 5) rfl; have x6 := X_0.out.cell (i := 6) rfl; have x7 := X_0.out.cell (i := 7) rfl; have x8 := X_0.out.cell (i := 8) rfl; have x9 := X_0.out.cell (i := 9) rfl; have x10 := X_0.out.cell (i := 10) rfl; have x11 := X_0.out.cell (i := 11) rfl; have x12 := X_0.out.cell (i := 12) rfl; have x13 := X_0.out.cell (i := 13) rfl))
  generalize w2.heap.size = g at *
  clear x0 x1 x2 x3 x4 x5 x6 x7 x8 x9 x10 x11 x12 x13
  replace X := X_0
  replace T := T_0
  replace B := B_0
  replace X := Lib.hid (X.out.alloc (.cells #[.int .i64 kk, .int .i64 kn, .string ks] 81))
  replace T := Lib.hid (T.out.alloc (.cells #[.int .i64 kk, .int .i64 kn, .string ks] 81))
  replace B := Lib.hid (B.out.alloc B.out.size (.cells #[.int .i64 kk, .int .i64 kn, .string ks] 81))
  refine (vals_is Vp.out (vs_lit1 kk kn ks (by simp [World.setCell])) (by intro v hv; rw [List.mem_singleton.1 hv]; exact HF.out.1) (by simp) rfl).mono ?_
  rintro e w4 ⟨rfl, k9⟩
  replace X := Lib.hid (X.out.below k9 X.out.lt)
  replace T := Lib.hid (T.out.below k9 T.out.lt)
  replace B := Lib.hid (B.out.trans (k9.mono B.out.size))
  clear k9
  cases pr
  · have HQ := Lib.hid (valR_snd Vp.out)
    go_wp2_with fail
    go_ret2
    exact ⟨wpost_no (by rw [HBAD.out]; exact HQ.out), B.out⟩
  · have HQ := Lib.hid (valR_fst Vp.out)
    go_wp2_with (first | (refine load_row_g X.out 97 Try.underlying97 rfl (by kernel_rfl) (by rfl) rfl rfl ?_) | (refine load_row_g T.out 97 Try.underlying97 rfl (by kernel_rfl) (by rfl) rfl rfl ?_))
    have SC := Lib.hid (wsame_calls (⟨4, t, ⟨kk, kn, ks⟩, ⟨hk, hn, hs⟩, ra, rc, row, c, ⟨vk, vn, vs⟩, wn⟩ : Wsh) ⟨4, t, ⟨kk, kn, ks⟩, noV, none, 0, [], 0, noV, 0⟩ _ (VV.out.keep B.out) (Vs.nil _ _) (by simp only; omega) (by first | (simp; done) | (simp only; omega)))
    replace SC := Lib.hid (show Calls Try.prog 112 #[.agg #[.int .i64 4, .int .i64 t, .int .i64 kk, .int .i64 kn, .string ks, .int .i64 hk, .int .i64 hn, .string hs, .slice ra row.length rc, .int .i64 c, .int .i64 vk, .int .i64 vn, .string vs, .int .i64 wn], .agg #[.int .i64 4, .int .i64 t, .int .i64 kk, .int .i64 kn, .string ks, .int .i64 0, .int .i64 0, .string ⟨#[]⟩, .slice none 0 0, .int .i64 0, .int .i64 0, .int .i64 0, .string ⟨#[]⟩, .int .i64 0]] _ _ from SC.out)
    refine SC.out.mono ?_
    rintro e w30 ⟨⟨r, hr, rfl⟩, k9⟩
    replace B := Lib.hid (B.out.trans (k9.mono B.out.size))
    have HR := Lib.hid hr
    clear k9 hr SC
    go_wp2_with fail
    go_ret2
    exact ⟨wpost_is (by rw [HBAD.out]; exact HQ.out.2) HTOLD.out HR.out (by rw [HBY.out (pb) HQ.out.1]), B.out⟩
set_option maxHeartbeats 8000000 in
theorem rw_6 (t kk kn hk hn c vk vn wn : Int) (ks hs vs : ByteArray) (ra : Option Addr) (rc : Nat) (row : List V) (w : World) (hV : Vs w ra row) (hf : ((⟨6, t, ⟨kk, kn, ks⟩, ⟨hk, hn, hs⟩, ra, rc, row, c, ⟨vk, vn, vs⟩, wn⟩ : Wsh)).fits) (hl : row.length ≤ 1000) (ht : oneBad t = false) :
    Calls Try.prog 103 #[.agg #[.int .i64 6, .int .i64 t, .int .i64 kk, .int .i64 kn, .string ks, .int .i64 hk, .int .i64 hn, .string hs, .slice ra row.length rc, .int .i64 c, .int .i64 vk, .int .i64 vn, .string vs, .int .i64 wn]] w fun e w' => WPost (⟨6, t, ⟨kk, kn, ks⟩, ⟨hk, hn, hs⟩, ra, rc, row, c, ⟨vk, vn, vs⟩, wn⟩ : Wsh) e ∧ Below w.heap.size w w' := by
  have hbad : Wsh.bad (⟨6, t, ⟨kk, kn, ks⟩, ⟨hk, hn, hs⟩, ra, rc, row, c, ⟨vk, vn, vs⟩, wn⟩ : Wsh) = valsBad [(⟨kk, kn, ks⟩ : V)] := by simp [Wsh.bad, ht, show oneBad 6 = false from by decide]
  have htold : Wsh.told (⟨6, t, ⟨kk, kn, ks⟩, ⟨hk, hn, hs⟩, ra, rc, row, c, ⟨vk, vn, vs⟩, wn⟩ : Wsh) = ⟨6, t, ⟨kk, kn, ks⟩, noV, none, 0, [], 0, noV, 0⟩ := by simp [Wsh.told]
  obtain ⟨c1, hc1⟩ : ∃ c, oneB 6 = c := ⟨_, rfl⟩
  obtain ⟨c2, hc2⟩ : ∃ c, oneB t = c := ⟨_, rfl⟩
  have hbytes : ∀ v, (vals [(⟨kk, kn, ks⟩ : V)] = v → Wsh.bytes (⟨6, t, ⟨kk, kn, ks⟩, ⟨hk, hn, hs⟩, ra, rc, row, c, ⟨vk, vn, vs⟩, wn⟩ : Wsh) = c1 :: c2 :: v) := fun v hv => by simp [Wsh.bytes, ← hc1, ← hc2, ← hv]
  have O1 := Lib.hid (one_is (n := 6) (r := true) hc1 (by decide))
  have O2 := Lib.hid (one_is (n := t) (r := true) hc2 (by rw [ht]; rfl))
  have HBAD := Lib.hid hbad
  have HTOLD := Lib.hid htold
  have HBY := Lib.hid hbytes
  have VV := Lib.hid hV
  have HF := Lib.hid hf
  have X := Lib.hid (Row.new w 97 [.int .i64 6, .int .i64 t, .int .i64 kk, .int .i64 kn, .string ks, .int .i64 hk, .int .i64 hn, .string hs, .slice ra row.length rc, .int .i64 c, .int .i64 vk, .int .i64 vn, .string vs, .int .i64 wn])
  have B := Lib.hid ((Below.refl w.heap.size w).alloc (Nat.le_refl _) (.cells #[.int .i64 6, .int .i64 t, .int .i64 kk, .int .i64 kn, .string ks, .int .i64 hk, .int .i64 hn, .string hs, .slice ra row.length rc, .int .i64 c, .int .i64 vk, .int .i64 vn, .string vs, .int .i64 wn] 97))
  have e2 := app2 c1 c2
  have q2 := fit_size (a := [c1]) (b := [c2]) (by simp)
  have x0 := X.out.cell (i := 0) rfl
  have x1 := X.out.cell (i := 1) rfl
  clear hbad htold hbytes hV hf hc1 hc2 ht
  obtain ⟨⟨pb, pr⟩, hp⟩ : ∃ p, valR [(⟨kk, kn, ks⟩ : V)] = p := ⟨_, rfl⟩
  have lp := valR_len hp
  try simp only [List.length_cons, List.length_nil] at lp
  have Vp := Lib.hid hp
  clear hp
  have e3 := app3 c1 c2 pb
  have q3 := fit_size (a := [c1, c2]) (b := pb) (by simp only [List.length_cons, List.length_nil]; omega)
  go_enter Try.func103, Try.ntmps103
  go_wp2_with fail
  refine (O1.out _).mono ?_
  rintro e w1 ⟨rfl, k1⟩
  replace X := Lib.hid (X.out.below k1 X.out.lt)
  replace B := Lib.hid (B.out.trans (k1.mono B.out.size))
  clear k1 x0 x1
  have x1 := X.out.cell (i := 1) rfl
  go_wp2_with fail
  refine (O2.out _).mono ?_
  rintro e w2 ⟨rfl, k2⟩
  replace X := Lib.hid (X.out.below k2 X.out.lt)
  replace B := Lib.hid (B.out.trans (k2.mono B.out.size))
  clear k2 x1
  have T := Lib.hid (Row.new w2 97 [.int .i64 0, .int .i64 0, .int .i64 0, .int .i64 0, .string ⟨#[]⟩, .int .i64 0, .int .i64 0, .string ⟨#[]⟩, .slice none 0 0, .int .i64 0, .int .i64 0, .int .i64 0, .string ⟨#[]⟩, .int .i64 0])
  have HXL := Lib.hid X.out.lt
  have hne : w.heap.size ≠ w2.heap.size := by have := HXL.out; omega
  have x0 := X.out.cell (i := 0) rfl
  have x1 := X.out.cell (i := 1) rfl
  go_wp2_with (first | (refine store_row T.out [.int .i64 6, .int .i64 t, .int .i64 0, .int .i64 0, .string ⟨#[]⟩, .int .i64 0, .int .i64 0, .string ⟨#[]⟩, .slice none 0 0, .int .i64 0, .int .i64 0, .int .i64 0, .string ⟨#[]⟩, .int .i64 0] 97 (by kernel_rfl) rfl (by simp [Value.oneCell']) rfl rfl rfl rfl ?_; intro w3 hz kz zz; clear x0 x1; replace X := Lib.hid ((X.out.alloc (.cells #[.int .i64 0, .int .i64 0, .int .i64 0, .int .i64 0, .string ⟨#[]⟩, .int .i64 0, .int .i64 0, .string ⟨#[]⟩, .slice none 0 0, .int .i64 0, .int .i64 0, .int .i64 0, .string ⟨#[]⟩, .int .i64 0] 97)).chg kz hne); have HW := Lib.hid (show w.heap.size ≤ w2.heap.size from B.out.size); replace B := Lib.hid ((B.out.alloc B.out.size (.cells #[.int .i64 0, .int .i64 0, .int .i64 0, .int .i64 0, .string ⟨#[]⟩, .int .i64 0, .int .i64 0, .string ⟨#[]⟩, .slice none 0 0, .int .i64 0, .int .i64 0, .int .i64 0, .string ⟨#[]⟩, .int .i64 0] 97)).trans (kz.below (B := w.heap.size) (by have := B.out.size; simp; omega) (fun i e => by have e : i = w2.heap.size := e; have := B.out.size; omega))); replace T := Lib.hid hz; clear hz kz zz; have x0 := X.out.cell (i := 0) rfl; have x1 := X.out.cell (i := 1) rfl; have x2 := X.out.cell (i := 2) rfl; have x3 := X.out.cell (i := 3) rfl; have x4 := X.out.cell (i := 4) rfl; have x5 := X.out.cell (i := 5) rfl; have x6 := X.out.cell (i := 6) rfl; have x7 := X.out.cell (i := 7) rfl; have x8 := X.out.cell (i := 8) rfl; have x9 := X.out.cell (i := 9) rfl; have x10 := X.out.cell (i := 10) rfl; have x11 := X.out.cell (i := 11) rfl; have x12 := X.out.cell (i := 12) rfl; have x13 := X.out.cell (i := 13) rfl) | (refine store_part [.int .i64 6, .int .i64 t] [.int .i64 0, .int .i64 0, .string ⟨#[]⟩] [.int .i64 0, .int .i64 0, .string ⟨#[]⟩, .slice none 0 0, .int .i64 0, .int .i64 0, .int .i64 0, .string ⟨#[]⟩, .int .i64 0] T.out [.int .i64 kk, .int .i64 kn, .string ks] 81 (by kernel_rfl) rfl (by simp [Value.oneCell']) rfl rfl 2 rfl rfl rfl ?_; intro w8 hR kc hsz; clear x0 x1 x2 x3 x4 x5 x6 x7 x8 x9 x10 x11 x12 x13; have X_0 := Lib.hid (X.out.chg kc hne); have T_0 := Lib.hid hR; have B_0 := Lib.hid (B.out.trans (kc.below (B := w.heap.size) (B.out.size) (fun i e => by have e : i = w2.heap.size := e; have := HW.out; omega))); clear hR kc hsz; have x0 := X_0.out.cell (i := 0) rfl; have x1 := X_0.out.cell (i := 1) rfl; have x2 := X_0.out.cell (i := 2) rfl; have x3 := X_0.out.cell (i := 3) rfl; have x4 := X_0.out.cell (i := 4) rfl; have x5 := X_0.out.cell (i := 5) rfl; have x6 := X_0.out.cell (i := 6) rfl; have x7 := X_0.out.cell (i := 7) rfl; have x8 := X_0.out.cell (i := 8) rfl; have x9 := X_0.out.cell (i := 9) rfl; have x10 := X_0.out.cell (i := 10) rfl; have x11 := X_0.out.cell (i := 11) rfl; have x12 := X_0.out.cell (i := 12) rfl; have x13 := X_0.out.cell (i := 13) rfl))
  generalize w2.heap.size = g at *
  clear x0 x1 x2 x3 x4 x5 x6 x7 x8 x9 x10 x11 x12 x13
  replace X := X_0
  replace T := T_0
  replace B := B_0
  replace X := Lib.hid (X.out.alloc (.cells #[.int .i64 kk, .int .i64 kn, .string ks] 81))
  replace T := Lib.hid (T.out.alloc (.cells #[.int .i64 kk, .int .i64 kn, .string ks] 81))
  replace B := Lib.hid (B.out.alloc B.out.size (.cells #[.int .i64 kk, .int .i64 kn, .string ks] 81))
  refine (vals_is Vp.out (vs_lit1 kk kn ks (by simp [World.setCell])) (by intro v hv; rw [List.mem_singleton.1 hv]; exact HF.out.1) (by simp) rfl).mono ?_
  rintro e w4 ⟨rfl, k9⟩
  replace X := Lib.hid (X.out.below k9 X.out.lt)
  replace T := Lib.hid (T.out.below k9 T.out.lt)
  replace B := Lib.hid (B.out.trans (k9.mono B.out.size))
  clear k9
  cases pr
  · have HQ := Lib.hid (valR_snd Vp.out)
    go_wp2_with fail
    go_ret2
    exact ⟨wpost_no (by rw [HBAD.out]; exact HQ.out), B.out⟩
  · have HQ := Lib.hid (valR_fst Vp.out)
    go_wp2_with (first | (refine load_row_g X.out 97 Try.underlying97 rfl (by kernel_rfl) (by rfl) rfl rfl ?_) | (refine load_row_g T.out 97 Try.underlying97 rfl (by kernel_rfl) (by rfl) rfl rfl ?_))
    have SC := Lib.hid (wsame_calls (⟨6, t, ⟨kk, kn, ks⟩, ⟨hk, hn, hs⟩, ra, rc, row, c, ⟨vk, vn, vs⟩, wn⟩ : Wsh) ⟨6, t, ⟨kk, kn, ks⟩, noV, none, 0, [], 0, noV, 0⟩ _ (VV.out.keep B.out) (Vs.nil _ _) (by simp only; omega) (by first | (simp; done) | (simp only; omega)))
    replace SC := Lib.hid (show Calls Try.prog 112 #[.agg #[.int .i64 6, .int .i64 t, .int .i64 kk, .int .i64 kn, .string ks, .int .i64 hk, .int .i64 hn, .string hs, .slice ra row.length rc, .int .i64 c, .int .i64 vk, .int .i64 vn, .string vs, .int .i64 wn], .agg #[.int .i64 6, .int .i64 t, .int .i64 kk, .int .i64 kn, .string ks, .int .i64 0, .int .i64 0, .string ⟨#[]⟩, .slice none 0 0, .int .i64 0, .int .i64 0, .int .i64 0, .string ⟨#[]⟩, .int .i64 0]] _ _ from SC.out)
    refine SC.out.mono ?_
    rintro e w30 ⟨⟨r, hr, rfl⟩, k9⟩
    replace B := Lib.hid (B.out.trans (k9.mono B.out.size))
    have HR := Lib.hid hr
    clear k9 hr SC
    go_wp2_with fail
    go_ret2
    exact ⟨wpost_is (by rw [HBAD.out]; exact HQ.out.2) HTOLD.out HR.out (by rw [HBY.out (pb) HQ.out.1]), B.out⟩
set_option maxHeartbeats 8000000 in
theorem rw_3 (t kk kn hk hn c vk vn wn : Int) (ks hs vs : ByteArray) (ra : Option Addr) (rc : Nat) (row : List V) (w : World) (hV : Vs w ra row) (hf : ((⟨3, t, ⟨kk, kn, ks⟩, ⟨hk, hn, hs⟩, ra, rc, row, c, ⟨vk, vn, vs⟩, wn⟩ : Wsh)).fits) (hl : row.length ≤ 1000) (ht : oneBad t = false) :
    Calls Try.prog 103 #[.agg #[.int .i64 3, .int .i64 t, .int .i64 kk, .int .i64 kn, .string ks, .int .i64 hk, .int .i64 hn, .string hs, .slice ra row.length rc, .int .i64 c, .int .i64 vk, .int .i64 vn, .string vs, .int .i64 wn]] w fun e w' => WPost (⟨3, t, ⟨kk, kn, ks⟩, ⟨hk, hn, hs⟩, ra, rc, row, c, ⟨vk, vn, vs⟩, wn⟩ : Wsh) e ∧ Below w.heap.size w w' := by
  have hbad : Wsh.bad (⟨3, t, ⟨kk, kn, ks⟩, ⟨hk, hn, hs⟩, ra, rc, row, c, ⟨vk, vn, vs⟩, wn⟩ : Wsh) = (valsBad [(⟨kk, kn, ks⟩ : V)] || oneBad c || valsBad [(⟨vk, vn, vs⟩ : V)]) := by simp [Wsh.bad, ht, show oneBad 3 = false from by decide]
  have htold : Wsh.told (⟨3, t, ⟨kk, kn, ks⟩, ⟨hk, hn, hs⟩, ra, rc, row, c, ⟨vk, vn, vs⟩, wn⟩ : Wsh) = ⟨3, t, ⟨kk, kn, ks⟩, noV, none, 0, [], c, ⟨vk, vn, vs⟩, 0⟩ := by simp [Wsh.told]
  obtain ⟨c1, hc1⟩ : ∃ c, oneB 3 = c := ⟨_, rfl⟩
  obtain ⟨c2, hc2⟩ : ∃ c, oneB t = c := ⟨_, rfl⟩
  have hbytes : ∀ v, ((vals [(⟨kk, kn, ks⟩ : V)] ++ oneB c :: vals [(⟨vk, vn, vs⟩ : V)]) = v → Wsh.bytes (⟨3, t, ⟨kk, kn, ks⟩, ⟨hk, hn, hs⟩, ra, rc, row, c, ⟨vk, vn, vs⟩, wn⟩ : Wsh) = c1 :: c2 :: v) := fun v hv => by simp [Wsh.bytes, ← hc1, ← hc2, ← hv]
  have O1 := Lib.hid (one_is (n := 3) (r := true) hc1 (by decide))
  have O2 := Lib.hid (one_is (n := t) (r := true) hc2 (by rw [ht]; rfl))
  have HBAD := Lib.hid hbad
  have HTOLD := Lib.hid htold
  have HBY := Lib.hid hbytes
  have VV := Lib.hid hV
  have HF := Lib.hid hf
  have X := Lib.hid (Row.new w 97 [.int .i64 3, .int .i64 t, .int .i64 kk, .int .i64 kn, .string ks, .int .i64 hk, .int .i64 hn, .string hs, .slice ra row.length rc, .int .i64 c, .int .i64 vk, .int .i64 vn, .string vs, .int .i64 wn])
  have B := Lib.hid ((Below.refl w.heap.size w).alloc (Nat.le_refl _) (.cells #[.int .i64 3, .int .i64 t, .int .i64 kk, .int .i64 kn, .string ks, .int .i64 hk, .int .i64 hn, .string hs, .slice ra row.length rc, .int .i64 c, .int .i64 vk, .int .i64 vn, .string vs, .int .i64 wn] 97))
  have e2 := app2 c1 c2
  have q2 := fit_size (a := [c1]) (b := [c2]) (by simp)
  have x0 := X.out.cell (i := 0) rfl
  have x1 := X.out.cell (i := 1) rfl
  clear hbad htold hbytes hV hf hc1 hc2 ht
  obtain ⟨⟨pb, pr⟩, hp⟩ : ∃ p, valR [(⟨kk, kn, ks⟩ : V)] = p := ⟨_, rfl⟩
  have lp := valR_len hp
  try simp only [List.length_cons, List.length_nil] at lp
  have Vp := Lib.hid hp
  clear hp
  obtain ⟨⟨ub, ur⟩, hu⟩ : ∃ p, valR [(⟨vk, vn, vs⟩ : V)] = p := ⟨_, rfl⟩
  have lu := valR_len hu
  try simp only [List.length_cons, List.length_nil] at lu
  have Vu := Lib.hid hu
  clear hu
  obtain ⟨c3, hc3⟩ : ∃ x, oneB c = x := ⟨_, rfl⟩
  obtain ⟨r3, hr3⟩ : ∃ r, oneBad c = !r := ⟨!oneBad c, by simp⟩
  have O3 := Lib.hid (one_is hc3 hr3)
  have HC3 := Lib.hid hc3
  have HR3 := Lib.hid hr3
  clear hc3 hr3
  have e4 : bs pb ++ bs [c3] = bs (pb ++ [c3]) := (bs_append _ _).symm
  have q4 := fit_size (a := pb) (b := [c3]) (by simp only [List.length_cons, List.length_nil]; omega)
  have e5 : bs (pb ++ [c3]) ++ bs ub = bs (pb ++ [c3] ++ ub) := (bs_append _ _).symm
  have q5 := fit_size (a := pb ++ [c3]) (b := ub) (by simp only [List.length_append, List.length_cons, List.length_nil]; omega)
  have e3 := app3 c1 c2 (pb ++ c3 :: ub)
  have q3 := fit_size (a := [c1, c2]) (b := pb ++ c3 :: ub) (by simp only [List.length_append, List.length_cons, List.length_nil]; omega)
  go_enter Try.func103, Try.ntmps103
  go_wp2_with fail
  refine (O1.out _).mono ?_
  rintro e w1 ⟨rfl, k1⟩
  replace X := Lib.hid (X.out.below k1 X.out.lt)
  replace B := Lib.hid (B.out.trans (k1.mono B.out.size))
  clear k1 x0 x1
  have x1 := X.out.cell (i := 1) rfl
  go_wp2_with fail
  refine (O2.out _).mono ?_
  rintro e w2 ⟨rfl, k2⟩
  replace X := Lib.hid (X.out.below k2 X.out.lt)
  replace B := Lib.hid (B.out.trans (k2.mono B.out.size))
  clear k2 x1
  have T := Lib.hid (Row.new w2 97 [.int .i64 0, .int .i64 0, .int .i64 0, .int .i64 0, .string ⟨#[]⟩, .int .i64 0, .int .i64 0, .string ⟨#[]⟩, .slice none 0 0, .int .i64 0, .int .i64 0, .int .i64 0, .string ⟨#[]⟩, .int .i64 0])
  have HXL := Lib.hid X.out.lt
  have hne : w.heap.size ≠ w2.heap.size := by have := HXL.out; omega
  have x0 := X.out.cell (i := 0) rfl
  have x1 := X.out.cell (i := 1) rfl
  go_wp2_with (first | (refine store_row T.out [.int .i64 3, .int .i64 t, .int .i64 0, .int .i64 0, .string ⟨#[]⟩, .int .i64 0, .int .i64 0, .string ⟨#[]⟩, .slice none 0 0, .int .i64 0, .int .i64 0, .int .i64 0, .string ⟨#[]⟩, .int .i64 0] 97 (by kernel_rfl) rfl (by simp [Value.oneCell']) rfl rfl rfl rfl ?_; intro w3 hz kz zz; clear x0 x1; replace X := Lib.hid ((X.out.alloc (.cells #[.int .i64 0, .int .i64 0, .int .i64 0, .int .i64 0, .string ⟨#[]⟩, .int .i64 0, .int .i64 0, .string ⟨#[]⟩, .slice none 0 0, .int .i64 0, .int .i64 0, .int .i64 0, .string ⟨#[]⟩, .int .i64 0] 97)).chg kz hne); have HW := Lib.hid (show w.heap.size ≤ w2.heap.size from B.out.size); replace B := Lib.hid ((B.out.alloc B.out.size (.cells #[.int .i64 0, .int .i64 0, .int .i64 0, .int .i64 0, .string ⟨#[]⟩, .int .i64 0, .int .i64 0, .string ⟨#[]⟩, .slice none 0 0, .int .i64 0, .int .i64 0, .int .i64 0, .string ⟨#[]⟩, .int .i64 0] 97)).trans (kz.below (B := w.heap.size) (by have := B.out.size; simp; omega) (fun i e => by have e : i = w2.heap.size := e; have := B.out.size; omega))); replace T := Lib.hid hz; clear hz kz zz; have x0 := X.out.cell (i := 0) rfl; have x1 := X.out.cell (i := 1) rfl; have x2 := X.out.cell (i := 2) rfl; have x3 := X.out.cell (i := 3) rfl; have x4 := X.out.cell (i := 4) rfl; have x5 := X.out.cell (i := 5) rfl; have x6 := X.out.cell (i := 6) rfl; have x7 := X.out.cell (i := 7) rfl; have x8 := X.out.cell (i := 8) rfl; have x9 := X.out.cell (i := 9) rfl; have x10 := X.out.cell (i := 10) rfl; have x11 := X.out.cell (i := 11) rfl; have x12 := X.out.cell (i := 12) rfl; have x13 := X.out.cell (i := 13) rfl) | (refine store_part [.int .i64 3, .int .i64 t] [.int .i64 0, .int .i64 0, .string ⟨#[]⟩] [.int .i64 0, .int .i64 0, .string ⟨#[]⟩, .slice none 0 0, .int .i64 0, .int .i64 0, .int .i64 0, .string ⟨#[]⟩, .int .i64 0] T.out [.int .i64 kk, .int .i64 kn, .string ks] 81 (by kernel_rfl) rfl (by simp [Value.oneCell']) rfl rfl 2 rfl rfl rfl ?_; intro w8 hR kc hsz; clear x0 x1 x2 x3 x4 x5 x6 x7 x8 x9 x10 x11 x12 x13; have X_0 := Lib.hid (X.out.chg kc hne); have T_0 := Lib.hid hR; have B_0 := Lib.hid (B.out.trans (kc.below (B := w.heap.size) (B.out.size) (fun i e => by have e : i = w2.heap.size := e; have := HW.out; omega))); clear hR kc hsz; have x0 := X_0.out.cell (i := 0) rfl; have x1 := X_0.out.cell (i := 1) rfl; have x2 := X_0.out.cell (i := 2) rfl; have x3 := X_0.out.cell (i := 3) rfl; have x4 := X_0.out.cell (i := 4) rfl; have x5 := X_0.out.cell (i := 5) rfl; have x6 := X_0.out.cell (i := 6) rfl; have x7 := X_0.out.cell (i := 7) rfl; have x8 := X_0.out.cell (i := 8) rfl; have x9 := X_0.out.cell (i := 9) rfl; have x10 := X_0.out.cell (i := 10) rfl; have x11 := X_0.out.cell (i := 11) rfl; have x12 := X_0.out.cell (i := 12) rfl; have x13 := X_0.out.cell (i := 13) rfl; have t9 := T_0.out.cell (i := 9) rfl; have g9 := T_0.out.frozen 9 (by simp); have T_1 := Lib.hid ((T_0.out.set 9 (.int .i64 c)).cast (cs' := [.int .i64 3, .int .i64 t, .int .i64 kk, .int .i64 kn, .string ks, .int .i64 0, .int .i64 0, .string ⟨#[]⟩, .slice none 0 0, .int .i64 c, .int .i64 0, .int .i64 0, .string ⟨#[]⟩, .int .i64 0]) rfl); have X_1 := Lib.hid (X_0.out.set_ne ⟨w2.heap.size, 9, none⟩ (.int .i64 c) (Ne.symm hne)); have B_1 := Lib.hid (B_0.out.setCell (p := ⟨w2.heap.size, 9, none⟩) HW.out (.int .i64 c))) | (refine store_part [.int .i64 3, .int .i64 t, .int .i64 kk, .int .i64 kn, .string ks, .int .i64 0, .int .i64 0, .string ⟨#[]⟩, .slice none 0 0, .int .i64 c] [.int .i64 0, .int .i64 0, .string ⟨#[]⟩] [.int .i64 0] T_1.out [.int .i64 vk, .int .i64 vn, .string vs] 81 (by kernel_rfl) rfl (by simp [Value.oneCell']) rfl rfl 10 rfl rfl rfl ?_; intro w8 hR kc hsz; clear x0 x1 x2 x3 x4 x5 x6 x7 x8 x9 x10 x11 x12 x13 t9 g9; have X_2 := Lib.hid (X_1.out.chg kc hne); have T_2 := Lib.hid hR; have B_2 := Lib.hid (B_1.out.trans (kc.below (B := w.heap.size) (B_1.out.size) (fun i e => by have e : i = w2.heap.size := e; have := HW.out; omega))); clear hR kc hsz; have x0 := X_2.out.cell (i := 0) rfl; have x1 := X_2.out.cell (i := 1) rfl; have x2 := X_2.out.cell (i := 2) rfl; have x3 := X_2.out.cell (i := 3) rfl; have x4 := X_2.out.cell (i := 4) rfl; have x5 := X_2.out.cell (i := 5) rfl; have x6 := X_2.out.cell (i := 6) rfl; have x7 := X_2.out.cell (i := 7) rfl; have x8 := X_2.out.cell (i := 8) rfl; have x9 := X_2.out.cell (i := 9) rfl; have x10 := X_2.out.cell (i := 10) rfl; have x11 := X_2.out.cell (i := 11) rfl; have x12 := X_2.out.cell (i := 12) rfl; have x13 := X_2.out.cell (i := 13) rfl))
  generalize w2.heap.size = g at *
  clear x0 x1 x2 x3 x4 x5 x6 x7 x8 x9 x10 x11 x12 x13
  replace X := X_2
  replace T := T_2
  replace B := B_2
  refine (O3.out _).mono ?_
  rintro e w4 ⟨rfl, k9⟩
  replace X := Lib.hid (X.out.below k9 X.out.lt)
  replace T := Lib.hid (T.out.below k9 T.out.lt)
  replace B := Lib.hid (B.out.trans (k9.mono B.out.size))
  clear k9
  have x2 := X.out.cell (i := 2) rfl
  have x3 := X.out.cell (i := 3) rfl
  have x4 := X.out.cell (i := 4) rfl
  go_wp2_with fail
  clear x2 x3 x4
  replace X := Lib.hid (X.out.alloc (.cells #[.int .i64 kk, .int .i64 kn, .string ks] 81))
  replace T := Lib.hid (T.out.alloc (.cells #[.int .i64 kk, .int .i64 kn, .string ks] 81))
  replace B := Lib.hid (B.out.alloc B.out.size (.cells #[.int .i64 kk, .int .i64 kn, .string ks] 81))
  refine (vals_is Vp.out (vs_lit1 kk kn ks (by simp [World.setCell])) (by intro v hv; rw [List.mem_singleton.1 hv]; exact HF.out.1) (by simp) rfl).mono ?_
  rintro e w5 ⟨rfl, k9⟩
  replace X := Lib.hid (X.out.below k9 X.out.lt)
  replace T := Lib.hid (T.out.below k9 T.out.lt)
  replace B := Lib.hid (B.out.trans (k9.mono B.out.size))
  clear k9
  have x10 := X.out.cell (i := 10) rfl
  have x11 := X.out.cell (i := 11) rfl
  have x12 := X.out.cell (i := 12) rfl
  go_wp2_with fail
  clear x10 x11 x12
  replace X := Lib.hid (X.out.alloc (.cells #[.int .i64 vk, .int .i64 vn, .string vs] 81))
  replace T := Lib.hid (T.out.alloc (.cells #[.int .i64 vk, .int .i64 vn, .string vs] 81))
  replace B := Lib.hid (B.out.alloc B.out.size (.cells #[.int .i64 vk, .int .i64 vn, .string vs] 81))
  refine (vals_is Vu.out (vs_lit1 vk vn vs (by simp [World.setCell])) (by intro v hv; rw [List.mem_singleton.1 hv]; exact HF.out.2.2.1) (by simp) rfl).mono ?_
  rintro e w6 ⟨rfl, k9⟩
  replace X := Lib.hid (X.out.below k9 X.out.lt)
  replace T := Lib.hid (T.out.below k9 T.out.lt)
  replace B := Lib.hid (B.out.trans (k9.mono B.out.size))
  clear k9
  cases r3
  · have HQ := HR3
    go_wp2_with fail
    go_ret2
    exact ⟨wpost_no (by rw [HBAD.out]; rw [HQ.out]; simp), B.out⟩
  cases pr
  · have HQ := Lib.hid (valR_snd Vp.out)
    go_wp2_with fail
    go_ret2
    exact ⟨wpost_no (by rw [HBAD.out]; rw [HQ.out]; simp), B.out⟩
  cases ur
  · have HQ := Lib.hid (valR_snd Vu.out)
    go_wp2_with fail
    go_ret2
    exact ⟨wpost_no (by rw [HBAD.out]; rw [HQ.out]; simp), B.out⟩
  have HP := Lib.hid (valR_fst Vp.out)
  have HU := Lib.hid (valR_fst Vu.out)
  go_wp2_with (first | (refine load_row_g X.out 97 Try.underlying97 rfl (by kernel_rfl) (by rfl) rfl rfl ?_) | (refine load_row_g T.out 97 Try.underlying97 rfl (by kernel_rfl) (by rfl) rfl rfl ?_))
  have SC := Lib.hid (wsame_calls (⟨3, t, ⟨kk, kn, ks⟩, ⟨hk, hn, hs⟩, ra, rc, row, c, ⟨vk, vn, vs⟩, wn⟩ : Wsh) ⟨3, t, ⟨kk, kn, ks⟩, noV, none, 0, [], c, ⟨vk, vn, vs⟩, 0⟩ _ (VV.out.keep B.out) (Vs.nil _ _) (by simp only; omega) (by first | (simp; done) | (simp only; omega)))
  replace SC := Lib.hid (show Calls Try.prog 112 #[.agg #[.int .i64 3, .int .i64 t, .int .i64 kk, .int .i64 kn, .string ks, .int .i64 hk, .int .i64 hn, .string hs, .slice ra row.length rc, .int .i64 c, .int .i64 vk, .int .i64 vn, .string vs, .int .i64 wn], .agg #[.int .i64 3, .int .i64 t, .int .i64 kk, .int .i64 kn, .string ks, .int .i64 0, .int .i64 0, .string ⟨#[]⟩, .slice none 0 0, .int .i64 c, .int .i64 vk, .int .i64 vn, .string vs, .int .i64 0]] _ _ from SC.out)
  refine SC.out.mono ?_
  rintro e w30 ⟨⟨r, hr, rfl⟩, k9⟩
  replace B := Lib.hid (B.out.trans (k9.mono B.out.size))
  have HR := Lib.hid hr
  clear k9 hr SC
  go_wp2_with fail
  go_ret2
  exact ⟨wpost_is (by rw [HBAD.out]; rw [HP.out.2, HU.out.2, HR3.out]; rfl) HTOLD.out HR.out (by rw [HBY.out (pb ++ c3 :: ub) (by rw [HP.out.1, HU.out.1, HC3.out])]), B.out⟩
set_option maxHeartbeats 8000000 in
theorem rw_5 (t kk kn hk hn c vk vn wn : Int) (ks hs vs : ByteArray) (ra : Option Addr) (rc : Nat) (row : List V) (w : World) (hV : Vs w ra row) (hf : ((⟨5, t, ⟨kk, kn, ks⟩, ⟨hk, hn, hs⟩, ra, rc, row, c, ⟨vk, vn, vs⟩, wn⟩ : Wsh)).fits) (hl : row.length ≤ 1000) (ht : oneBad t = false) :
    Calls Try.prog 103 #[.agg #[.int .i64 5, .int .i64 t, .int .i64 kk, .int .i64 kn, .string ks, .int .i64 hk, .int .i64 hn, .string hs, .slice ra row.length rc, .int .i64 c, .int .i64 vk, .int .i64 vn, .string vs, .int .i64 wn]] w fun e w' => WPost (⟨5, t, ⟨kk, kn, ks⟩, ⟨hk, hn, hs⟩, ra, rc, row, c, ⟨vk, vn, vs⟩, wn⟩ : Wsh) e ∧ Below w.heap.size w w' := by
  have hbad : Wsh.bad (⟨5, t, ⟨kk, kn, ks⟩, ⟨hk, hn, hs⟩, ra, rc, row, c, ⟨vk, vn, vs⟩, wn⟩ : Wsh) = valsBad [(⟨kk, kn, ks⟩ : V), (⟨hk, hn, hs⟩ : V)] := by simp [Wsh.bad, ht, show oneBad 5 = false from by decide]
  have htold : Wsh.told (⟨5, t, ⟨kk, kn, ks⟩, ⟨hk, hn, hs⟩, ra, rc, row, c, ⟨vk, vn, vs⟩, wn⟩ : Wsh) = ⟨5, t, ⟨kk, kn, ks⟩, ⟨hk, hn, hs⟩, none, 0, [], 0, noV, 0⟩ := by simp [Wsh.told]
  obtain ⟨c1, hc1⟩ : ∃ c, oneB 5 = c := ⟨_, rfl⟩
  obtain ⟨c2, hc2⟩ : ∃ c, oneB t = c := ⟨_, rfl⟩
  have hbytes : ∀ v, (vals [(⟨kk, kn, ks⟩ : V), (⟨hk, hn, hs⟩ : V)] = v → Wsh.bytes (⟨5, t, ⟨kk, kn, ks⟩, ⟨hk, hn, hs⟩, ra, rc, row, c, ⟨vk, vn, vs⟩, wn⟩ : Wsh) = c1 :: c2 :: v) := fun v hv => by simp [Wsh.bytes, ← hc1, ← hc2, ← hv]
  have O1 := Lib.hid (one_is (n := 5) (r := true) hc1 (by decide))
  have O2 := Lib.hid (one_is (n := t) (r := true) hc2 (by rw [ht]; rfl))
  have HBAD := Lib.hid hbad
  have HTOLD := Lib.hid htold
  have HBY := Lib.hid hbytes
  have VV := Lib.hid hV
  have HF := Lib.hid hf
  have X := Lib.hid (Row.new w 97 [.int .i64 5, .int .i64 t, .int .i64 kk, .int .i64 kn, .string ks, .int .i64 hk, .int .i64 hn, .string hs, .slice ra row.length rc, .int .i64 c, .int .i64 vk, .int .i64 vn, .string vs, .int .i64 wn])
  have B := Lib.hid ((Below.refl w.heap.size w).alloc (Nat.le_refl _) (.cells #[.int .i64 5, .int .i64 t, .int .i64 kk, .int .i64 kn, .string ks, .int .i64 hk, .int .i64 hn, .string hs, .slice ra row.length rc, .int .i64 c, .int .i64 vk, .int .i64 vn, .string vs, .int .i64 wn] 97))
  have e2 := app2 c1 c2
  have q2 := fit_size (a := [c1]) (b := [c2]) (by simp)
  have x0 := X.out.cell (i := 0) rfl
  have x1 := X.out.cell (i := 1) rfl
  clear hbad htold hbytes hV hf hc1 hc2 ht
  obtain ⟨⟨pb, pr⟩, hp⟩ : ∃ p, valR [(⟨kk, kn, ks⟩ : V), (⟨hk, hn, hs⟩ : V)] = p := ⟨_, rfl⟩
  have lp := valR_len hp
  try simp only [List.length_cons, List.length_nil] at lp
  have Vp := Lib.hid hp
  clear hp
  have e3 := app3 c1 c2 pb
  have q3 := fit_size (a := [c1, c2]) (b := pb) (by simp only [List.length_cons, List.length_nil]; omega)
  go_enter Try.func103, Try.ntmps103
  go_wp2_with fail
  refine (O1.out _).mono ?_
  rintro e w1 ⟨rfl, k1⟩
  replace X := Lib.hid (X.out.below k1 X.out.lt)
  replace B := Lib.hid (B.out.trans (k1.mono B.out.size))
  clear k1 x0 x1
  have x1 := X.out.cell (i := 1) rfl
  go_wp2_with fail
  refine (O2.out _).mono ?_
  rintro e w2 ⟨rfl, k2⟩
  replace X := Lib.hid (X.out.below k2 X.out.lt)
  replace B := Lib.hid (B.out.trans (k2.mono B.out.size))
  clear k2 x1
  have T := Lib.hid (Row.new w2 97 [.int .i64 0, .int .i64 0, .int .i64 0, .int .i64 0, .string ⟨#[]⟩, .int .i64 0, .int .i64 0, .string ⟨#[]⟩, .slice none 0 0, .int .i64 0, .int .i64 0, .int .i64 0, .string ⟨#[]⟩, .int .i64 0])
  have HXL := Lib.hid X.out.lt
  have hne : w.heap.size ≠ w2.heap.size := by have := HXL.out; omega
  have x0 := X.out.cell (i := 0) rfl
  have x1 := X.out.cell (i := 1) rfl
  go_wp2_with (first | (refine store_row T.out [.int .i64 5, .int .i64 t, .int .i64 0, .int .i64 0, .string ⟨#[]⟩, .int .i64 0, .int .i64 0, .string ⟨#[]⟩, .slice none 0 0, .int .i64 0, .int .i64 0, .int .i64 0, .string ⟨#[]⟩, .int .i64 0] 97 (by kernel_rfl) rfl (by simp [Value.oneCell']) rfl rfl rfl rfl ?_; intro w3 hz kz zz; clear x0 x1; replace X := Lib.hid ((X.out.alloc (.cells #[.int .i64 0, .int .i64 0, .int .i64 0, .int .i64 0, .string ⟨#[]⟩, .int .i64 0, .int .i64 0, .string ⟨#[]⟩, .slice none 0 0, .int .i64 0, .int .i64 0, .int .i64 0, .string ⟨#[]⟩, .int .i64 0] 97)).chg kz hne); have HW := Lib.hid (show w.heap.size ≤ w2.heap.size from B.out.size); replace B := Lib.hid ((B.out.alloc B.out.size (.cells #[.int .i64 0, .int .i64 0, .int .i64 0, .int .i64 0, .string ⟨#[]⟩, .int .i64 0, .int .i64 0, .string ⟨#[]⟩, .slice none 0 0, .int .i64 0, .int .i64 0, .int .i64 0, .string ⟨#[]⟩, .int .i64 0] 97)).trans (kz.below (B := w.heap.size) (by have := B.out.size; simp; omega) (fun i e => by have e : i = w2.heap.size := e; have := B.out.size; omega))); replace T := Lib.hid hz; clear hz kz zz; have x0 := X.out.cell (i := 0) rfl; have x1 := X.out.cell (i := 1) rfl; have x2 := X.out.cell (i := 2) rfl; have x3 := X.out.cell (i := 3) rfl; have x4 := X.out.cell (i := 4) rfl; have x5 := X.out.cell (i := 5) rfl; have x6 := X.out.cell (i := 6) rfl; have x7 := X.out.cell (i := 7) rfl; have x8 := X.out.cell (i := 8) rfl; have x9 := X.out.cell (i := 9) rfl; have x10 := X.out.cell (i := 10) rfl; have x11 := X.out.cell (i := 11) rfl; have x12 := X.out.cell (i := 12) rfl; have x13 := X.out.cell (i := 13) rfl) | (refine store_part [.int .i64 5, .int .i64 t] [.int .i64 0, .int .i64 0, .string ⟨#[]⟩] [.int .i64 0, .int .i64 0, .string ⟨#[]⟩, .slice none 0 0, .int .i64 0, .int .i64 0, .int .i64 0, .string ⟨#[]⟩, .int .i64 0] T.out [.int .i64 kk, .int .i64 kn, .string ks] 81 (by kernel_rfl) rfl (by simp [Value.oneCell']) rfl rfl 2 rfl rfl rfl ?_; intro w8 hR kc hsz; clear x0 x1 x2 x3 x4 x5 x6 x7 x8 x9 x10 x11 x12 x13; have X_0 := Lib.hid (X.out.chg kc hne); have T_0 := Lib.hid hR; have B_0 := Lib.hid (B.out.trans (kc.below (B := w.heap.size) (B.out.size) (fun i e => by have e : i = w2.heap.size := e; have := HW.out; omega))); clear hR kc hsz; have x0 := X_0.out.cell (i := 0) rfl; have x1 := X_0.out.cell (i := 1) rfl; have x2 := X_0.out.cell (i := 2) rfl; have x3 := X_0.out.cell (i := 3) rfl; have x4 := X_0.out.cell (i := 4) rfl; have x5 := X_0.out.cell (i := 5) rfl; have x6 := X_0.out.cell (i := 6) rfl; have x7 := X_0.out.cell (i := 7) rfl; have x8 := X_0.out.cell (i := 8) rfl; have x9 := X_0.out.cell (i := 9) rfl; have x10 := X_0.out.cell (i := 10) rfl; have x11 := X_0.out.cell (i := 11) rfl; have x12 := X_0.out.cell (i := 12) rfl; have x13 := X_0.out.cell (i := 13) rfl) | (refine store_part [.int .i64 5, .int .i64 t, .int .i64 kk, .int .i64 kn, .string ks] [.int .i64 0, .int .i64 0, .string ⟨#[]⟩] [.slice none 0 0, .int .i64 0, .int .i64 0, .int .i64 0, .string ⟨#[]⟩, .int .i64 0] T_0.out [.int .i64 hk, .int .i64 hn, .string hs] 81 (by kernel_rfl) rfl (by simp [Value.oneCell']) rfl rfl 5 rfl rfl rfl ?_; intro w8 hR kc hsz; clear x0 x1 x2 x3 x4 x5 x6 x7 x8 x9 x10 x11 x12 x13; have X_1 := Lib.hid (X_0.out.chg kc hne); have T_1 := Lib.hid hR; have B_1 := Lib.hid (B_0.out.trans (kc.below (B := w.heap.size) (B_0.out.size) (fun i e => by have e : i = w2.heap.size := e; have := HW.out; omega))); clear hR kc hsz; have x0 := X_1.out.cell (i := 0) rfl; have x1 := X_1.out.cell (i := 1) rfl; have x2 := X_1.out.cell (i := 2) rfl; have x3 := X_1.out.cell (i := 3) rfl; have x4 := X_1.out.cell (i := 4) rfl; have x5 := X_1.out.cell (i := 5) rfl; have x6 := X_1.out.cell (i := 6) rfl; have x7 := X_1.out.cell (i := 7) rfl; have x8 := X_1.out.cell (i := 8) rfl; have x9 := X_1.out.cell (i := 9) rfl; have x10 := X_1.out.cell (i := 10) rfl; have x11 := X_1.out.cell (i := 11) rfl; have x12 := X_1.out.cell (i := 12) rfl; have x13 := X_1.out.cell (i := 13) rfl))
  generalize w2.heap.size = g at *
  clear x0 x1 x2 x3 x4 x5 x6 x7 x8 x9 x10 x11 x12 x13
  replace X := X_1
  replace T := T_1
  replace B := B_1
  replace X := Lib.hid (X.out.alloc (.cells #[.int .i64 kk, .int .i64 kn, .string ks, .int .i64 hk, .int .i64 hn, .string hs] 81))
  replace T := Lib.hid (T.out.alloc (.cells #[.int .i64 kk, .int .i64 kn, .string ks, .int .i64 hk, .int .i64 hn, .string hs] 81))
  replace B := Lib.hid (B.out.alloc B.out.size (.cells #[.int .i64 kk, .int .i64 kn, .string ks, .int .i64 hk, .int .i64 hn, .string hs] 81))
  refine (vals_is Vp.out (vs_lit2 kk kn ks hk hn hs (by simp [World.setCell])) (by intro v hv; rcases List.mem_cons.1 hv with rfl | hv; exact HF.out.1; rw [List.mem_singleton.1 hv]; exact HF.out.2.1) (by simp) rfl).mono ?_
  rintro e w4 ⟨rfl, k9⟩
  replace X := Lib.hid (X.out.below k9 X.out.lt)
  replace T := Lib.hid (T.out.below k9 T.out.lt)
  replace B := Lib.hid (B.out.trans (k9.mono B.out.size))
  clear k9
  cases pr
  · have HQ := Lib.hid (valR_snd Vp.out)
    go_wp2_with fail
    go_ret2
    exact ⟨wpost_no (by rw [HBAD.out]; exact HQ.out), B.out⟩
  · have HQ := Lib.hid (valR_fst Vp.out)
    go_wp2_with (first | (refine load_row_g X.out 97 Try.underlying97 rfl (by kernel_rfl) (by rfl) rfl rfl ?_) | (refine load_row_g T.out 97 Try.underlying97 rfl (by kernel_rfl) (by rfl) rfl rfl ?_))
    have SC := Lib.hid (wsame_calls (⟨5, t, ⟨kk, kn, ks⟩, ⟨hk, hn, hs⟩, ra, rc, row, c, ⟨vk, vn, vs⟩, wn⟩ : Wsh) ⟨5, t, ⟨kk, kn, ks⟩, ⟨hk, hn, hs⟩, none, 0, [], 0, noV, 0⟩ _ (VV.out.keep B.out) (Vs.nil _ _) (by simp only; omega) (by first | (simp; done) | (simp only; omega)))
    replace SC := Lib.hid (show Calls Try.prog 112 #[.agg #[.int .i64 5, .int .i64 t, .int .i64 kk, .int .i64 kn, .string ks, .int .i64 hk, .int .i64 hn, .string hs, .slice ra row.length rc, .int .i64 c, .int .i64 vk, .int .i64 vn, .string vs, .int .i64 wn], .agg #[.int .i64 5, .int .i64 t, .int .i64 kk, .int .i64 kn, .string ks, .int .i64 hk, .int .i64 hn, .string hs, .slice none 0 0, .int .i64 0, .int .i64 0, .int .i64 0, .string ⟨#[]⟩, .int .i64 0]] _ _ from SC.out)
    refine SC.out.mono ?_
    rintro e w30 ⟨⟨r, hr, rfl⟩, k9⟩
    replace B := Lib.hid (B.out.trans (k9.mono B.out.size))
    have HR := Lib.hid hr
    clear k9 hr SC
    go_wp2_with fail
    go_ret2
    exact ⟨wpost_is (by rw [HBAD.out]; exact HQ.out.2) HTOLD.out HR.out (by rw [HBY.out (pb) HQ.out.1]), B.out⟩
set_option maxHeartbeats 8000000 in
theorem rw_7 (t kk kn hk hn c vk vn wn : Int) (ks hs vs : ByteArray) (ra : Option Addr) (rc : Nat) (row : List V) (w : World) (hV : Vs w ra row) (hf : ((⟨7, t, ⟨kk, kn, ks⟩, ⟨hk, hn, hs⟩, ra, rc, row, c, ⟨vk, vn, vs⟩, wn⟩ : Wsh)).fits) (hl : row.length ≤ 1000) (ht : oneBad t = false) :
    Calls Try.prog 103 #[.agg #[.int .i64 7, .int .i64 t, .int .i64 kk, .int .i64 kn, .string ks, .int .i64 hk, .int .i64 hn, .string hs, .slice ra row.length rc, .int .i64 c, .int .i64 vk, .int .i64 vn, .string vs, .int .i64 wn]] w fun e w' => WPost (⟨7, t, ⟨kk, kn, ks⟩, ⟨hk, hn, hs⟩, ra, rc, row, c, ⟨vk, vn, vs⟩, wn⟩ : Wsh) e ∧ Below w.heap.size w w' := by
  have hbad : Wsh.bad (⟨7, t, ⟨kk, kn, ks⟩, ⟨hk, hn, hs⟩, ra, rc, row, c, ⟨vk, vn, vs⟩, wn⟩ : Wsh) = valsBad [(⟨kk, kn, ks⟩ : V), (⟨hk, hn, hs⟩ : V)] := by simp [Wsh.bad, ht, show oneBad 7 = false from by decide]
  have htold : Wsh.told (⟨7, t, ⟨kk, kn, ks⟩, ⟨hk, hn, hs⟩, ra, rc, row, c, ⟨vk, vn, vs⟩, wn⟩ : Wsh) = ⟨7, t, ⟨kk, kn, ks⟩, ⟨hk, hn, hs⟩, none, 0, [], 0, noV, 0⟩ := by simp [Wsh.told]
  obtain ⟨c1, hc1⟩ : ∃ c, oneB 7 = c := ⟨_, rfl⟩
  obtain ⟨c2, hc2⟩ : ∃ c, oneB t = c := ⟨_, rfl⟩
  have hbytes : ∀ v, (vals [(⟨kk, kn, ks⟩ : V), (⟨hk, hn, hs⟩ : V)] = v → Wsh.bytes (⟨7, t, ⟨kk, kn, ks⟩, ⟨hk, hn, hs⟩, ra, rc, row, c, ⟨vk, vn, vs⟩, wn⟩ : Wsh) = c1 :: c2 :: v) := fun v hv => by simp [Wsh.bytes, ← hc1, ← hc2, ← hv]
  have O1 := Lib.hid (one_is (n := 7) (r := true) hc1 (by decide))
  have O2 := Lib.hid (one_is (n := t) (r := true) hc2 (by rw [ht]; rfl))
  have HBAD := Lib.hid hbad
  have HTOLD := Lib.hid htold
  have HBY := Lib.hid hbytes
  have VV := Lib.hid hV
  have HF := Lib.hid hf
  have X := Lib.hid (Row.new w 97 [.int .i64 7, .int .i64 t, .int .i64 kk, .int .i64 kn, .string ks, .int .i64 hk, .int .i64 hn, .string hs, .slice ra row.length rc, .int .i64 c, .int .i64 vk, .int .i64 vn, .string vs, .int .i64 wn])
  have B := Lib.hid ((Below.refl w.heap.size w).alloc (Nat.le_refl _) (.cells #[.int .i64 7, .int .i64 t, .int .i64 kk, .int .i64 kn, .string ks, .int .i64 hk, .int .i64 hn, .string hs, .slice ra row.length rc, .int .i64 c, .int .i64 vk, .int .i64 vn, .string vs, .int .i64 wn] 97))
  have e2 := app2 c1 c2
  have q2 := fit_size (a := [c1]) (b := [c2]) (by simp)
  have x0 := X.out.cell (i := 0) rfl
  have x1 := X.out.cell (i := 1) rfl
  clear hbad htold hbytes hV hf hc1 hc2 ht
  obtain ⟨⟨pb, pr⟩, hp⟩ : ∃ p, valR [(⟨kk, kn, ks⟩ : V), (⟨hk, hn, hs⟩ : V)] = p := ⟨_, rfl⟩
  have lp := valR_len hp
  try simp only [List.length_cons, List.length_nil] at lp
  have Vp := Lib.hid hp
  clear hp
  have e3 := app3 c1 c2 pb
  have q3 := fit_size (a := [c1, c2]) (b := pb) (by simp only [List.length_cons, List.length_nil]; omega)
  go_enter Try.func103, Try.ntmps103
  go_wp2_with fail
  refine (O1.out _).mono ?_
  rintro e w1 ⟨rfl, k1⟩
  replace X := Lib.hid (X.out.below k1 X.out.lt)
  replace B := Lib.hid (B.out.trans (k1.mono B.out.size))
  clear k1 x0 x1
  have x1 := X.out.cell (i := 1) rfl
  go_wp2_with fail
  refine (O2.out _).mono ?_
  rintro e w2 ⟨rfl, k2⟩
  replace X := Lib.hid (X.out.below k2 X.out.lt)
  replace B := Lib.hid (B.out.trans (k2.mono B.out.size))
  clear k2 x1
  have T := Lib.hid (Row.new w2 97 [.int .i64 0, .int .i64 0, .int .i64 0, .int .i64 0, .string ⟨#[]⟩, .int .i64 0, .int .i64 0, .string ⟨#[]⟩, .slice none 0 0, .int .i64 0, .int .i64 0, .int .i64 0, .string ⟨#[]⟩, .int .i64 0])
  have HXL := Lib.hid X.out.lt
  have hne : w.heap.size ≠ w2.heap.size := by have := HXL.out; omega
  have x0 := X.out.cell (i := 0) rfl
  have x1 := X.out.cell (i := 1) rfl
  go_wp2_with (first | (refine store_row T.out [.int .i64 7, .int .i64 t, .int .i64 0, .int .i64 0, .string ⟨#[]⟩, .int .i64 0, .int .i64 0, .string ⟨#[]⟩, .slice none 0 0, .int .i64 0, .int .i64 0, .int .i64 0, .string ⟨#[]⟩, .int .i64 0] 97 (by kernel_rfl) rfl (by simp [Value.oneCell']) rfl rfl rfl rfl ?_; intro w3 hz kz zz; clear x0 x1; replace X := Lib.hid ((X.out.alloc (.cells #[.int .i64 0, .int .i64 0, .int .i64 0, .int .i64 0, .string ⟨#[]⟩, .int .i64 0, .int .i64 0, .string ⟨#[]⟩, .slice none 0 0, .int .i64 0, .int .i64 0, .int .i64 0, .string ⟨#[]⟩, .int .i64 0] 97)).chg kz hne); have HW := Lib.hid (show w.heap.size ≤ w2.heap.size from B.out.size); replace B := Lib.hid ((B.out.alloc B.out.size (.cells #[.int .i64 0, .int .i64 0, .int .i64 0, .int .i64 0, .string ⟨#[]⟩, .int .i64 0, .int .i64 0, .string ⟨#[]⟩, .slice none 0 0, .int .i64 0, .int .i64 0, .int .i64 0, .string ⟨#[]⟩, .int .i64 0] 97)).trans (kz.below (B := w.heap.size) (by have := B.out.size; simp; omega) (fun i e => by have e : i = w2.heap.size := e; have := B.out.size; omega))); replace T := Lib.hid hz; clear hz kz zz; have x0 := X.out.cell (i := 0) rfl; have x1 := X.out.cell (i := 1) rfl; have x2 := X.out.cell (i := 2) rfl; have x3 := X.out.cell (i := 3) rfl; have x4 := X.out.cell (i := 4) rfl; have x5 := X.out.cell (i := 5) rfl; have x6 := X.out.cell (i := 6) rfl; have x7 := X.out.cell (i := 7) rfl; have x8 := X.out.cell (i := 8) rfl; have x9 := X.out.cell (i := 9) rfl; have x10 := X.out.cell (i := 10) rfl; have x11 := X.out.cell (i := 11) rfl; have x12 := X.out.cell (i := 12) rfl; have x13 := X.out.cell (i := 13) rfl) | (refine store_part [.int .i64 7, .int .i64 t] [.int .i64 0, .int .i64 0, .string ⟨#[]⟩] [.int .i64 0, .int .i64 0, .string ⟨#[]⟩, .slice none 0 0, .int .i64 0, .int .i64 0, .int .i64 0, .string ⟨#[]⟩, .int .i64 0] T.out [.int .i64 kk, .int .i64 kn, .string ks] 81 (by kernel_rfl) rfl (by simp [Value.oneCell']) rfl rfl 2 rfl rfl rfl ?_; intro w8 hR kc hsz; clear x0 x1 x2 x3 x4 x5 x6 x7 x8 x9 x10 x11 x12 x13; have X_0 := Lib.hid (X.out.chg kc hne); have T_0 := Lib.hid hR; have B_0 := Lib.hid (B.out.trans (kc.below (B := w.heap.size) (B.out.size) (fun i e => by have e : i = w2.heap.size := e; have := HW.out; omega))); clear hR kc hsz; have x0 := X_0.out.cell (i := 0) rfl; have x1 := X_0.out.cell (i := 1) rfl; have x2 := X_0.out.cell (i := 2) rfl; have x3 := X_0.out.cell (i := 3) rfl; have x4 := X_0.out.cell (i := 4) rfl; have x5 := X_0.out.cell (i := 5) rfl; have x6 := X_0.out.cell (i := 6) rfl; have x7 := X_0.out.cell (i := 7) rfl; have x8 := X_0.out.cell (i := 8) rfl; have x9 := X_0.out.cell (i := 9) rfl; have x10 := X_0.out.cell (i := 10) rfl; have x11 := X_0.out.cell (i := 11) rfl; have x12 := X_0.out.cell (i := 12) rfl; have x13 := X_0.out.cell (i := 13) rfl) | (refine store_part [.int .i64 7, .int .i64 t, .int .i64 kk, .int .i64 kn, .string ks] [.int .i64 0, .int .i64 0, .string ⟨#[]⟩] [.slice none 0 0, .int .i64 0, .int .i64 0, .int .i64 0, .string ⟨#[]⟩, .int .i64 0] T_0.out [.int .i64 hk, .int .i64 hn, .string hs] 81 (by kernel_rfl) rfl (by simp [Value.oneCell']) rfl rfl 5 rfl rfl rfl ?_; intro w8 hR kc hsz; clear x0 x1 x2 x3 x4 x5 x6 x7 x8 x9 x10 x11 x12 x13; have X_1 := Lib.hid (X_0.out.chg kc hne); have T_1 := Lib.hid hR; have B_1 := Lib.hid (B_0.out.trans (kc.below (B := w.heap.size) (B_0.out.size) (fun i e => by have e : i = w2.heap.size := e; have := HW.out; omega))); clear hR kc hsz; have x0 := X_1.out.cell (i := 0) rfl; have x1 := X_1.out.cell (i := 1) rfl; have x2 := X_1.out.cell (i := 2) rfl; have x3 := X_1.out.cell (i := 3) rfl; have x4 := X_1.out.cell (i := 4) rfl; have x5 := X_1.out.cell (i := 5) rfl; have x6 := X_1.out.cell (i := 6) rfl; have x7 := X_1.out.cell (i := 7) rfl; have x8 := X_1.out.cell (i := 8) rfl; have x9 := X_1.out.cell (i := 9) rfl; have x10 := X_1.out.cell (i := 10) rfl; have x11 := X_1.out.cell (i := 11) rfl; have x12 := X_1.out.cell (i := 12) rfl; have x13 := X_1.out.cell (i := 13) rfl))
  generalize w2.heap.size = g at *
  clear x0 x1 x2 x3 x4 x5 x6 x7 x8 x9 x10 x11 x12 x13
  replace X := X_1
  replace T := T_1
  replace B := B_1
  replace X := Lib.hid (X.out.alloc (.cells #[.int .i64 kk, .int .i64 kn, .string ks, .int .i64 hk, .int .i64 hn, .string hs] 81))
  replace T := Lib.hid (T.out.alloc (.cells #[.int .i64 kk, .int .i64 kn, .string ks, .int .i64 hk, .int .i64 hn, .string hs] 81))
  replace B := Lib.hid (B.out.alloc B.out.size (.cells #[.int .i64 kk, .int .i64 kn, .string ks, .int .i64 hk, .int .i64 hn, .string hs] 81))
  refine (vals_is Vp.out (vs_lit2 kk kn ks hk hn hs (by simp [World.setCell])) (by intro v hv; rcases List.mem_cons.1 hv with rfl | hv; exact HF.out.1; rw [List.mem_singleton.1 hv]; exact HF.out.2.1) (by simp) rfl).mono ?_
  rintro e w4 ⟨rfl, k9⟩
  replace X := Lib.hid (X.out.below k9 X.out.lt)
  replace T := Lib.hid (T.out.below k9 T.out.lt)
  replace B := Lib.hid (B.out.trans (k9.mono B.out.size))
  clear k9
  cases pr
  · have HQ := Lib.hid (valR_snd Vp.out)
    go_wp2_with fail
    go_ret2
    exact ⟨wpost_no (by rw [HBAD.out]; exact HQ.out), B.out⟩
  · have HQ := Lib.hid (valR_fst Vp.out)
    go_wp2_with (first | (refine load_row_g X.out 97 Try.underlying97 rfl (by kernel_rfl) (by rfl) rfl rfl ?_) | (refine load_row_g T.out 97 Try.underlying97 rfl (by kernel_rfl) (by rfl) rfl rfl ?_))
    have SC := Lib.hid (wsame_calls (⟨7, t, ⟨kk, kn, ks⟩, ⟨hk, hn, hs⟩, ra, rc, row, c, ⟨vk, vn, vs⟩, wn⟩ : Wsh) ⟨7, t, ⟨kk, kn, ks⟩, ⟨hk, hn, hs⟩, none, 0, [], 0, noV, 0⟩ _ (VV.out.keep B.out) (Vs.nil _ _) (by simp only; omega) (by first | (simp; done) | (simp only; omega)))
    replace SC := Lib.hid (show Calls Try.prog 112 #[.agg #[.int .i64 7, .int .i64 t, .int .i64 kk, .int .i64 kn, .string ks, .int .i64 hk, .int .i64 hn, .string hs, .slice ra row.length rc, .int .i64 c, .int .i64 vk, .int .i64 vn, .string vs, .int .i64 wn], .agg #[.int .i64 7, .int .i64 t, .int .i64 kk, .int .i64 kn, .string ks, .int .i64 hk, .int .i64 hn, .string hs, .slice none 0 0, .int .i64 0, .int .i64 0, .int .i64 0, .string ⟨#[]⟩, .int .i64 0]] _ _ from SC.out)
    refine SC.out.mono ?_
    rintro e w30 ⟨⟨r, hr, rfl⟩, k9⟩
    replace B := Lib.hid (B.out.trans (k9.mono B.out.size))
    have HR := Lib.hid hr
    clear k9 hr SC
    go_wp2_with fail
    go_ret2
    exact ⟨wpost_is (by rw [HBAD.out]; exact HQ.out.2) HTOLD.out HR.out (by rw [HBY.out (pb) HQ.out.1]), B.out⟩
set_option maxHeartbeats 8000000 in
theorem rw_8 (t kk kn hk hn c vk vn wn : Int) (ks hs vs : ByteArray) (ra : Option Addr) (rc : Nat) (row : List V) (w : World) (hV : Vs w ra row) (hf : ((⟨8, t, ⟨kk, kn, ks⟩, ⟨hk, hn, hs⟩, ra, rc, row, c, ⟨vk, vn, vs⟩, wn⟩ : Wsh)).fits) (hl : row.length ≤ 1000) (ht : oneBad t = false) :
    Calls Try.prog 103 #[.agg #[.int .i64 8, .int .i64 t, .int .i64 kk, .int .i64 kn, .string ks, .int .i64 hk, .int .i64 hn, .string hs, .slice ra row.length rc, .int .i64 c, .int .i64 vk, .int .i64 vn, .string vs, .int .i64 wn]] w fun e w' => WPost (⟨8, t, ⟨kk, kn, ks⟩, ⟨hk, hn, hs⟩, ra, rc, row, c, ⟨vk, vn, vs⟩, wn⟩ : Wsh) e ∧ Below w.heap.size w w' := by
  have hbad : Wsh.bad (⟨8, t, ⟨kk, kn, ks⟩, ⟨hk, hn, hs⟩, ra, rc, row, c, ⟨vk, vn, vs⟩, wn⟩ : Wsh) = false := by simp [Wsh.bad, ht, show oneBad 8 = false from by decide]
  have htold : Wsh.told (⟨8, t, ⟨kk, kn, ks⟩, ⟨hk, hn, hs⟩, ra, rc, row, c, ⟨vk, vn, vs⟩, wn⟩ : Wsh) = ⟨8, t, noV, noV, none, 0, [], 0, noV, 0⟩ := by simp [Wsh.told, Wsh.only]
  obtain ⟨c1, hc1⟩ : ∃ c, oneB 8 = c := ⟨_, rfl⟩
  obtain ⟨c2, hc2⟩ : ∃ c, oneB t = c := ⟨_, rfl⟩
  have hbytes : ∀ v, (([] : List UInt8) = v → Wsh.bytes (⟨8, t, ⟨kk, kn, ks⟩, ⟨hk, hn, hs⟩, ra, rc, row, c, ⟨vk, vn, vs⟩, wn⟩ : Wsh) = c1 :: c2 :: v) := fun v hv => by simp [Wsh.bytes, ← hc1, ← hc2, ← hv]
  have O1 := Lib.hid (one_is (n := 8) (r := true) hc1 (by decide))
  have O2 := Lib.hid (one_is (n := t) (r := true) hc2 (by rw [ht]; rfl))
  have HBAD := Lib.hid hbad
  have HTOLD := Lib.hid htold
  have HBY := Lib.hid hbytes
  have VV := Lib.hid hV
  have HF := Lib.hid hf
  have X := Lib.hid (Row.new w 97 [.int .i64 8, .int .i64 t, .int .i64 kk, .int .i64 kn, .string ks, .int .i64 hk, .int .i64 hn, .string hs, .slice ra row.length rc, .int .i64 c, .int .i64 vk, .int .i64 vn, .string vs, .int .i64 wn])
  have B := Lib.hid ((Below.refl w.heap.size w).alloc (Nat.le_refl _) (.cells #[.int .i64 8, .int .i64 t, .int .i64 kk, .int .i64 kn, .string ks, .int .i64 hk, .int .i64 hn, .string hs, .slice ra row.length rc, .int .i64 c, .int .i64 vk, .int .i64 vn, .string vs, .int .i64 wn] 97))
  have e2 := app2 c1 c2
  have q2 := fit_size (a := [c1]) (b := [c2]) (by simp)
  have x0 := X.out.cell (i := 0) rfl
  have x1 := X.out.cell (i := 1) rfl
  clear hbad htold hbytes hV hf hc1 hc2 ht
  have e3 : bs [c1, c2] ++ (⟨#[]⟩ : ByteArray) = bs [c1, c2] := app3 c1 c2 []
  have q3 : ¬ 9223372036854775807 < (bs [c1, c2]).size + (⟨#[]⟩ : ByteArray).size := fit_size (a := [c1, c2]) (b := []) (by simp)
  go_enter Try.func103, Try.ntmps103
  go_wp2_with fail
  refine (O1.out _).mono ?_
  rintro e w1 ⟨rfl, k1⟩
  replace X := Lib.hid (X.out.below k1 X.out.lt)
  replace B := Lib.hid (B.out.trans (k1.mono B.out.size))
  clear k1 x0 x1
  have x1 := X.out.cell (i := 1) rfl
  go_wp2_with fail
  refine (O2.out _).mono ?_
  rintro e w2 ⟨rfl, k2⟩
  replace X := Lib.hid (X.out.below k2 X.out.lt)
  replace B := Lib.hid (B.out.trans (k2.mono B.out.size))
  clear k2 x1
  have T := Lib.hid (Row.new w2 97 [.int .i64 0, .int .i64 0, .int .i64 0, .int .i64 0, .string ⟨#[]⟩, .int .i64 0, .int .i64 0, .string ⟨#[]⟩, .slice none 0 0, .int .i64 0, .int .i64 0, .int .i64 0, .string ⟨#[]⟩, .int .i64 0])
  have HXL := Lib.hid X.out.lt
  have hne : w.heap.size ≠ w2.heap.size := by have := HXL.out; omega
  have x0 := X.out.cell (i := 0) rfl
  have x1 := X.out.cell (i := 1) rfl
  go_wp2_with (first | (refine store_row T.out [.int .i64 8, .int .i64 t, .int .i64 0, .int .i64 0, .string ⟨#[]⟩, .int .i64 0, .int .i64 0, .string ⟨#[]⟩, .slice none 0 0, .int .i64 0, .int .i64 0, .int .i64 0, .string ⟨#[]⟩, .int .i64 0] 97 (by kernel_rfl) rfl (by simp [Value.oneCell']) rfl rfl rfl rfl ?_; intro w3 hz kz zz; clear x0 x1; replace X := Lib.hid ((X.out.alloc (.cells #[.int .i64 0, .int .i64 0, .int .i64 0, .int .i64 0, .string ⟨#[]⟩, .int .i64 0, .int .i64 0, .string ⟨#[]⟩, .slice none 0 0, .int .i64 0, .int .i64 0, .int .i64 0, .string ⟨#[]⟩, .int .i64 0] 97)).chg kz hne); have HW := Lib.hid (show w.heap.size ≤ w2.heap.size from B.out.size); replace B := Lib.hid ((B.out.alloc B.out.size (.cells #[.int .i64 0, .int .i64 0, .int .i64 0, .int .i64 0, .string ⟨#[]⟩, .int .i64 0, .int .i64 0, .string ⟨#[]⟩, .slice none 0 0, .int .i64 0, .int .i64 0, .int .i64 0, .string ⟨#[]⟩, .int .i64 0] 97)).trans (kz.below (B := w.heap.size) (by have := B.out.size; simp; omega) (fun i e => by have e : i = w2.heap.size := e; have := B.out.size; omega))); replace T := Lib.hid hz; clear hz kz zz; have x0 := X.out.cell (i := 0) rfl; have x1 := X.out.cell (i := 1) rfl; have x2 := X.out.cell (i := 2) rfl; have x3 := X.out.cell (i := 3) rfl; have x4 := X.out.cell (i := 4) rfl; have x5 := X.out.cell (i := 5) rfl; have x6 := X.out.cell (i := 6) rfl; have x7 := X.out.cell (i := 7) rfl; have x8 := X.out.cell (i := 8) rfl; have x9 := X.out.cell (i := 9) rfl; have x10 := X.out.cell (i := 10) rfl; have x11 := X.out.cell (i := 11) rfl; have x12 := X.out.cell (i := 12) rfl; have x13 := X.out.cell (i := 13) rfl) | (refine load_row_g X.out 97 Try.underlying97 rfl (by kernel_rfl) (by rfl) rfl rfl ?_) | (refine load_row_g T.out 97 Try.underlying97 rfl (by kernel_rfl) (by rfl) rfl rfl ?_))
  generalize w2.heap.size = g at *
  clear x0 x1 x2 x3 x4 x5 x6 x7 x8 x9 x10 x11 x12 x13
  have SC := Lib.hid (wsame_calls (⟨8, t, ⟨kk, kn, ks⟩, ⟨hk, hn, hs⟩, ra, rc, row, c, ⟨vk, vn, vs⟩, wn⟩ : Wsh) ⟨8, t, noV, noV, none, 0, [], 0, noV, 0⟩ _ (VV.out.keep B.out) (Vs.nil _ _) (by simp only; omega) (by first | (simp; done) | (simp only; omega)))
  replace SC := Lib.hid (show Calls Try.prog 112 #[.agg #[.int .i64 8, .int .i64 t, .int .i64 kk, .int .i64 kn, .string ks, .int .i64 hk, .int .i64 hn, .string hs, .slice ra row.length rc, .int .i64 c, .int .i64 vk, .int .i64 vn, .string vs, .int .i64 wn], .agg #[.int .i64 8, .int .i64 t, .int .i64 0, .int .i64 0, .string ⟨#[]⟩, .int .i64 0, .int .i64 0, .string ⟨#[]⟩, .slice none 0 0, .int .i64 0, .int .i64 0, .int .i64 0, .string ⟨#[]⟩, .int .i64 0]] _ _ from SC.out)
  refine SC.out.mono ?_
  rintro e w30 ⟨⟨r, hr, rfl⟩, k9⟩
  replace B := Lib.hid (B.out.trans (k9.mono B.out.size))
  have HR := Lib.hid hr
  clear k9 hr SC
  go_wp2_with fail
  go_ret2
  exact ⟨wpost_is (by rw [HBAD.out]; try rfl) HTOLD.out HR.out (by rw [HBY.out ([]) rfl]), B.out⟩
set_option maxHeartbeats 8000000 in
theorem rw_9 (t kk kn hk hn c vk vn wn : Int) (ks hs vs : ByteArray) (ra : Option Addr) (rc : Nat) (row : List V) (w : World) (hV : Vs w ra row) (hf : ((⟨9, t, ⟨kk, kn, ks⟩, ⟨hk, hn, hs⟩, ra, rc, row, c, ⟨vk, vn, vs⟩, wn⟩ : Wsh)).fits) (hl : row.length ≤ 1000) (ht : oneBad t = false) :
    Calls Try.prog 103 #[.agg #[.int .i64 9, .int .i64 t, .int .i64 kk, .int .i64 kn, .string ks, .int .i64 hk, .int .i64 hn, .string hs, .slice ra row.length rc, .int .i64 c, .int .i64 vk, .int .i64 vn, .string vs, .int .i64 wn]] w fun e w' => WPost (⟨9, t, ⟨kk, kn, ks⟩, ⟨hk, hn, hs⟩, ra, rc, row, c, ⟨vk, vn, vs⟩, wn⟩ : Wsh) e ∧ Below w.heap.size w w' := by
  have hbad : Wsh.bad (⟨9, t, ⟨kk, kn, ks⟩, ⟨hk, hn, hs⟩, ra, rc, row, c, ⟨vk, vn, vs⟩, wn⟩ : Wsh) = oneBad wn := by simp [Wsh.bad, ht, show oneBad 9 = false from by decide]
  have htold : Wsh.told (⟨9, t, ⟨kk, kn, ks⟩, ⟨hk, hn, hs⟩, ra, rc, row, c, ⟨vk, vn, vs⟩, wn⟩ : Wsh) = ⟨9, t, noV, noV, none, 0, [], 0, noV, wn⟩ := by simp [Wsh.told]
  obtain ⟨c1, hc1⟩ : ∃ c, oneB 9 = c := ⟨_, rfl⟩
  obtain ⟨c2, hc2⟩ : ∃ c, oneB t = c := ⟨_, rfl⟩
  have hbytes : ∀ v, ([oneB wn] = v → Wsh.bytes (⟨9, t, ⟨kk, kn, ks⟩, ⟨hk, hn, hs⟩, ra, rc, row, c, ⟨vk, vn, vs⟩, wn⟩ : Wsh) = c1 :: c2 :: v) := fun v hv => by simp [Wsh.bytes, ← hc1, ← hc2, ← hv]
  have O1 := Lib.hid (one_is (n := 9) (r := true) hc1 (by decide))
  have O2 := Lib.hid (one_is (n := t) (r := true) hc2 (by rw [ht]; rfl))
  have HBAD := Lib.hid hbad
  have HTOLD := Lib.hid htold
  have HBY := Lib.hid hbytes
  have VV := Lib.hid hV
  have HF := Lib.hid hf
  have X := Lib.hid (Row.new w 97 [.int .i64 9, .int .i64 t, .int .i64 kk, .int .i64 kn, .string ks, .int .i64 hk, .int .i64 hn, .string hs, .slice ra row.length rc, .int .i64 c, .int .i64 vk, .int .i64 vn, .string vs, .int .i64 wn])
  have B := Lib.hid ((Below.refl w.heap.size w).alloc (Nat.le_refl _) (.cells #[.int .i64 9, .int .i64 t, .int .i64 kk, .int .i64 kn, .string ks, .int .i64 hk, .int .i64 hn, .string hs, .slice ra row.length rc, .int .i64 c, .int .i64 vk, .int .i64 vn, .string vs, .int .i64 wn] 97))
  have e2 := app2 c1 c2
  have q2 := fit_size (a := [c1]) (b := [c2]) (by simp)
  have x0 := X.out.cell (i := 0) rfl
  have x1 := X.out.cell (i := 1) rfl
  clear hbad htold hbytes hV hf hc1 hc2 ht
  obtain ⟨c3, hc3⟩ : ∃ c, oneB wn = c := ⟨_, rfl⟩
  obtain ⟨r3, hr3⟩ : ∃ r, oneBad wn = !r := ⟨!oneBad wn, by simp⟩
  have e3 := app3 c1 c2 [c3]
  have q3 := fit_size (a := [c1, c2]) (b := [c3]) (by simp)
  have O3 := Lib.hid (one_is hc3 hr3)
  have HC3 := Lib.hid hc3
  have HR3 := Lib.hid hr3
  clear hc3 hr3
  go_enter Try.func103, Try.ntmps103
  go_wp2_with fail
  refine (O1.out _).mono ?_
  rintro e w1 ⟨rfl, k1⟩
  replace X := Lib.hid (X.out.below k1 X.out.lt)
  replace B := Lib.hid (B.out.trans (k1.mono B.out.size))
  clear k1 x0 x1
  have x1 := X.out.cell (i := 1) rfl
  go_wp2_with fail
  refine (O2.out _).mono ?_
  rintro e w2 ⟨rfl, k2⟩
  replace X := Lib.hid (X.out.below k2 X.out.lt)
  replace B := Lib.hid (B.out.trans (k2.mono B.out.size))
  clear k2 x1
  have T := Lib.hid (Row.new w2 97 [.int .i64 0, .int .i64 0, .int .i64 0, .int .i64 0, .string ⟨#[]⟩, .int .i64 0, .int .i64 0, .string ⟨#[]⟩, .slice none 0 0, .int .i64 0, .int .i64 0, .int .i64 0, .string ⟨#[]⟩, .int .i64 0])
  have HXL := Lib.hid X.out.lt
  have hne : w.heap.size ≠ w2.heap.size := by have := HXL.out; omega
  have x0 := X.out.cell (i := 0) rfl
  have x1 := X.out.cell (i := 1) rfl
  go_wp2_with (first | (refine store_row T.out [.int .i64 9, .int .i64 t, .int .i64 0, .int .i64 0, .string ⟨#[]⟩, .int .i64 0, .int .i64 0, .string ⟨#[]⟩, .slice none 0 0, .int .i64 0, .int .i64 0, .int .i64 0, .string ⟨#[]⟩, .int .i64 0] 97 (by kernel_rfl) rfl (by simp [Value.oneCell']) rfl rfl rfl rfl ?_; intro w3 hz kz zz; clear x0 x1; replace X := Lib.hid ((X.out.alloc (.cells #[.int .i64 0, .int .i64 0, .int .i64 0, .int .i64 0, .string ⟨#[]⟩, .int .i64 0, .int .i64 0, .string ⟨#[]⟩, .slice none 0 0, .int .i64 0, .int .i64 0, .int .i64 0, .string ⟨#[]⟩, .int .i64 0] 97)).chg kz hne); have HW := Lib.hid (show w.heap.size ≤ w2.heap.size from B.out.size); replace B := Lib.hid ((B.out.alloc B.out.size (.cells #[.int .i64 0, .int .i64 0, .int .i64 0, .int .i64 0, .string ⟨#[]⟩, .int .i64 0, .int .i64 0, .string ⟨#[]⟩, .slice none 0 0, .int .i64 0, .int .i64 0, .int .i64 0, .string ⟨#[]⟩, .int .i64 0] 97)).trans (kz.below (B := w.heap.size) (by have := B.out.size; simp; omega) (fun i e => by have e : i = w2.heap.size := e; have := B.out.size; omega))); replace T := Lib.hid hz; clear hz kz zz; have x0 := X.out.cell (i := 0) rfl; have x1 := X.out.cell (i := 1) rfl; have x2 := X.out.cell (i := 2) rfl; have x3 := X.out.cell (i := 3) rfl; have x4 := X.out.cell (i := 4) rfl; have x5 := X.out.cell (i := 5) rfl; have x6 := X.out.cell (i := 6) rfl; have x7 := X.out.cell (i := 7) rfl; have x8 := X.out.cell (i := 8) rfl; have x9 := X.out.cell (i := 9) rfl; have x10 := X.out.cell (i := 10) rfl; have x11 := X.out.cell (i := 11) rfl; have x12 := X.out.cell (i := 12) rfl; have x13 := X.out.cell (i := 13) rfl; have t13 := T.out.cell (i := 13) rfl; have g13 := T.out.frozen 13 (by simp); have T_0 := Lib.hid ((T.out.set 13 (.int .i64 wn)).cast (cs' := [.int .i64 9, .int .i64 t, .int .i64 0, .int .i64 0, .string ⟨#[]⟩, .int .i64 0, .int .i64 0, .string ⟨#[]⟩, .slice none 0 0, .int .i64 0, .int .i64 0, .int .i64 0, .string ⟨#[]⟩, .int .i64 wn]) rfl); have X_0 := Lib.hid (X.out.set_ne ⟨w2.heap.size, 13, none⟩ (.int .i64 wn) (Ne.symm hne)); have B_0 := Lib.hid (B.out.setCell (p := ⟨w2.heap.size, 13, none⟩) HW.out (.int .i64 wn))))
  generalize w2.heap.size = g at *
  clear x0 x1 x2 x3 x4 x5 x6 x7 x8 x9 x10 x11 x12 x13 t13 g13
  replace X := X_0
  replace T := T_0
  replace B := B_0
  refine (O3.out _).mono ?_
  rintro e w4 ⟨rfl, k9⟩
  replace X := Lib.hid (X.out.below k9 X.out.lt)
  replace T := Lib.hid (T.out.below k9 T.out.lt)
  replace B := Lib.hid (B.out.trans (k9.mono B.out.size))
  clear k9
  cases r3
  · have HQ := HR3
    go_wp2_with fail
    go_ret2
    exact ⟨wpost_no (by rw [HBAD.out]; exact HQ.out), B.out⟩
  · have HQ := HR3
    go_wp2_with (first | (refine load_row_g X.out 97 Try.underlying97 rfl (by kernel_rfl) (by rfl) rfl rfl ?_) | (refine load_row_g T.out 97 Try.underlying97 rfl (by kernel_rfl) (by rfl) rfl rfl ?_))
    have SC := Lib.hid (wsame_calls (⟨9, t, ⟨kk, kn, ks⟩, ⟨hk, hn, hs⟩, ra, rc, row, c, ⟨vk, vn, vs⟩, wn⟩ : Wsh) ⟨9, t, noV, noV, none, 0, [], 0, noV, wn⟩ _ (VV.out.keep B.out) (Vs.nil _ _) (by simp only; omega) (by first | (simp; done) | (simp only; omega)))
    replace SC := Lib.hid (show Calls Try.prog 112 #[.agg #[.int .i64 9, .int .i64 t, .int .i64 kk, .int .i64 kn, .string ks, .int .i64 hk, .int .i64 hn, .string hs, .slice ra row.length rc, .int .i64 c, .int .i64 vk, .int .i64 vn, .string vs, .int .i64 wn], .agg #[.int .i64 9, .int .i64 t, .int .i64 0, .int .i64 0, .string ⟨#[]⟩, .int .i64 0, .int .i64 0, .string ⟨#[]⟩, .slice none 0 0, .int .i64 0, .int .i64 0, .int .i64 0, .string ⟨#[]⟩, .int .i64 wn]] _ _ from SC.out)
    refine SC.out.mono ?_
    rintro e w30 ⟨⟨r, hr, rfl⟩, k9⟩
    replace B := Lib.hid (B.out.trans (k9.mono B.out.size))
    have HR := Lib.hid hr
    clear k9 hr SC
    go_wp2_with fail
    go_ret2
    exact ⟨wpost_is (by rw [HBAD.out]; exact HQ.out) HTOLD.out HR.out (by rw [HBY.out ([c3]) (by rw [HC3.out])]), B.out⟩
set_option maxHeartbeats 8000000 in
theorem rw_10 (t kk kn hk hn c vk vn wn : Int) (ks hs vs : ByteArray) (ra : Option Addr) (rc : Nat) (row : List V) (w : World) (hV : Vs w ra row) (hf : ((⟨10, t, ⟨kk, kn, ks⟩, ⟨hk, hn, hs⟩, ra, rc, row, c, ⟨vk, vn, vs⟩, wn⟩ : Wsh)).fits) (hl : row.length ≤ 1000) (ht : oneBad t = false) :
    Calls Try.prog 103 #[.agg #[.int .i64 10, .int .i64 t, .int .i64 kk, .int .i64 kn, .string ks, .int .i64 hk, .int .i64 hn, .string hs, .slice ra row.length rc, .int .i64 c, .int .i64 vk, .int .i64 vn, .string vs, .int .i64 wn]] w fun e w' => WPost (⟨10, t, ⟨kk, kn, ks⟩, ⟨hk, hn, hs⟩, ra, rc, row, c, ⟨vk, vn, vs⟩, wn⟩ : Wsh) e ∧ Below w.heap.size w w' := by
  have hbad : Wsh.bad (⟨10, t, ⟨kk, kn, ks⟩, ⟨hk, hn, hs⟩, ra, rc, row, c, ⟨vk, vn, vs⟩, wn⟩ : Wsh) = oneBad wn := by simp [Wsh.bad, ht, show oneBad 10 = false from by decide]
  have htold : Wsh.told (⟨10, t, ⟨kk, kn, ks⟩, ⟨hk, hn, hs⟩, ra, rc, row, c, ⟨vk, vn, vs⟩, wn⟩ : Wsh) = ⟨10, t, noV, noV, none, 0, [], 0, noV, wn⟩ := by simp [Wsh.told]
  obtain ⟨c1, hc1⟩ : ∃ c, oneB 10 = c := ⟨_, rfl⟩
  obtain ⟨c2, hc2⟩ : ∃ c, oneB t = c := ⟨_, rfl⟩
  have hbytes : ∀ v, ([oneB wn] = v → Wsh.bytes (⟨10, t, ⟨kk, kn, ks⟩, ⟨hk, hn, hs⟩, ra, rc, row, c, ⟨vk, vn, vs⟩, wn⟩ : Wsh) = c1 :: c2 :: v) := fun v hv => by simp [Wsh.bytes, ← hc1, ← hc2, ← hv]
  have O1 := Lib.hid (one_is (n := 10) (r := true) hc1 (by decide))
  have O2 := Lib.hid (one_is (n := t) (r := true) hc2 (by rw [ht]; rfl))
  have HBAD := Lib.hid hbad
  have HTOLD := Lib.hid htold
  have HBY := Lib.hid hbytes
  have VV := Lib.hid hV
  have HF := Lib.hid hf
  have X := Lib.hid (Row.new w 97 [.int .i64 10, .int .i64 t, .int .i64 kk, .int .i64 kn, .string ks, .int .i64 hk, .int .i64 hn, .string hs, .slice ra row.length rc, .int .i64 c, .int .i64 vk, .int .i64 vn, .string vs, .int .i64 wn])
  have B := Lib.hid ((Below.refl w.heap.size w).alloc (Nat.le_refl _) (.cells #[.int .i64 10, .int .i64 t, .int .i64 kk, .int .i64 kn, .string ks, .int .i64 hk, .int .i64 hn, .string hs, .slice ra row.length rc, .int .i64 c, .int .i64 vk, .int .i64 vn, .string vs, .int .i64 wn] 97))
  have e2 := app2 c1 c2
  have q2 := fit_size (a := [c1]) (b := [c2]) (by simp)
  have x0 := X.out.cell (i := 0) rfl
  have x1 := X.out.cell (i := 1) rfl
  clear hbad htold hbytes hV hf hc1 hc2 ht
  obtain ⟨c3, hc3⟩ : ∃ c, oneB wn = c := ⟨_, rfl⟩
  obtain ⟨r3, hr3⟩ : ∃ r, oneBad wn = !r := ⟨!oneBad wn, by simp⟩
  have e3 := app3 c1 c2 [c3]
  have q3 := fit_size (a := [c1, c2]) (b := [c3]) (by simp)
  have O3 := Lib.hid (one_is hc3 hr3)
  have HC3 := Lib.hid hc3
  have HR3 := Lib.hid hr3
  clear hc3 hr3
  go_enter Try.func103, Try.ntmps103
  go_wp2_with fail
  refine (O1.out _).mono ?_
  rintro e w1 ⟨rfl, k1⟩
  replace X := Lib.hid (X.out.below k1 X.out.lt)
  replace B := Lib.hid (B.out.trans (k1.mono B.out.size))
  clear k1 x0 x1
  have x1 := X.out.cell (i := 1) rfl
  go_wp2_with fail
  refine (O2.out _).mono ?_
  rintro e w2 ⟨rfl, k2⟩
  replace X := Lib.hid (X.out.below k2 X.out.lt)
  replace B := Lib.hid (B.out.trans (k2.mono B.out.size))
  clear k2 x1
  have T := Lib.hid (Row.new w2 97 [.int .i64 0, .int .i64 0, .int .i64 0, .int .i64 0, .string ⟨#[]⟩, .int .i64 0, .int .i64 0, .string ⟨#[]⟩, .slice none 0 0, .int .i64 0, .int .i64 0, .int .i64 0, .string ⟨#[]⟩, .int .i64 0])
  have HXL := Lib.hid X.out.lt
  have hne : w.heap.size ≠ w2.heap.size := by have := HXL.out; omega
  have x0 := X.out.cell (i := 0) rfl
  have x1 := X.out.cell (i := 1) rfl
  go_wp2_with (first | (refine store_row T.out [.int .i64 10, .int .i64 t, .int .i64 0, .int .i64 0, .string ⟨#[]⟩, .int .i64 0, .int .i64 0, .string ⟨#[]⟩, .slice none 0 0, .int .i64 0, .int .i64 0, .int .i64 0, .string ⟨#[]⟩, .int .i64 0] 97 (by kernel_rfl) rfl (by simp [Value.oneCell']) rfl rfl rfl rfl ?_; intro w3 hz kz zz; clear x0 x1; replace X := Lib.hid ((X.out.alloc (.cells #[.int .i64 0, .int .i64 0, .int .i64 0, .int .i64 0, .string ⟨#[]⟩, .int .i64 0, .int .i64 0, .string ⟨#[]⟩, .slice none 0 0, .int .i64 0, .int .i64 0, .int .i64 0, .string ⟨#[]⟩, .int .i64 0] 97)).chg kz hne); have HW := Lib.hid (show w.heap.size ≤ w2.heap.size from B.out.size); replace B := Lib.hid ((B.out.alloc B.out.size (.cells #[.int .i64 0, .int .i64 0, .int .i64 0, .int .i64 0, .string ⟨#[]⟩, .int .i64 0, .int .i64 0, .string ⟨#[]⟩, .slice none 0 0, .int .i64 0, .int .i64 0, .int .i64 0, .string ⟨#[]⟩, .int .i64 0] 97)).trans (kz.below (B := w.heap.size) (by have := B.out.size; simp; omega) (fun i e => by have e : i = w2.heap.size := e; have := B.out.size; omega))); replace T := Lib.hid hz; clear hz kz zz; have x0 := X.out.cell (i := 0) rfl; have x1 := X.out.cell (i := 1) rfl; have x2 := X.out.cell (i := 2) rfl; have x3 := X.out.cell (i := 3) rfl; have x4 := X.out.cell (i := 4) rfl; have x5 := X.out.cell (i := 5) rfl; have x6 := X.out.cell (i := 6) rfl; have x7 := X.out.cell (i := 7) rfl; have x8 := X.out.cell (i := 8) rfl; have x9 := X.out.cell (i := 9) rfl; have x10 := X.out.cell (i := 10) rfl; have x11 := X.out.cell (i := 11) rfl; have x12 := X.out.cell (i := 12) rfl; have x13 := X.out.cell (i := 13) rfl; have t13 := T.out.cell (i := 13) rfl; have g13 := T.out.frozen 13 (by simp); have T_0 := Lib.hid ((T.out.set 13 (.int .i64 wn)).cast (cs' := [.int .i64 10, .int .i64 t, .int .i64 0, .int .i64 0, .string ⟨#[]⟩, .int .i64 0, .int .i64 0, .string ⟨#[]⟩, .slice none 0 0, .int .i64 0, .int .i64 0, .int .i64 0, .string ⟨#[]⟩, .int .i64 wn]) rfl); have X_0 := Lib.hid (X.out.set_ne ⟨w2.heap.size, 13, none⟩ (.int .i64 wn) (Ne.symm hne)); have B_0 := Lib.hid (B.out.setCell (p := ⟨w2.heap.size, 13, none⟩) HW.out (.int .i64 wn))))
  generalize w2.heap.size = g at *
  clear x0 x1 x2 x3 x4 x5 x6 x7 x8 x9 x10 x11 x12 x13 t13 g13
  replace X := X_0
  replace T := T_0
  replace B := B_0
  refine (O3.out _).mono ?_
  rintro e w4 ⟨rfl, k9⟩
  replace X := Lib.hid (X.out.below k9 X.out.lt)
  replace T := Lib.hid (T.out.below k9 T.out.lt)
  replace B := Lib.hid (B.out.trans (k9.mono B.out.size))
  clear k9
  cases r3
  · have HQ := HR3
    go_wp2_with fail
    go_ret2
    exact ⟨wpost_no (by rw [HBAD.out]; exact HQ.out), B.out⟩
  · have HQ := HR3
    go_wp2_with (first | (refine load_row_g X.out 97 Try.underlying97 rfl (by kernel_rfl) (by rfl) rfl rfl ?_) | (refine load_row_g T.out 97 Try.underlying97 rfl (by kernel_rfl) (by rfl) rfl rfl ?_))
    have SC := Lib.hid (wsame_calls (⟨10, t, ⟨kk, kn, ks⟩, ⟨hk, hn, hs⟩, ra, rc, row, c, ⟨vk, vn, vs⟩, wn⟩ : Wsh) ⟨10, t, noV, noV, none, 0, [], 0, noV, wn⟩ _ (VV.out.keep B.out) (Vs.nil _ _) (by simp only; omega) (by first | (simp; done) | (simp only; omega)))
    replace SC := Lib.hid (show Calls Try.prog 112 #[.agg #[.int .i64 10, .int .i64 t, .int .i64 kk, .int .i64 kn, .string ks, .int .i64 hk, .int .i64 hn, .string hs, .slice ra row.length rc, .int .i64 c, .int .i64 vk, .int .i64 vn, .string vs, .int .i64 wn], .agg #[.int .i64 10, .int .i64 t, .int .i64 0, .int .i64 0, .string ⟨#[]⟩, .int .i64 0, .int .i64 0, .string ⟨#[]⟩, .slice none 0 0, .int .i64 0, .int .i64 0, .int .i64 0, .string ⟨#[]⟩, .int .i64 wn]] _ _ from SC.out)
    refine SC.out.mono ?_
    rintro e w30 ⟨⟨r, hr, rfl⟩, k9⟩
    replace B := Lib.hid (B.out.trans (k9.mono B.out.size))
    have HR := Lib.hid hr
    clear k9 hr SC
    go_wp2_with fail
    go_ret2
    exact ⟨wpost_is (by rw [HBAD.out]; exact HQ.out) HTOLD.out HR.out (by rw [HBY.out ([c3]) (by rw [HC3.out])]), B.out⟩
set_option maxHeartbeats 4000000 in
theorem rw_bad (k t : Int) (x2 x3 : Int) (ks hs vs : ByteArray) (h1 h2 : Int) (ra : Option Addr) (n rc : Nat) (c v1 v2 wn : Int) (w : World) (h : oneBad k = true ∨ oneBad t = true ∨ k < 1 ∨ 10 < k) :
    Calls Try.prog 103 #[.agg #[.int .i64 k, .int .i64 t, .int .i64 x2, .int .i64 x3, .string ks, .int .i64 h1, .int .i64 h2, .string hs, .slice ra n rc, .int .i64 c, .int .i64 v1, .int .i64 v2, .string vs, .int .i64 wn]] w fun e w' => e = .returned (.tuple #[.string ⟨#[]⟩, .bool false]) ∧ Below w.heap.size w w' := by
  obtain ⟨c1, hc1⟩ : ∃ c, oneB k = c := ⟨_, rfl⟩
  obtain ⟨c2, hc2⟩ : ∃ c, oneB t = c := ⟨_, rfl⟩
  obtain ⟨r1, hr1⟩ : ∃ r, oneBad k = !r := ⟨!oneBad k, by simp⟩
  obtain ⟨r2, hr2⟩ : ∃ r, oneBad t = !r := ⟨!oneBad t, by simp⟩
  have O1 := Lib.hid (one_is hc1 hr1)
  have O2 := Lib.hid (one_is hc2 hr2)
  have X := Lib.hid (Row.new w 97 [.int .i64 k, .int .i64 t, .int .i64 x2, .int .i64 x3, .string ks, .int .i64 h1, .int .i64 h2, .string hs, .slice ra n rc, .int .i64 c, .int .i64 v1, .int .i64 v2, .string vs, .int .i64 wn])
  have B := Lib.hid ((Below.refl w.heap.size w).alloc (Nat.le_refl _) (.cells #[.int .i64 k, .int .i64 t, .int .i64 x2, .int .i64 x3, .string ks, .int .i64 h1, .int .i64 h2, .string hs, .slice ra n rc, .int .i64 c, .int .i64 v1, .int .i64 v2, .string vs, .int .i64 wn] 97))
  rw [hr1, hr2] at h
  have H := Lib.hid h
  have x0 := X.out.cell (i := 0) rfl
  clear h hc1 hc2 hr1 hr2
  go_enter Try.func103, Try.ntmps103
  go_wp2_with fail
  refine (O1.out _).mono ?_
  rintro e w1 ⟨rfl, k1⟩
  replace X := Lib.hid (X.out.below k1 X.out.lt)
  replace B := Lib.hid (B.out.trans (k1.mono B.out.size))
  clear k1 x0
  have x1 := X.out.cell (i := 1) rfl
  go_wp2_with fail
  refine (O2.out _).mono ?_
  rintro e w2 ⟨rfl, k2⟩
  replace X := Lib.hid (X.out.below k2 X.out.lt)
  replace B := Lib.hid (B.out.trans (k2.mono B.out.size))
  clear k2 x1
  cases r1
  · go_wp2_with fail
    go_ret2
    exact ⟨rfl, B.out⟩
  cases r2
  · go_wp2_with fail
    go_ret2
    exact ⟨rfl, B.out⟩
  have x0 := X.out.cell (i := 0) rfl
  by_cases h1 : k < 1
  · have d1 : decide (k < 1) = true := by simpa using h1
    go_wp2_with fail
    go_ret2
    exact ⟨rfl, B.out⟩
  have d1 : decide (k < 1) = false := by simpa using h1
  have h10 : 10 < k := by have := H.out; simp at this; omega
  have d2 : decide (10 < k) = true := by simpa using h10
  clear h1 h10
  go_wp2_with fail
  go_ret2
  exact ⟨rfl, B.out⟩
set_option maxHeartbeats 4000000 in
theorem rw_14 (t kk kn hk hn c vk vn wn : Int) (ks hs vs : ByteArray) (ra : Option Addr) (rc : Nat) (row : List V) (w : World) (ht : oneBad t = false) (h4 : 4 < row.length) :
    Calls Try.prog 103 #[.agg #[.int .i64 1, .int .i64 t, .int .i64 kk, .int .i64 kn, .string ks, .int .i64 hk, .int .i64 hn, .string hs, .slice ra row.length rc, .int .i64 c, .int .i64 vk, .int .i64 vn, .string vs, .int .i64 wn]] w fun e w' => e = .returned (.tuple #[.string ⟨#[]⟩, .bool false]) ∧ Below w.heap.size w w' := by
  obtain ⟨c1, hc1⟩ : ∃ c, oneB 1 = c := ⟨_, rfl⟩
  obtain ⟨c2, hc2⟩ : ∃ c, oneB t = c := ⟨_, rfl⟩
  have O1 := Lib.hid (one_is (n := 1) (r := true) hc1 (by decide))
  have O2 := Lib.hid (one_is (n := t) (r := true) hc2 (by rw [ht]; rfl))
  have X := Lib.hid (Row.new w 97 [.int .i64 1, .int .i64 t, .int .i64 kk, .int .i64 kn, .string ks, .int .i64 hk, .int .i64 hn, .string hs, .slice ra row.length rc, .int .i64 c, .int .i64 vk, .int .i64 vn, .string vs, .int .i64 wn])
  have B := Lib.hid ((Below.refl w.heap.size w).alloc (Nat.le_refl _) (.cells #[.int .i64 1, .int .i64 t, .int .i64 kk, .int .i64 kn, .string ks, .int .i64 hk, .int .i64 hn, .string hs, .slice ra row.length rc, .int .i64 c, .int .i64 vk, .int .i64 vn, .string vs, .int .i64 wn] 97))
  have e2 := app2 c1 c2
  have q2 := fit_size (a := [c1]) (b := [c2]) (by simp)
  have h4' : decide ((4 : Int) < (row.length : Int)) = true := by simp; omega
  have x0 := X.out.cell (i := 0) rfl
  clear hc1 hc2 ht h4
  go_enter Try.func103, Try.ntmps103
  go_wp2_with fail
  refine (O1.out _).mono ?_
  rintro e w1 ⟨rfl, k1⟩
  replace X := Lib.hid (X.out.below k1 X.out.lt)
  replace B := Lib.hid (B.out.trans (k1.mono B.out.size))
  clear k1 x0
  have x1 := X.out.cell (i := 1) rfl
  go_wp2_with fail
  refine (O2.out _).mono ?_
  rintro e w2 ⟨rfl, k2⟩
  replace X := Lib.hid (X.out.below k2 X.out.lt)
  replace B := Lib.hid (B.out.trans (k2.mono B.out.size))
  clear k2 x1
  have T := Lib.hid (Row.new w2 97 [.int .i64 0, .int .i64 0, .int .i64 0, .int .i64 0, .string ⟨#[]⟩, .int .i64 0, .int .i64 0, .string ⟨#[]⟩, .slice none 0 0, .int .i64 0, .int .i64 0, .int .i64 0, .string ⟨#[]⟩, .int .i64 0])
  have HXL := Lib.hid X.out.lt
  have hne : w.heap.size ≠ w2.heap.size := by have := HXL.out; omega
  have x0 := X.out.cell (i := 0) rfl
  have x1 := X.out.cell (i := 1) rfl
  go_wp2_with (refine store_row T.out [.int .i64 1, .int .i64 t, .int .i64 0, .int .i64 0, .string ⟨#[]⟩, .int .i64 0, .int .i64 0, .string ⟨#[]⟩, .slice none 0 0, .int .i64 0, .int .i64 0, .int .i64 0, .string ⟨#[]⟩, .int .i64 0] 97 (by kernel_rfl) rfl (by simp [Value.oneCell']) rfl rfl rfl rfl ?_; intro w3 hz kz zz; clear x0 x1; replace X := Lib.hid ((X.out.alloc (.cells #[.int .i64 0, .int .i64 0, .int .i64 0, .int .i64 0, .string ⟨#[]⟩, .int .i64 0, .int .i64 0, .string ⟨#[]⟩, .slice none 0 0, .int .i64 0, .int .i64 0, .int .i64 0, .string ⟨#[]⟩, .int .i64 0] 97)).chg kz hne); have HW := Lib.hid (show w.heap.size ≤ w2.heap.size from B.out.size); replace B := Lib.hid ((B.out.alloc B.out.size (.cells #[.int .i64 0, .int .i64 0, .int .i64 0, .int .i64 0, .string ⟨#[]⟩, .int .i64 0, .int .i64 0, .string ⟨#[]⟩, .slice none 0 0, .int .i64 0, .int .i64 0, .int .i64 0, .string ⟨#[]⟩, .int .i64 0] 97)).trans (kz.below (B := w.heap.size) (by have := B.out.size; simp; omega) (fun i e => by have e : i = w2.heap.size := e; have := B.out.size; omega))); replace T := Lib.hid hz; clear hz kz zz; have x0 := X.out.cell (i := 0) rfl; have x8 := X.out.cell (i := 8) rfl; have t8 := T.out.cell (i := 8) rfl; have g8 := T.out.frozen 8 (by simp))
  go_ret2
  exact ⟨rfl, B.out.setCell (p := ⟨w2.heap.size, 8, none⟩) HW.out _⟩
theorem wish_bad_head {x : Wsh} (h : oneBad x.k = true ∨ oneBad x.t = true ∨ x.k < 1 ∨ 10 < x.k) : x.bad = true := by
  unfold Wsh.bad
  rcases h with h | h | h | h
  · simp [h]
  · simp [h]
  · have a : x.k ≠ 1 := by omega
    have b : ¬ (x.k = 2 ∨ x.k = 4 ∨ x.k = 6) := by omega
    have c : x.k ≠ 3 := by omega
    have d : ¬ (x.k = 5 ∨ x.k = 7) := by omega
    have e : ¬ (x.k = 9 ∨ x.k = 10) := by omega
    have f : x.k ≠ 8 := by omega
    simp [a, b, c, d, e, f]
  · have a : x.k ≠ 1 := by omega
    have b : ¬ (x.k = 2 ∨ x.k = 4 ∨ x.k = 6) := by omega
    have c : x.k ≠ 3 := by omega
    have d : ¬ (x.k = 5 ∨ x.k = 7) := by omega
    have e : ¬ (x.k = 9 ∨ x.k = 10) := by omega
    have f : x.k ≠ 8 := by omega
    simp [a, b, c, d, e, f]
theorem refwishes_calls (x : Wsh) (w : World) (hV : Vs w x.ra x.row) (hf : x.fits) (hl : x.row.length ≤ 1000) :
    Calls Try.prog 103 #[.agg x.cells.toArray] w fun e w' => WPost x e ∧ Below w.heap.size w w' := by
  by_cases hb : oneBad x.k = true ∨ oneBad x.t = true ∨ x.k < 1 ∨ 10 < x.k
  · have hbad := wish_bad_head hb
    obtain ⟨k, t, ⟨kk, kn, ks⟩, ⟨hk, hn, hs⟩, ra, rc, row, c, ⟨vk, vn, vs⟩, wn⟩ := x
    exact (rw_bad k t kk kn ks hs vs hk hn ra row.length rc c vk vn wn w hb).mono fun e w' h => ⟨by rw [h.1]; exact wpost_no hbad, h.2⟩
  · obtain ⟨k, t, ⟨kk, kn, ks⟩, ⟨hk, hn, hs⟩, ra, rc, row, c, ⟨vk, vn, vs⟩, wn⟩ := x
    simp only [not_or, Bool.not_eq_true] at hb hV hl
    obtain ⟨h1, h2, h3, h4⟩ := hb
    rcases (by omega : k = 1 ∨ k = 2 ∨ k = 3 ∨ k = 4 ∨ k = 5 ∨ k = 6 ∨ k = 7 ∨ k = 8 ∨ k = 9 ∨ k = 10) with rfl | rfl | rfl | rfl | rfl | rfl | rfl | rfl | rfl | rfl
    · by_cases h5 : row.length ≤ 4
      · exact rw_1 t kk kn hk hn c vk vn wn ks hs vs ra rc row w hV hf hl h2 h5
      · exact (rw_14 t kk kn hk hn c vk vn wn ks hs vs ra rc row w h2 (by omega)).mono fun e w' h => ⟨by rw [h.1]; exact wpost_no (by simp [Wsh.bad, show 4 < row.length from by omega]), h.2⟩
    · exact rw_2 t kk kn hk hn c vk vn wn ks hs vs ra rc row w hV hf hl h2
    · exact rw_3 t kk kn hk hn c vk vn wn ks hs vs ra rc row w hV hf hl h2
    · exact rw_4 t kk kn hk hn c vk vn wn ks hs vs ra rc row w hV hf hl h2
    · exact rw_5 t kk kn hk hn c vk vn wn ks hs vs ra rc row w hV hf hl h2
    · exact rw_6 t kk kn hk hn c vk vn wn ks hs vs ra rc row w hV hf hl h2
    · exact rw_7 t kk kn hk hn c vk vn wn ks hs vs ra rc row w hV hf hl h2
    · exact rw_8 t kk kn hk hn c vk vn wn ks hs vs ra rc row w hV hf hl h2
    · exact rw_9 t kk kn hk hn c vk vn wn ks hs vs ra rc row w hV hf hl h2
    · exact rw_10 t kk kn hk hn c vk vn wn ks hs vs ra rc row w hV hf hl h2
end Go.Proofs.Ytcfjooeagfollaa.Bill
