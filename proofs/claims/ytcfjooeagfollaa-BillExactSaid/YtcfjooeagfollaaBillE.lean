/- The eye of bill: take, number, one, value. -/
import Derived.Test.YtcfjooeagfollaaBillD
import Derived.Test.YtcfjooeagfollaaSignRead
import Derived.Test.YtcfjooeagfollaaWide
namespace Go.Proofs.Ytcfjooeagfollaa.Bill
open Go.RowKit Go.Proofs.Ytcfjooeagfollaa.Mem Go.Proofs.Ytcfjooeagfollaa.Bytes Go.Proofs.Ytcfjooeagfollaa.Num Go.Proofs.Ytcfjooeagfollaa.Sign
set_option linter.unusedSimpArgs false
set_option linter.unusedVariables false
set_option maxRecDepth 20000

/-- What is left, and whether there was too little. -/
abbrev St := List UInt8 × Bool
def eTake (s : St) (n : Nat) : List UInt8 × St := if s.1.length < n then ([], (s.1, true)) else (s.1.take n, (s.1.drop n, s.2))
def eNum (s : St) (k : Nat) : Int × St := (wrap64 (lev (eTake s k).1 : Int), (eTake s k).2)
theorem eTake_len (s : St) (n : Nat) : (eTake s n).1.length ≤ n := by
  unfold eTake
  split
  · simp
  · simp [List.length_take]; omega
theorem eTake_rest (s : St) (n : Nat) : (eTake s n).2.1.length ≤ s.1.length := by
  unfold eTake
  split <;> simp
theorem or_shift (a x j : Nat) (ha : a < 256 ^ j) (hx : x < 256) (hj : j ≤ 7) : Go.bits .or .u64 (a : Int) (IntKind.u64.wrap ((x : Int) * 2 ^ (8 * j))) = ((a + x * 256 ^ j : Nat) : Int) := by
  have e : (256 : Nat) ^ j = 2 ^ (8 * j) := by rw [show (256 : Nat) = 2 ^ 8 from rfl, ← Nat.pow_mul]
  have hp : (256 : Nat) ^ j ≤ 256 ^ 7 := Nat.pow_le_pow_right (by omega) hj
  have hlt : x * 256 ^ j ≤ 255 * 256 ^ 7 := Nat.mul_le_mul (by omega) hp
  have hw : IntKind.u64.wrap ((x : Int) * 2 ^ (8 * j)) = ((x * 256 ^ j : Nat) : Int) := by
    have : ((x : Int) * 2 ^ (8 * j)) = ((x * 256 ^ j : Nat) : Int) := by rw [e]; simp
    rw [this, wrap_u64]
    generalize x * 256 ^ j = y at *
    omega
  rw [hw]
  have hk : ∀ n : Int, 0 ≤ n → n < 2 ^ 64 → IntKind.u64.wrap n = n := fun n h0 h1 => by
    rw [wrap_u64]
    omega
  have hb := (bits_nat .u64 64 (by decide) hk a (x * 256 ^ j) (by omega) (by omega)).2
  rw [hb]
  congr 1
  rw [e] at ha ⊢
  rw [Nat.or_comm, Nat.mul_comm x, Nat.add_comm, Nat.two_pow_add_eq_or_of_lt ha]

/-- Block b is an eye. -/
abbrev Eye (w : World) (b : Nat) (s : St) : Prop := Row w b 194 [.string (bs s.1), .bool s.2]

set_option maxHeartbeats 400000 in
theorem take_calls (b : Nat) (s : St) (n : Nat) (w : World) (h : Eye w b s) (hn : n ≤ 9223372036854775807) (hs : s.1.length ≤ 9223372036854775807) :
    Calls Try.prog 177 #[.pointer (some ⟨b, 0, none⟩), .int .i64 (n : Int)] w fun e w' => e = .returned (.string (bs (eTake s n).1)) ∧ Eye w' b (eTake s n).2 ∧ Chg (One b) w w' := by
  obtain ⟨l, bad⟩ := s
  have x0 := h.cell (i := 0) rfl
  have x1 := h.cell (i := 1) rfl
  have f0 := h.frozen 0 (by simp)
  have f1 := h.frozen 1 (by simp)
  have hsz : (bs l).size = l.length := rfl
  by_cases hlt : l.length < n
  · have e : eTake (l, bad) n = ([], (l, true)) := by simp [eTake, hlt]
    rw [e]
    have hq : (bs l).size < n := hlt
    have H := Lib.hid h
    clear h e hsz
    go_enter Try.func177, Try.ntmps177
    go_wp2
    go_ret
    exact ⟨rfl, (H.out.set 1 _).cast rfl, (Chg.refl _ _).put _ _⟩
  · have e : eTake (l, bad) n = (l.take n, (l.drop n, bad)) := by simp [eTake, hlt]
    rw [e]
    have hq : ¬ (bs l).size < n := hlt
    have hq' : n ≤ (bs l).size := Nat.le_of_not_lt hlt
    have e1 : (bs l).extract 0 n = bs (l.take n) := extract_take _ _
    have e2 : (bs l).extract n (bs l).size = bs (l.drop n) := extract_drop _ _
    have H := Lib.hid h
    have E1 := Lib.hid e1
    have E2 := Lib.hid e2
    clear h e hsz e1 e2
    go_enter Try.func177, Try.ntmps177
    go_wp2
    go_ret
    exact ⟨by rw [E1.out]; rfl, (H.out.set 0 _).cast (by rw [E2.out]; rfl), (Chg.refl _ _).put _ _⟩

set_option maxHeartbeats 1000000 in
theorem enum_calls (b : Nat) (s : St) (k : Nat) (w : World) (h : Eye w b s) (hk : k ≤ 8) (hs : s.1.length ≤ 9223372036854775807) :
    Calls Try.prog 157 #[.pointer (some ⟨b, 0, none⟩), .int .i64 (k : Int)] w fun e w' => e = .returned (.int .i64 (eNum s k).1) ∧ Eye w' b (eNum s k).2 ∧ Chg (One b) w w' := by
  have hlen := eTake_len s k
  have he : eNum s k = (wrap64 (lev (eTake s k).1 : Int), (eTake s k).2) := rfl
  have ht := take_calls b s k w h (by omega) hs
  rw [he]
  clear he
  generalize eTake s k = q at *
  obtain ⟨l, s1⟩ := q
  have hl : l.length ≤ k := hlen
  go_enter Try.func157, Try.ntmps157
  go_wp2_with fail
  refine ht.mono ?_
  rintro e w1 ⟨rfl, h1, hc1⟩
  obtain ⟨c, w2, hrun, hcc, hrow, hbl, hsz⟩ := run_bytes (P := Try.prog) w1 9 112 5 (bs l) Try.underlying9 Try.underlying112 Try.underlying5
  have h2 := h1.below hbl h1.lt
  have hc2 := hc1.next (Chg.of_below (S := One b) hbl) (fun k hk x => x)
  have HC := Lib.hid hc2
  have HR := Lib.hid hrow
  have HSZ := Lib.hid hsz
  have H2 := Lib.hid h2
  clear hc1 hc2 hrow h1 h2 hbl h hsz
  rw [bs_size] at hcc hrun
  go_wp2_with fail
  go_loop [5, 13] (fun q i => ∃ j : Nat, j ≤ l.length ∧ i = .int .i64 j ∧ q = .int .u64 (lev (l.take j) : Int)) (fun q i => l.length - (intOf i).toNat)
  case atStart => exact ⟨0, by omega, rfl, by simp [lev]⟩
  case round =>
    obtain ⟨j, hj, rfl, rfl⟩ := hrel
    by_cases hlt : j < l.length
    · have hx := HR.out.cell (i := j) (v := .int .u8 (l[j].toNat : Int)) (by rw [bs_data, List.getElem?_append_left (by rw [List.length_map]; exact hlt)]; simp [hlt, bv])
      have hb0 := l[j].toNat_lt
      have hlv := lev_lt (l.take j)
      rw [List.length_take_of_le hj] at hlv
      have hor := or_shift (lev (l.take j)) l[j].toNat j hlv hb0 (by omega)
      have hsn : lev (l.take (j + 1)) = lev (l.take j) + l[j].toNat * 256 ^ j := by
        rw [List.take_succ_eq_append_getElem hlt, lev_snoc, List.length_take_of_le hj]
      rw [← hsn] at hor
      have HOR := Lib.hid hor
      clear hor hsn hlv
      go_wp2_with fail
      exact ⟨⟨j + 1, by omega, by go_num, by rw [HOR.out]⟩, by simp [intOf]; omega⟩
    · obtain rfl : j = l.length := by omega
      rw [List.take_length]
      go_wp2
      go_ret
      exact ⟨rfl, H2.out, HC.out⟩
theorem eTake_app (x t : List UInt8) (b : Bool) (n : Nat) (h : x.length = n) : eTake (x ++ t, b) n = (x, (t, b)) := by
  unfold eTake
  simp only [List.length_append]
  rw [if_neg (by omega)]
  subst h
  simp
theorem eTake_inv {l x l' : List UInt8} {b : Bool} {n : Nat} (h : eTake (l, b) n = (x, (l', false))) : b = false ∧ l = x ++ l' ∧ x.length = n := by
  unfold eTake at h
  split at h
  · simp at h
  · rename_i hlt
    simp only [Prod.mk.injEq] at h
    obtain ⟨rfl, rfl, rfl⟩ := h
    exact ⟨rfl, by simp, by simp at hlt; simp; omega⟩

/-- The next byte's number. -/
def eOne (s : St) : Nat × St := (lev (eTake s 1).1, (eTake s 1).2)
theorem eOne_lt (s : St) : (eOne s).1 < 256 := by
  have h := lev_lt (eTake s 1).1
  have := Nat.pow_le_pow_right (show 0 < 256 by omega) (eTake_len s 1)
  exact Nat.lt_of_lt_of_le h this
theorem eOne_num (s : St) : eNum s 1 = (((eOne s).1 : Int), (eOne s).2) := by
  have h := eOne_lt s
  unfold eNum
  have e : lev (eTake s 1).1 = (eOne s).1 := rfl
  rw [e]
  have : wrap64 (((eOne s).1 : Nat) : Int) = (((eOne s).1 : Nat) : Int) := by unfold wrap64; omega
  rw [this]
  rfl
theorem one_reads (b : Nat) (s : St) (w : World) (h : Eye w b s) (hs : s.1.length ≤ 9223372036854775807) :
    Calls Try.prog 155 #[.pointer (some ⟨b, 0, none⟩)] w fun e w' => e = .returned (.int .i64 ((eOne s).1 : Int)) ∧ Eye w' b (eOne s).2 ∧ Chg (One b) w w' := by
  have hc := enum_calls b s 1 w h (by omega) hs
  rw [eOne_num] at hc
  go_enter Try.func155, Try.ntmps155
  go_wp2_with fail
  refine hc.mono ?_
  rintro e w1 ⟨rfl, h1, k1⟩
  have H1 := Lib.hid h1
  have K1 := Lib.hid k1
  clear h1 k1 hc h
  go_wp2_with fail
  go_ret
  exact ⟨rfl, H1.out, K1.out⟩
/-- The next value. -/
def eVal (s : St) : V × St := ((readOut (eTake s 9).1).1, ((eTake s 9).2.1, (eTake s 9).2.2 || decide ((readOut (eTake s 9).1).2 ≠ 0)))
theorem eVal_rest (s : St) : (eVal s).2.1.length ≤ s.1.length := eTake_rest s 9
theorem readOut_two (l : List UInt8) : (readOut l).2 = 0 ∨ (readOut l).2 = 3 := by
  cases h : readV l with
  | none => rw [readOut_none h]; exact .inr rfl
  | some v => rw [readOut_some h]; exact .inl rfl
set_option maxHeartbeats 2000000 in
theorem value_reads (b : Nat) (s : St) (w : World) (h : Eye w b s) (hs : s.1.length ≤ 9223372036854775000) :
    Calls Try.prog 176 #[.pointer (some ⟨b, 0, none⟩)] w fun e w' => e = .returned (eVal s).1.val ∧ Eye w' b (eVal s).2 ∧ Chg (One b) w w' := by
  have hR := Row.new w 81 [.int .i64 0, .int .i64 0, .string ⟨#[]⟩]
  have hE := h.alloc (.cells #[.int .i64 0, .int .i64 0, .string ⟨#[]⟩] 81)
  have hlt := h.lt
  have ht := take_calls b s 9 _ hE (by omega) (by omega)
  have hv : eVal s = ((readOut (eTake s 9).1).1, ((eTake s 9).2.1, (eTake s 9).2.2 || decide ((readOut (eTake s 9).1).2 ≠ 0))) := rfl
  have h9 := eTake_len s 9
  rw [hv]
  clear hv
  generalize eTake s 9 = q at *
  obtain ⟨l, l1, bad⟩ := q
  simp only at h9
  have hrd := fun wx => read_calls (bs l) wx (by rw [bs_size]; omega)
  have h2 := readOut_two l
  obtain ⟨o, ho⟩ : ∃ o, readOut l = o := ⟨_, rfl⟩
  have e1 : (bs l).data.toList = l := rfl
  rw [e1, ho] at hrd
  rw [ho] at h2 ⊢
  obtain ⟨⟨vk, vn, vs⟩, c⟩ := o
  have TK := Lib.hid ht
  have RD := Lib.hid (show ∀ wx, Calls Try.prog 143 #[.string (bs l)] wx fun e w' => e = .returned (.tuple #[.agg #[.int .i64 vk, .int .i64 vn, .string vs], .int .i64 c]) ∧ Below wx.heap.size wx w' from hrd)
  have HR := Lib.hid hR
  have H2 := Lib.hid h2
  clear ho hrd ht hE h e1 hR h2
  go_enter Try.func176, Try.ntmps176
  go_wp2_with fail
  refine TK.out.mono ?_
  rintro e w1 ⟨rfl, h1, k1⟩
  have E1 := Lib.hid h1
  have K1 := Lib.hid (((Chg.refl (One b) w).alloc (.cells #[.int .i64 0, .int .i64 0, .string ⟨#[]⟩] 81)).trans k1)
  have R1 := Lib.hid (HR.out.chg k1 (fun e => by have e : w.heap.size = b := e; omega))
  clear h1 k1
  go_wp2_with fail
  refine (RD.out _).mono ?_
  rintro e w2 ⟨rfl, k2⟩
  have E2 := Lib.hid ((E1.out.below k2 E1.out.lt).alloc (.cells #[.int .i64 vk, .int .i64 vn, .string vs] 81))
  have K2 := Lib.hid ((K1.out.next (Chg.of_below (S := fun _ => False) k2) (fun _ _ x => x.elim)).alloc (.cells #[.int .i64 vk, .int .i64 vn, .string vs] 81))
  have R2 := Lib.hid ((R1.out.below k2 R1.out.lt).alloc (.cells #[.int .i64 vk, .int .i64 vn, .string vs] 81))
  have X2 := Lib.hid (Row.new w2 81 [.int .i64 vk, .int .i64 vn, .string vs])
  have LT := Lib.hid (Nat.lt_of_lt_of_le hlt (show w.heap.size ≤ w2.heap.size from by have a := R1.out.lt; have c := k2.size; omega))
  have LS := Lib.hid (show w.heap.size < w2.heap.size from by have a := R1.out.lt; have c := k2.size; omega)
  clear k2
  have f1 := E2.out.frozen 1 (by simp)
  have y1 := E2.out.cell (i := 1) rfl
  have hne : ¬ b = w2.heap.size := by have := LT.out; omega
  have hne' : ¬ w.heap.size = w2.heap.size := by have := LS.out; omega
  have hne2 : ¬ w.heap.size = b := by omega
  obtain ⟨r, hr⟩ : ∃ r, (bad || decide (c ≠ 0)) = r := ⟨_, rfl⟩
  have E3 := Lib.hid ((E2.out.set 1 (.bool r)).cast (cs' := [.string (bs l1), .bool r]) rfl)
  have R3 := Lib.hid (R2.out.set_ne ⟨b, 1, none⟩ (.bool r) (fun e => hne2 e.symm))
  have X3 := Lib.hid (X2.out.set_ne ⟨b, 1, none⟩ (.bool r) (fun e => hne e))
  have K3 := Lib.hid (K2.out.put 1 (.bool r))
  have HRR := Lib.hid hr
  clear hr
  cases bad
  · rcases H2.out with e | e
    · have e : c = 0 := e
      subst e
      obtain rfl : r = false := HRR.out.symm
      go_wp2_with (first | (refine load_row X3.out 81 Try.underlying81 rfl (by kernel_rfl) rfl rfl rfl ?_) | (refine store_row R3.out [.int .i64 vk, .int .i64 vn, .string vs] 81 (by kernel_rfl) rfl (by simp [Value.oneCell']) rfl rfl rfl rfl ?_; intro w4 h4 k4 z4))
      have H4 := Lib.hid h4
      have E4 := Lib.hid (E3.out.chg k4 (fun e => hne2 (show b = w.heap.size from e).symm))
      have K4 := Lib.hid (K3.out.next k4 (fun k hk e => by have e : k = w.heap.size := e; omega))
      clear h4 k4 z4
      exact ret_row H4.out Try.results176 Try.underlying81 rfl (by kernel_rfl) rfl rfl ⟨rfl, E4.out, K4.out⟩
    · have e : c = 3 := e
      subst e
      obtain rfl : r = true := HRR.out.symm
      go_wp2_with (first | (refine load_row X3.out 81 Try.underlying81 rfl (by kernel_rfl) rfl rfl rfl ?_) | (refine store_row R3.out [.int .i64 vk, .int .i64 vn, .string vs] 81 (by kernel_rfl) rfl (by simp [Value.oneCell']) rfl rfl rfl rfl ?_; intro w4 h4 k4 z4))
      have H4 := Lib.hid h4
      have E4 := Lib.hid (E3.out.chg k4 (fun e => hne2 (show b = w.heap.size from e).symm))
      have K4 := Lib.hid (K3.out.next k4 (fun k hk e => by have e : k = w.heap.size := e; omega))
      clear h4 k4 z4
      exact ret_row H4.out Try.results176 Try.underlying81 rfl (by kernel_rfl) rfl rfl ⟨rfl, E4.out, K4.out⟩
  · obtain rfl : r = true := by rw [← HRR.out]; rfl
    go_wp2_with (first | (refine load_row X3.out 81 Try.underlying81 rfl (by kernel_rfl) rfl rfl rfl ?_) | (refine store_row R3.out [.int .i64 vk, .int .i64 vn, .string vs] 81 (by kernel_rfl) rfl (by simp [Value.oneCell']) rfl rfl rfl rfl ?_; intro w4 h4 k4 z4))
    have H4 := Lib.hid h4
    have E4 := Lib.hid (E3.out.chg k4 (fun e => hne2 (show b = w.heap.size from e).symm))
    have K4 := Lib.hid (K3.out.next k4 (fun k hk e => by have e : k = w.heap.size := e; omega))
    clear h4 k4 z4
    exact ret_row H4.out Try.results176 Try.underlying81 rfl (by kernel_rfl) rfl rfl ⟨rfl, E4.out, K4.out⟩
end Go.Proofs.Ytcfjooeagfollaa.Bill
