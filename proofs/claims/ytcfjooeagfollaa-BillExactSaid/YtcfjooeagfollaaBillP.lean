/- The pen of bill: one, long, values. -/
import Derived.Test.YtcfjooeagfollaaBillD
import Derived.Test.YtcfjooeagfollaaRegApp
namespace Go.Proofs.Ytcfjooeagfollaa.Bill
open Go.RowKit Go.Proofs.Ytcfjooeagfollaa.Mem Go.Proofs.Ytcfjooeagfollaa.Bytes Go.Proofs.Ytcfjooeagfollaa.Num Go.Proofs.Ytcfjooeagfollaa.Sign
set_option linter.unusedSimpArgs false
set_option linter.unusedVariables false
set_option maxRecDepth 20000

theorem pen_lies : BldX.Lies 188 1 := by unfold BldX.Lies; kernel_rfl
abbrev Pen (w : World) (F : Nat → Prop) (b : Nat) (l : List UInt8) (bad : Bool) : Prop := BldX.Is w F 188 b l [.bool bad]
theorem Pen.flag {w : World} {F : Nat → Prop} {b : Nat} {l : List UInt8} {bad : Bool} (h : Pen w F b l bad) : w.cell? ⟨b, 2, none⟩ = some (.bool bad) ∧ w.frozen? ⟨b, 2, none⟩ = false := BldX.Is.cellX h (i := 0) rfl
theorem Pen.set {w : World} {F : Nat → Prop} {b : Nat} {l : List UInt8} {bad : Bool} (h : Pen w F b l bad) (c : Bool) : Pen (w.setCell ⟨b, 2, none⟩ (.bool c)) F b l c ∧ Chg (BldX.Own F b) w (w.setCell ⟨b, 2, none⟩ (.bool c)) := BldX.Is.setX h 0 (.bool c)

set_option maxHeartbeats 2000000 in
theorem one_calls (F : Nat → Prop) (b : Nat) (l : List UInt8) (bad : Bool) (n : Int) (w : World) (h : Pen w F b l bad) (hl : l.length ≤ 90000000) :
    Calls Try.prog 151 #[.pointer (some ⟨b, 0, none⟩), .int .i64 n] w fun e w' => e = .returned (.tuple #[]) ∧ Pen w' F b (l ++ [oneB n]) (bad || oneBad n) ∧ Chg (BldX.Own F b) w w' := by
  have hby := oneB_mod n
  obtain ⟨c2, f2⟩ := h.flag
  obtain ⟨r, hr⟩ : ∃ r, (bad || oneBad n) = r := ⟨_, rfl⟩
  rw [hr]
  have P := Lib.hid (h.set r).1
  have C := Lib.hid (h.set r).2
  have BC := Lib.hid (fun wx hx => BldX.byte_calls F 188 [.bool r] pen_lies b l (oneB n) wx hx (by omega))
  clear h
  cases bad
  · by_cases c1 : n < 0
    · obtain rfl : r = true := by rw [← hr]; simp [oneBad, c1]
      clear hr
      go_enter Try.func151, Try.ntmps151
      go_wp2_with fail
      refine (BC.out _ P.out).mono ?_
      rintro e w3 ⟨rfl, h3, k3⟩
      have H3 := Lib.hid h3
      have K3 := Lib.hid (C.out.trans k3)
      clear h3 k3
      go_wp2_with fail
      go_end0
      exact ⟨rfl, H3.out, K3.out⟩
    · have c1' : decide (n < 0) = false := by simp; omega
      by_cases d1 : 255 < n
      · obtain rfl : r = true := by rw [← hr]; simp [oneBad, d1]
        clear hr c1
        go_enter Try.func151, Try.ntmps151
        go_wp2_with fail
        refine (BC.out _ P.out).mono ?_
        rintro e w3 ⟨rfl, h3, k3⟩
        have H3 := Lib.hid h3
        have K3 := Lib.hid (C.out.trans k3)
        clear h3 k3
        go_wp2_with fail
        go_end0
        exact ⟨rfl, H3.out, K3.out⟩
      · have d1' : decide (255 < n) = false := by simp; omega
        obtain rfl : r = false := by rw [← hr]; simp [oneBad, c1, d1]
        clear hr c1 d1
        go_enter Try.func151, Try.ntmps151
        go_wp2_with fail
        refine (BC.out _ P.out).mono ?_
        rintro e w3 ⟨rfl, h3, k3⟩
        have H3 := Lib.hid h3
        have K3 := Lib.hid (C.out.trans k3)
        clear h3 k3
        go_wp2_with fail
        go_end0
        exact ⟨rfl, H3.out, K3.out⟩
  · obtain rfl : r = true := by rw [← hr]; simp
    clear hr
    go_enter Try.func151, Try.ntmps151
    go_wp2_with fail
    refine (BC.out _ P.out).mono ?_
    rintro e w3 ⟨rfl, h3, k3⟩
    have H3 := Lib.hid h3
    have K3 := Lib.hid (C.out.trans k3)
    clear h3 k3
    go_wp2_with fail
    go_end0
    exact ⟨rfl, H3.out, K3.out⟩

set_option maxHeartbeats 2000000 in
theorem long_calls (F : Nat → Prop) (b : Nat) (l : List UInt8) (bad : Bool) (n : Int) (w : World) (h : Pen w F b l bad) (hl : l.length ≤ 90000000) :
    Calls Try.prog 153 #[.pointer (some ⟨b, 0, none⟩), .int .i64 n] w fun e w' => e = .returned (.tuple #[]) ∧ Pen w' F b (l ++ le (u64 n) 8) bad ∧ Chg (BldX.Own F b) w w' := by
  have hx : IntKind.u64.wrap n = ((u64 n : Nat) : Int) := by
    rw [wrap_u64]
    unfold u64
    omega
  generalize u64 n = u at *
  go_enter Try.func153, Try.ntmps153
  go_wp2_with fail
  go_loopw [5] (fun i wr => ∃ j : Nat, j ≤ 8 ∧ i = .int .i64 j ∧ Pen wr F b (l ++ le u j) bad ∧ Chg (BldX.Own F b) w wr) (fun i _ => 8 - (intOf i).toNat)
  case atStart => exact ⟨0, by omega, rfl, by simpa [le] using h, Chg.refl _ _⟩
  case round =>
    clear h
    obtain ⟨j, hj, rfl, h, hc⟩ := hrel
    by_cases hlt : j < 8
    · have hll : (l ++ le u j).length ≤ 100000000 := by rw [List.length_append, le_length]; omega
      have P := Lib.hid h.drew
      have C := Lib.hid hc.drew
      have i1 : IntKind.i64.wrap (8 * (j : Int)) = 8 * (j : Int) := IntWalk.i64_in _ (by omega)
      have hby : IntKind.u8.wrap ((u : Int) / 2 ^ (8 * (j : Int)).toNat) = ((UInt8.ofNat (u / 256 ^ j)).toNat : Int) := by
        have e : (256 : Nat) ^ j = 2 ^ (8 * j) := by rw [show (256 : Nat) = 2 ^ 8 from rfl, ← Nat.pow_mul]
        rw [e, show (8 * (j : Int)).toNat = 8 * j by omega]
        simp [IntKind.wrap, IntKind.bits, IntKind.signed]
      have BC := Lib.hid (fun wx hx => BldX.byte_calls F 188 [.bool bad] pen_lies b (l ++ le u j) (UInt8.ofNat (u / 256 ^ j)) wx hx hll)
      clear h hc
      go_wp2_with fail
      refine Reg.start (fun w' => True) (fun i => false) (by kernel_rfl) trivial (fun hHeld => ?_)
      generalize wr.drew = wd at *
      refine Reg.takeI 0 (v := ?_) rfl (by kernel_rfl) (by kernel_rfl) (by kernel_rfl) (by kernel_rfl) (fun _ _ _ h => h) (by rfl) ?_ hHeld ?_
      rotate_left 1
      · (intro w hSw; (try dsimp only at hSw); go_simp; try with_reducible rfl)
      try simp only [Act.put, List.setIfInBounds_toArray, List.set_cons_zero, List.set_cons_succ]
      refine Reg.takeI 3 (v := ?_) rfl (by kernel_rfl) (by kernel_rfl) (by kernel_rfl) (by kernel_rfl) (fun _ _ _ h => h) (by rfl) ?_ hHeld ?_
      rotate_left 1
      · (intro w hSw; (try dsimp only at hSw); go_simp; try with_reducible rfl)
      try simp only [Act.put, List.setIfInBounds_toArray, List.set_cons_zero, List.set_cons_succ]
      refine Reg.takeI 4 (v := ?_) rfl (by kernel_rfl) (by kernel_rfl) (by kernel_rfl) (by kernel_rfl) (fun _ _ _ h => h) (by rfl) ?_ hHeld ?_
      rotate_left 1
      · (intro w hSw; (try dsimp only at hSw); go_simp; try with_reducible rfl)
      try simp only [Act.put, List.setIfInBounds_toArray, List.set_cons_zero, List.set_cons_succ]
      refine Reg.takeI 5 (v := ?_) rfl (by kernel_rfl) (by kernel_rfl) (by kernel_rfl) (by kernel_rfl) (fun _ _ _ h => h) (by rfl) ?_ hHeld ?_
      rotate_left 1
      · (intro w hSw; (try dsimp only at hSw); go_simp; try with_reducible rfl)
      try simp only [Act.put, List.setIfInBounds_toArray, List.set_cons_zero, List.set_cons_succ]
      refine Reg.takeI 6 (v := ?_) rfl (by kernel_rfl) (by kernel_rfl) (by kernel_rfl) (by kernel_rfl) (fun _ _ _ h => h) (by rfl) ?_ hHeld ?_
      rotate_left 1
      · (intro w hSw; (try dsimp only at hSw); go_simp; try with_reducible rfl)
      try simp only [Act.put, List.setIfInBounds_toArray, List.set_cons_zero, List.set_cons_succ]
      refine Reg.takeI 7 (v := ?_) rfl (by kernel_rfl) (by kernel_rfl) (by kernel_rfl) (by kernel_rfl) (fun _ _ _ h => h) (by rfl) ?_ hHeld ?_
      rotate_left 1
      · (intro w hSw; (try dsimp only at hSw); go_simp; try with_reducible rfl)
      try simp only [Act.put, List.setIfInBounds_toArray, List.set_cons_zero, List.set_cons_succ]
      refine Reg.takeI 8 (v := ?_) rfl (by kernel_rfl) (by kernel_rfl) (by kernel_rfl) (by kernel_rfl) (fun _ _ _ h => h) (by rfl) ?_ hHeld ?_
      rotate_left 1
      · (intro w hSw; (try dsimp only at hSw); go_simp; try with_reducible rfl)
      try simp only [Act.put, List.setIfInBounds_toArray, List.set_cons_zero, List.set_cons_succ]
      refine Reg.oneI 1 rfl (by kernel_rfl) (by rfl) (fun K hK => ?_)
      go_simp
      refine hK.out _ _ (fun _ => trivial) (fun hHeld => ?_)
      replace hHeld := hHeld (by first | rfl | trivial)
      clear hK K
      try simp only [Act.put, List.setIfInBounds_toArray, List.set_cons_zero, List.set_cons_succ]
      refine Reg.takeI 2 (v := ?_) rfl (by kernel_rfl) (by kernel_rfl) (by kernel_rfl) (by kernel_rfl) (fun _ _ _ h => h) (by rfl) ?_ hHeld ?_
      rotate_left 1
      · (intro w hSw; (try dsimp only at hSw); go_simp; try with_reducible rfl)
      try simp only [Act.put, List.setIfInBounds_toArray, List.set_cons_zero, List.set_cons_succ]
      refine Reg.oneI 9 rfl (by kernel_rfl) (by rfl) (fun K hK => ?_)
      go_simp
      go_at_call 174
      refine (BC.out _ P.out).mono ?_
      rintro e w3 ⟨rfl, h3, k3⟩
      have P3 := Lib.hid h3
      have C3 := Lib.hid (C.out.trans k3)
      clear h3 k3
      go_wp2_with fail
      refine hK.out _ _ (fun _ => trivial) (fun hHeld => ?_)
      replace hHeld := hHeld (by first | rfl | trivial)
      clear hK K
      try simp only [Act.put, List.setIfInBounds_toArray, List.set_cons_zero, List.set_cons_succ]
      refine Reg.doneI (by kernel_rfl) ?_
      go_wp2_with fail
      exact ⟨⟨j + 1, by omega, by go_num, by rw [le, ← List.append_assoc]; exact P3.out, C3.out⟩, by simp [intOf]; omega⟩
    · obtain rfl : j = 8 := by omega
      go_wp2
      go_end0
      exact ⟨rfl, h, hc⟩
theorem vs_chg {w w' : World} {a : Option Addr} {l : List V} {S : Nat → Prop} (h : Vs w a l) (hc : Chg S w w') (hn : ∀ ad, a = some ad → l ≠ [] → ¬ S ad.block) : Vs w' a l := by
  intro i hi
  have hne : l ≠ [] := fun e => by rw [e] at hi; cases hi
  obtain ⟨ad, ha, hl, hx⟩ := h i hi
  refine ⟨ad, ha, Nat.lt_of_lt_of_le hl hc.size, fun w2 h2 => ?_⟩
  have key : ∀ (x : Addr) (v : Value), x.block = ad.block → w.cell? x = some v → w2.cell? x = some v := fun x v hxb hv => by
    have e1 : w2.heap[x.block]? = w.heap[x.block]? := (h2.block x.block (by rw [hxb]; exact Nat.lt_of_lt_of_le hl hc.size)).trans (hc.block x.block (by rw [hxb]; exact hl) (by rw [hxb]; exact hn ad ha hne))
    rw [← hv]
    unfold World.cell?
    rw [e1]
  have hb : (ad.add (i * 3)).block = ad.block := by unfold Addr.add; split <;> rfl
  obtain ⟨c0, c1, c2⟩ := hx w (Below.refl _ _)
  exact ⟨key _ _ hb c0, key _ _ hb c1, key _ _ hb c2⟩
theorem vals_take {l : List V} {k : Nat} (h : k < l.length) : vals (l.take (k + 1)) = vals (l.take k) ++ (codeOut l[k]).1 := by
  rw [List.take_succ_eq_append_getElem h]
  unfold vals
  rw [List.flatMap_append]
  simp only [List.flatMap_cons, List.flatMap_nil, List.append_nil]
theorem valsBad_take {l : List V} {k : Nat} (h : k < l.length) : valsBad (l.take (k + 1)) = (valsBad (l.take k) || !l[k].good) := by
  rw [List.take_succ_eq_append_getElem h]
  unfold valsBad
  rw [List.any_append]
  simp only [List.any_cons, List.any_nil, Bool.or_false]
set_option maxHeartbeats 4000000 in
theorem values_calls (F : Nat → Prop) (b : Nat) (l : List UInt8) (bad : Bool) (vs : List V) (a : Option Addr) (cap : Nat) (w : World) (h : Pen w F b l bad) (hV : Vs w a vs) (hn : ∀ ad, a = some ad → vs ≠ [] → ¬ BldX.Own F b ad.block) (hf : ∀ v ∈ vs, v.fits) (hl : l.length + 9 * vs.length ≤ 90000000) :
    Calls Try.prog 175 #[.pointer (some ⟨b, 0, none⟩), .slice a vs.length cap] w fun e w' => e = .returned (.tuple #[]) ∧ Pen w' F b (l ++ vals vs) (bad || valsBad vs) ∧ Chg (BldX.Own F b) w w' := by
  have VV := Lib.hid hV
  have HN := Lib.hid hn
  have HF := Lib.hid hf
  clear hV hn hf
  go_enter Try.func175, Try.ntmps175
  go_wp2_with fail
  go_loopw [10] (fun i wr => ∃ k : Nat, k ≤ vs.length ∧ i = .int .i64 k ∧ Pen wr F b (l ++ vals (vs.take k)) (bad || valsBad (vs.take k)) ∧ Chg (BldX.Own F b) w wr) (fun i _ => vs.length - (intOf i).toNat)
  case atStart => exact ⟨0, by omega, rfl, by simpa [vals, valsBad] using h, Chg.refl _ _⟩
  case round =>
    clear h
    obtain ⟨k, hk, rfl, h, hc⟩ := hrel
    by_cases hlt : k < vs.length
    · have hlt' : (k : Int) < (vs.length : Int) := by omega
      obtain ⟨ad, e, _, hx⟩ := vs_chg VV.out hc HN.out k hlt
      obtain ⟨z0, z1, z2⟩ := hx _ (Below.refl _ _)
      have hll : (l ++ vals (vs.take k)).length ≤ 90000000 := by
        have := vals_len (vs.take k)
        rw [List.length_append]
        rw [List.length_take] at this
        omega
      have hvt := vals_take hlt
      have hvb := valsBad_take hlt
      have hfk := HF.out _ (List.getElem_mem hlt)
      obtain ⟨L, hL⟩ : ∃ L, l ++ vals (vs.take k) = L := ⟨_, rfl⟩
      obtain ⟨D, hD⟩ : ∃ D, (bad || valsBad (vs.take k)) = D := ⟨_, rfl⟩
      rw [hL] at hll h
      rw [hD] at h
      have HVT : l ++ vals (vs.take (k + 1)) = L ++ (codeOut vs[k]).1 := by rw [hvt, ← List.append_assoc, hL]
      have HVB : (bad || valsBad (vs.take (k + 1))) = (D || !vs[k].good) := by rw [hvb, ← Bool.or_assoc, hD]
      have T1 := Lib.hid HVT
      have T2 := Lib.hid HVB
      have hsz : ((codeOut vs[k]).1).length ≤ 9 := by
        have := vals_len [vs[k]]
        simpa [vals] using this
      have CC := Lib.hid (fun wx => code_calls vs[k] wx hfk)
      clear hvt hvb hL hD HVT HVB hx hfk
      generalize vs[k] = v at *
      obtain ⟨vk, vn, s⟩ := v
      obtain ⟨x, hx⟩ : ∃ x, codeOut (⟨vk, vn, s⟩ : V) = x := ⟨_, rfl⟩
      have hx2 : x.2 = if (V.good ⟨vk, vn, s⟩) then 0 else 1 := by rw [← hx]; unfold codeOut; split <;> rfl
      rw [hx] at CC T1 hsz
      obtain ⟨y, c⟩ := x
      simp only at z0 z1 z2 hx2 hsz
      have P := Lib.hid (BldX.Is.alloc h (.cells #[.int .i64 vk, .int .i64 vn, .string s] 81))
      have C := Lib.hid (hc.alloc (.cells #[.int .i64 vk, .int .i64 vn, .string s] 81))
      clear h hc hx
      have X := Lib.hid (Row.new wr 81 [.int .i64 vk, .int .i64 vn, .string s])
      have x0 := X.out.cell (i := 0) rfl
      have x1 := X.out.cell (i := 1) rfl
      have x2 := X.out.cell (i := 2) rfl
      subst e
      go_wp2_with fail
      refine (CC.out _).mono ?_
      rintro e w3 ⟨rfl, k3⟩
      replace P := Lib.hid (BldX.Is.below P.out k3)
      replace C := Lib.hid (C.out.next (Chg.of_below (S := fun _ => False) k3) (fun _ _ x => x.elim))
      clear k3 x0 x1 x2 z0 z1 z2 X CC
      obtain ⟨c2, f2⟩ := Pen.flag P.out
      have PS := Lib.hid (fun r => Pen.set P.out r)
      cases D
      · generalize V.good ⟨vk, vn, s⟩ = g at *
        cases g
        · obtain rfl : c = 1 := hx2
          have P2 := Lib.hid (PS.out true).1
          have C2 := Lib.hid (C.out.trans (PS.out true).2)
          have SC := Lib.hid (fun wx hx => BldX.string_calls F 188 [.bool true] pen_lies b L (bs y) wx hx (by omega) (by rw [bs_size]; omega))
          go_wp2_with fail
          refine (SC.out _ P2.out).mono ?_
          rintro e w4 ⟨rfl, h4, k4⟩
          have P4 := Lib.hid h4
          have C4 := Lib.hid (C2.out.trans k4)
          clear h4 k4
          go_wp2_with fail
          exact ⟨⟨k + 1, by omega, by go_num, by rw [T1.out, T2.out]; exact P4.out, C4.out⟩, by simp [intOf]; omega⟩
        · obtain rfl : c = 0 := hx2
          have P2 := Lib.hid (PS.out false).1
          have C2 := Lib.hid (C.out.trans (PS.out false).2)
          have SC := Lib.hid (fun wx hx => BldX.string_calls F 188 [.bool false] pen_lies b L (bs y) wx hx (by omega) (by rw [bs_size]; omega))
          go_wp2_with fail
          refine (SC.out _ P2.out).mono ?_
          rintro e w4 ⟨rfl, h4, k4⟩
          have P4 := Lib.hid h4
          have C4 := Lib.hid (C2.out.trans k4)
          clear h4 k4
          go_wp2_with fail
          exact ⟨⟨k + 1, by omega, by go_num, by rw [T1.out, T2.out]; exact P4.out, C4.out⟩, by simp [intOf]; omega⟩
      · clear hx2
        have P2 := Lib.hid (PS.out true).1
        have C2 := Lib.hid (C.out.trans (PS.out true).2)
        have SC := Lib.hid (fun wx hx => BldX.string_calls F 188 [.bool true] pen_lies b L (bs y) wx hx (by omega) (by rw [bs_size]; omega))
        go_wp2_with fail
        refine (SC.out _ P2.out).mono ?_
        rintro e w4 ⟨rfl, h4, k4⟩
        have P4 := Lib.hid h4
        have C4 := Lib.hid (C2.out.trans k4)
        clear h4 k4
        go_wp2_with fail
        exact ⟨⟨k + 1, by omega, by go_num, by rw [T1.out, T2.out, Bool.true_or]; exact P4.out, C4.out⟩, by simp [intOf]; omega⟩
    · obtain rfl : k = vs.length := by omega
      rw [List.take_length] at h
      go_wp2
      go_end0
      exact ⟨rfl, h, hc⟩
end Go.Proofs.Ytcfjooeagfollaa.Bill
