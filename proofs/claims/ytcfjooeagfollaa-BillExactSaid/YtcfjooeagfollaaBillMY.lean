/- Merged by merge.py out of BillRB, BillRR, BillU, BillI, BillJ, BillLawX. -/
import Derived.Test.YtcfjooeagfollaaBillMX
import Derived.Test.YtcfjooeagfollaaBillM
import Derived.Test.YtcfjooeagfollaaBillQ
import Derived.Test.YtcfjooeagfollaaPlanI
/- gaugerref26.Bytes. Printed by bill_refmove.py -/
namespace Go.Proofs.Ytcfjooeagfollaa.Bill
open Go.RowKit Go.Proofs.Ytcfjooeagfollaa.Mem Go.Proofs.Ytcfjooeagfollaa.Bytes Go.Proofs.Ytcfjooeagfollaa.Num Go.Proofs.Ytcfjooeagfollaa.Sign
set_option linter.unusedSimpArgs false
set_option linter.unusedVariables false
set_option maxRecDepth 20000

def MPost (m : Mv) (e : Ending) : Prop := ∃ (s : ByteArray) (r : Bool), e = .returned (.tuple #[.string s, .bool r]) ∧ (r = true ↔ m.good = true) ∧ (r = true → s = bs m.bytes) ∧ s.size ≤ 100000
theorem mpost_no {m : Mv} {s : ByteArray} (h : ¬ (m.bad = false ∧ m.told.eqv m)) (hz : s.size ≤ 100000) : MPost m (.returned (.tuple #[.string s, .bool false])) :=
  ⟨s, false, rfl, ⟨fun e => (by cases e), fun e => absurd ((good_iff m).1 e) h⟩, fun e => (by cases e), hz⟩
theorem meqv_symm {x y : Mv} (h : x.eqv y) : y.eqv x := ⟨h.1.symm, h.2.1.symm, h.2.2.1.symm, weqv_symm h.2.2.2.1, h.2.2.2.2.1.symm, h.2.2.2.2.2.symm⟩
theorem mpost_is {m y : Mv} {s : ByteArray} {r : Bool} (hr : r = true ↔ m.eqv y) (hg : (m.bad = false ∧ m.told.eqv m) ↔ m.eqv y) (hs : m.eqv y → s = bs m.bytes) (hz : s.size ≤ 100000) : MPost m (.returned (.tuple #[.string s, .bool r])) :=
  ⟨s, r, rfl, by rw [good_iff, hg]; exact hr, fun e => hs (hr.1 e), hz⟩
theorem str1_at {c : UInt8} {k : Int} (hk : (c.toNat : Int) = k) (w : World) : (convert 112 9 (.slice (some ⟨w.heap.size, 0, none⟩) 1 1)).run Try.prog (w.alloc (.cells #[.int .u8 k] 5)) = .ok (.string (bs [c])) (w.alloc (.cells #[.int .u8 k] 5)) := by
  subst hk
  exact run_str1 c w
theorem nbad_zero {n : Int} (h : oneBad n = true) : n ≠ 0 := by
  rintro rfl
  exact absurd h (by decide)
theorem weqv_noW (x : Wsh) : x.eqv noW ↔ noW.eqv x := ⟨weqv_symm, weqv_symm⟩

set_option maxHeartbeats 8000000 in
theorem rb_14 (n wk wt kk kn hk hn c vk vn wn p q : Int) (ks hs vs : ByteArray) (ra : Option Addr) (rc : Nat) (row : List V) (w : World) (hV : Vs w ra row) (hf : ((⟨wk, wt, ⟨kk, kn, ks⟩, ⟨hk, hn, hs⟩, ra, rc, row, c, ⟨vk, vn, vs⟩, wn⟩ : Wsh)).fits) (hl : row.length ≤ 1000) :
    Calls Try.prog 44 #[.agg #[.int .i64 1, .int .i64 n, .int .i64 4, .int .i64 wk, .int .i64 wt, .int .i64 kk, .int .i64 kn, .string ks, .int .i64 hk, .int .i64 hn, .string hs, .slice ra row.length rc, .int .i64 c, .int .i64 vk, .int .i64 vn, .string vs, .int .i64 wn, .int .i64 p, .int .i64 q]] w fun e w' => MPost (⟨1, n, 4, (⟨wk, wt, ⟨kk, kn, ks⟩, ⟨hk, hn, hs⟩, ra, rc, row, c, ⟨vk, vn, vs⟩, wn⟩ : Wsh), p, q⟩ : Mv) e ∧ Below w.heap.size w w' := by
  obtain ⟨c1, hc1⟩ : ∃ c, oneB 1 = c := ⟨_, rfl⟩
  obtain ⟨c2, hc2⟩ : ∃ c, oneB n = c := ⟨_, rfl⟩
  obtain ⟨r2, hr2⟩ : ∃ r, oneBad n = !r := ⟨!oneBad n, by simp⟩
  have hk1 : (c1.toNat : Int) = 1 := by rw [← hc1]; decide
  have O2 := Lib.hid (one_is hc2 hr2)
  have HK1 := Lib.hid hk1
  have HC1 := Lib.hid hc1
  have HC2 := Lib.hid hc2
  have HR2 := Lib.hid hr2
  have VV := Lib.hid hV
  have HF := Lib.hid hf
  have X := Lib.hid (Row.new w 99 [.int .i64 1, .int .i64 n, .int .i64 4, .int .i64 wk, .int .i64 wt, .int .i64 kk, .int .i64 kn, .string ks, .int .i64 hk, .int .i64 hn, .string hs, .slice ra row.length rc, .int .i64 c, .int .i64 vk, .int .i64 vn, .string vs, .int .i64 wn, .int .i64 p, .int .i64 q])
  have B := Lib.hid ((Below.refl w.heap.size w).alloc (Nat.le_refl _) (.cells #[.int .i64 1, .int .i64 n, .int .i64 4, .int .i64 wk, .int .i64 wt, .int .i64 kk, .int .i64 kn, .string ks, .int .i64 hk, .int .i64 hn, .string hs, .slice ra row.length rc, .int .i64 c, .int .i64 vk, .int .i64 vn, .string vs, .int .i64 wn, .int .i64 p, .int .i64 q] 99))
  have e2 := app2 c1 c2
  have q2 := fit_size (a := [c1]) (b := [c2]) (by simp)
  obtain ⟨c3, hc3⟩ : ∃ x, oneB 4 = x := ⟨_, rfl⟩
  obtain ⟨r3, hr3⟩ : ∃ r, oneBad 4 = !r := ⟨!oneBad 4, by simp⟩
  have O3 := Lib.hid (one_is hc3 hr3)
  have HC3 := Lib.hid hc3
  have HR3 := Lib.hid hr3
  clear hc3 hr3
  have e3 : bs [c1, c2] ++ bs [c3] = bs [c1, c2, c3] := (bs_append [c1, c2] [c3]).symm
  have q3 := fit_size (a := [c1, c2]) (b := [c3]) (by simp)
  obtain rfl : r3 = true := by have := HR3.out; cases r3; exact absurd this (by decide); rfl
  have hne : w.heap.size ≠ w.heap.size + 1 := by omega
  have T := Lib.hid (show Row ((w.alloc (.cells #[.int .i64 1, .int .i64 n, .int .i64 4, .int .i64 wk, .int .i64 wt, .int .i64 kk, .int .i64 kn, .string ks, .int .i64 hk, .int .i64 hn, .string hs, .slice ra row.length rc, .int .i64 c, .int .i64 vk, .int .i64 vn, .string vs, .int .i64 wn, .int .i64 p, .int .i64 q] 99)).alloc (.cells #[.int .i64 0, .int .i64 0, .int .i64 0, .int .i64 0, .int .i64 0, .int .i64 0, .int .i64 0, .string ⟨#[]⟩, .int .i64 0, .int .i64 0, .string ⟨#[]⟩, .slice none 0 0, .int .i64 0, .int .i64 0, .int .i64 0, .string ⟨#[]⟩, .int .i64 0, .int .i64 0, .int .i64 0] 99)) (w.heap.size + 1) 99 [.int .i64 0, .int .i64 0, .int .i64 0, .int .i64 0, .int .i64 0, .int .i64 0, .int .i64 0, .string ⟨#[]⟩, .int .i64 0, .int .i64 0, .string ⟨#[]⟩, .slice none 0 0, .int .i64 0, .int .i64 0, .int .i64 0, .string ⟨#[]⟩, .int .i64 0, .int .i64 0, .int .i64 0] from Wide.new_at (by simp))
  have x0 := X.out.cell (i := 0) rfl
  clear hc1 hc2 hr2 hk1 hV hf
  go_enter Try.func44, Try.ntmps44
  go_wp2_with (refine store_row T.out [.int .i64 1, .int .i64 0, .int .i64 0, .int .i64 0, .int .i64 0, .int .i64 0, .int .i64 0, .string ⟨#[]⟩, .int .i64 0, .int .i64 0, .string ⟨#[]⟩, .slice none 0 0, .int .i64 0, .int .i64 0, .int .i64 0, .string ⟨#[]⟩, .int .i64 0, .int .i64 0, .int .i64 0] 99 (by kernel_rfl) rfl (by simp [Value.oneCell']) rfl rfl rfl rfl ?_; intro w3 hz kz zz; clear x0; replace X := Lib.hid ((X.out.alloc (.cells #[.int .i64 0, .int .i64 0, .int .i64 0, .int .i64 0, .int .i64 0, .int .i64 0, .int .i64 0, .string ⟨#[]⟩, .int .i64 0, .int .i64 0, .string ⟨#[]⟩, .slice none 0 0, .int .i64 0, .int .i64 0, .int .i64 0, .string ⟨#[]⟩, .int .i64 0, .int .i64 0, .int .i64 0] 99)).chg kz hne); replace B := Lib.hid ((B.out.alloc B.out.size (.cells #[.int .i64 0, .int .i64 0, .int .i64 0, .int .i64 0, .int .i64 0, .int .i64 0, .int .i64 0, .string ⟨#[]⟩, .int .i64 0, .int .i64 0, .string ⟨#[]⟩, .slice none 0 0, .int .i64 0, .int .i64 0, .int .i64 0, .string ⟨#[]⟩, .int .i64 0, .int .i64 0, .int .i64 0] 99)).trans (kz.below (B := w.heap.size) (by have := B.out.size; simp; omega) (fun i e => by have e : i = w.heap.size + 1 := e; omega))); replace T := Lib.hid hz; clear hz kz zz; have x0 := X.out.cell (i := 0) rfl; have x1 := (X.out.alloc (.cells #[.int .u8 1] 5)).cell (i := 1) rfl; have cv := str1_at HK1.out w3)
  clear x0 x1 cv
  have HW : w.heap.size ≤ w.heap.size + 1 := by omega
  generalize w.heap.size + 1 = g at *
  replace X := Lib.hid (X.out.alloc (.cells #[.int .u8 1] 5))
  replace T := Lib.hid (T.out.alloc (.cells #[.int .u8 1] 5))
  replace B := Lib.hid (B.out.alloc B.out.size (.cells #[.int .u8 1] 5))
  refine (O2.out _).mono ?_
  rintro e w4 ⟨rfl, k9⟩
  replace X := Lib.hid (X.out.below k9 X.out.lt)
  replace T := Lib.hid (T.out.below k9 T.out.lt)
  replace B := Lib.hid (B.out.trans (k9.mono B.out.size))
  clear k9
  have x0 := X.out.cell (i := 0) rfl
  have y1 := X.out.cell (i := 1) rfl
  have t1 := T.out.cell (i := 1) rfl
  have g1 := T.out.frozen 1 (by simp)
  have y2 := X.out.cell (i := 2) rfl
  have t2 := T.out.cell (i := 2) rfl
  have g2 := T.out.frozen 2 (by simp)
  have XS := Lib.hid ((X.out.set_ne ⟨g, 1, none⟩ (.int .i64 n) (Ne.symm hne)).set_ne ⟨g, 2, none⟩ (.int .i64 4) (Ne.symm hne))
  have TS := Lib.hid (((T.out.set 1 (.int .i64 n)).set 2 (.int .i64 4)).cast (cs' := [.int .i64 1, .int .i64 n, .int .i64 4, .int .i64 0, .int .i64 0, .int .i64 0, .int .i64 0, .string ⟨#[]⟩, .int .i64 0, .int .i64 0, .string ⟨#[]⟩, .slice none 0 0, .int .i64 0, .int .i64 0, .int .i64 0, .string ⟨#[]⟩, .int .i64 0, .int .i64 0, .int .i64 0]) rfl)
  have BS := Lib.hid ((B.out.setCell (p := ⟨g, 1, none⟩) HW (.int .i64 n)).setCell (p := ⟨g, 2, none⟩) HW (.int .i64 4))
  go_wp2_with fail
  replace X := XS
  replace T := TS
  replace B := BS
  clear y1 t1 g1 y2 t2 g2
  clear x0
  refine (O3.out _).mono ?_
  rintro e w5 ⟨rfl, k9⟩
  replace X := Lib.hid (X.out.below k9 X.out.lt)
  replace T := Lib.hid (T.out.below k9 T.out.lt)
  replace B := Lib.hid (B.out.trans (k9.mono B.out.size))
  clear k9
  have x2 := X.out.cell (i := 2) rfl
  cases r2
  · have HQ := HR2
    go_wp2_with fail
    go_ret2
    exact ⟨mpost_no (fun h => by have h1 := h.1; simp [Mv.bad, HQ.out, show oneBad 1 = false from by decide] at h1) (by first | exact Nat.zero_le _ | (rw [bs_size]; simp; done) | (rw [bs_size]; simp only [List.length_cons, List.length_nil, List.length_append]; omega)), B.out⟩
  go_wp2_with (refine load_part [.int .i64 1, .int .i64 n, .int .i64 4] [.int .i64 wk, .int .i64 wt, .int .i64 kk, .int .i64 kn, .string ks, .int .i64 hk, .int .i64 hn, .string hs, .slice ra row.length rc, .int .i64 c, .int .i64 vk, .int .i64 vn, .string vs, .int .i64 wn] [.int .i64 p, .int .i64 q] X.out 97 Try.underlying97 rfl (by kernel_rfl) rfl rfl 3 rfl rfl ?_)
  have WC := refwishes_calls (⟨wk, wt, ⟨kk, kn, ks⟩, ⟨hk, hn, hs⟩, ra, rc, row, c, ⟨vk, vn, vs⟩, wn⟩ : Wsh) _ (VV.out.keep B.out) HF.out (by simp only; omega)
  replace WC := Lib.hid (show Calls Try.prog 103 #[.agg #[.int .i64 wk, .int .i64 wt, .int .i64 kk, .int .i64 kn, .string ks, .int .i64 hk, .int .i64 hn, .string hs, .slice ra row.length rc, .int .i64 c, .int .i64 vk, .int .i64 vn, .string vs, .int .i64 wn]] _ _ from WC)
  refine WC.out.mono ?_
  rintro e w6 ⟨⟨xw, r4, rfl, hw1, hw2⟩, k9⟩
  replace X := Lib.hid (X.out.below k9 X.out.lt)
  replace T := Lib.hid (T.out.below k9 T.out.lt)
  replace B := Lib.hid (B.out.trans (k9.mono B.out.size))
  have HW1 := Lib.hid hw1
  have HW2 := Lib.hid hw2
  clear k9 hw1 hw2 WC x2
  cases r4
  · have HQ := Lib.hid (mt HW1.out.2 (by decide))
    go_wp2_with fail
    go_ret2
    exact ⟨mpost_no (fun h => HQ.out ⟨by have h1 := h.1; simp [Mv.bad, HR2.out, HR3.out, show oneBad 1 = false from by decide] at h1; exact h1, by have h2 := h.2.2.2.2.1; simp [Mv.told] at h2; exact h2⟩) (by first | exact Nat.zero_le _ | (rw [bs_size]; simp; done) | (rw [bs_size]; simp only [List.length_cons, List.length_nil, List.length_append]; omega)), B.out⟩
  have HX := Lib.hid (HW2.out rfl)
  have HY := Lib.hid (HW1.out.1 rfl)
  clear HW1 HW2
  obtain ⟨bw, hbw⟩ : ∃ l, Wsh.bytes (⟨wk, wt, ⟨kk, kn, ks⟩, ⟨hk, hn, hs⟩, ra, rc, row, c, ⟨vk, vn, vs⟩, wn⟩ : Wsh) = l := ⟨_, rfl⟩
  have hbl := wbytes_len (⟨wk, wt, ⟨kk, kn, ks⟩, ⟨hk, hn, hs⟩, ra, rc, row, c, ⟨vk, vn, vs⟩, wn⟩ : Wsh) (by simp only; omega)
  rw [hbw] at HX hbl
  obtain rfl : xw = bs bw := HX.out
  have HBW := Lib.hid hbw
  have e5 : bs [c1, c2, c3] ++ bs bw = bs (c1 :: c2 :: c3 :: bw) := (bs_append [c1, c2, c3] bw).symm
  have q5 := fit_size (a := [c1, c2, c3]) (b := bw) (by simp only [List.length_cons, List.length_nil]; omega)
  clear HX hbw
  go_wp2_with (first | (refine load_part [.int .i64 1, .int .i64 n, .int .i64 4] [.int .i64 wk, .int .i64 wt, .int .i64 kk, .int .i64 kn, .string ks, .int .i64 hk, .int .i64 hn, .string hs, .slice ra row.length rc, .int .i64 c, .int .i64 vk, .int .i64 vn, .string vs, .int .i64 wn] [.int .i64 p, .int .i64 q] X.out 97 Try.underlying97 rfl (by kernel_rfl) rfl rfl 3 rfl rfl ?_) | (refine store_part [.int .i64 1, .int .i64 n, .int .i64 4] [.int .i64 0, .int .i64 0, .int .i64 0, .int .i64 0, .string ⟨#[]⟩, .int .i64 0, .int .i64 0, .string ⟨#[]⟩, .slice none 0 0, .int .i64 0, .int .i64 0, .int .i64 0, .string ⟨#[]⟩, .int .i64 0] [.int .i64 0, .int .i64 0] T.out [.int .i64 wk, .int .i64 wt, .int .i64 kk, .int .i64 kn, .string ks, .int .i64 hk, .int .i64 hn, .string hs, .slice ra row.length rc, .int .i64 c, .int .i64 vk, .int .i64 vn, .string vs, .int .i64 wn] 97 (by kernel_rfl) rfl (by simp [Value.oneCell']) rfl rfl 3 rfl rfl rfl ?_; intro w8 hR kc hsz; replace X := Lib.hid (X.out.chg kc hne); have TS2 := Lib.hid hR; replace B := Lib.hid (B.out.trans (kc.below (B := w.heap.size) B.out.size (fun i e => by have e : i = g := e; omega))); clear hR kc hsz) | (refine load_row_g X.out 99 Try.underlying99 rfl (by kernel_rfl) (by rfl) rfl rfl ?_) | (refine load_row_g TS2.out 99 Try.underlying99 rfl (by kernel_rfl) (by rfl) rfl rfl ?_))
  have SC := Lib.hid (msame_calls (⟨1, n, 4, (⟨wk, wt, ⟨kk, kn, ks⟩, ⟨hk, hn, hs⟩, ra, rc, row, c, ⟨vk, vn, vs⟩, wn⟩ : Wsh), p, q⟩ : Mv) (⟨1, n, 4, (⟨wk, wt, ⟨kk, kn, ks⟩, ⟨hk, hn, hs⟩, ra, rc, row, c, ⟨vk, vn, vs⟩, wn⟩ : Wsh), 0, 0⟩) _ (VV.out.keep B.out) (VV.out.keep B.out) (by simp only; omega) (by first | (simp [noW, Mv.only]; done) | (simp only; omega)))
  replace SC := Lib.hid (show Calls Try.prog 50 #[.agg #[.int .i64 1, .int .i64 n, .int .i64 4, .int .i64 wk, .int .i64 wt, .int .i64 kk, .int .i64 kn, .string ks, .int .i64 hk, .int .i64 hn, .string hs, .slice ra row.length rc, .int .i64 c, .int .i64 vk, .int .i64 vn, .string vs, .int .i64 wn, .int .i64 p, .int .i64 q], .agg #[.int .i64 1, .int .i64 n, .int .i64 4, .int .i64 wk, .int .i64 wt, .int .i64 kk, .int .i64 kn, .string ks, .int .i64 hk, .int .i64 hn, .string hs, .slice ra row.length rc, .int .i64 c, .int .i64 vk, .int .i64 vn, .string vs, .int .i64 wn, .int .i64 0, .int .i64 0]] _ _ from SC.out)
  refine SC.out.mono ?_
  rintro e w30 ⟨⟨r, hr, rfl⟩, k9⟩
  have BZ := Lib.hid (B.out.trans (k9.mono B.out.size))
  have HR := Lib.hid hr
  clear k9 hr SC
  go_wp2_with fail
  go_ret2
  exact ⟨mpost_is HR.out (by rw [show Mv.bad (⟨1, n, 4, (⟨wk, wt, ⟨kk, kn, ks⟩, ⟨hk, hn, hs⟩, ra, rc, row, c, ⟨vk, vn, vs⟩, wn⟩ : Wsh), p, q⟩ : Mv) = false by simp [Mv.bad, HR2.out, HR3.out, HY.out.1, show oneBad 1 = false from by decide], show Mv.told (⟨1, n, 4, (⟨wk, wt, ⟨kk, kn, ks⟩, ⟨hk, hn, hs⟩, ra, rc, row, c, ⟨vk, vn, vs⟩, wn⟩ : Wsh), p, q⟩ : Mv) = ⟨1, n, 4, Wsh.told (⟨wk, wt, ⟨kk, kn, ks⟩, ⟨hk, hn, hs⟩, ra, rc, row, c, ⟨vk, vn, vs⟩, wn⟩ : Wsh), 0, 0⟩ by simp [Mv.told]]; exact ⟨fun h => ⟨rfl, rfl, rfl, ⟨rfl, rfl, rfl, rfl, rfl, rfl, rfl, rfl⟩, h.2.2.2.2.2.1.symm, h.2.2.2.2.2.2.symm⟩, fun h => ⟨rfl, rfl, rfl, rfl, HY.out.2, h.2.2.2.2.1.symm, h.2.2.2.2.2.symm⟩⟩) (fun _ => by rw [show Mv.bytes (⟨1, n, 4, (⟨wk, wt, ⟨kk, kn, ks⟩, ⟨hk, hn, hs⟩, ra, rc, row, c, ⟨vk, vn, vs⟩, wn⟩ : Wsh), p, q⟩ : Mv) = c1 :: c2 :: c3 :: bw by simp [Mv.bytes, HC1.out, HC2.out, HC3.out, HBW.out]]) (by first | exact Nat.zero_le _ | (rw [bs_size]; simp; done) | (rw [bs_size]; simp only [List.length_cons, List.length_nil, List.length_append]; omega)), BZ.out⟩
set_option maxHeartbeats 8000000 in
theorem rb_1 (n a wk wt kk kn hk hn c vk vn wn p q : Int) (ks hs vs : ByteArray) (ra : Option Addr) (rc : Nat) (row : List V) (w : World) (hV : Vs w ra row) (hf : ((⟨wk, wt, ⟨kk, kn, ks⟩, ⟨hk, hn, hs⟩, ra, rc, row, c, ⟨vk, vn, vs⟩, wn⟩ : Wsh)).fits) (hl : row.length ≤ 1000) (ha : a ≠ 4) :
    Calls Try.prog 44 #[.agg #[.int .i64 1, .int .i64 n, .int .i64 a, .int .i64 wk, .int .i64 wt, .int .i64 kk, .int .i64 kn, .string ks, .int .i64 hk, .int .i64 hn, .string hs, .slice ra row.length rc, .int .i64 c, .int .i64 vk, .int .i64 vn, .string vs, .int .i64 wn, .int .i64 p, .int .i64 q]] w fun e w' => MPost (⟨1, n, a, (⟨wk, wt, ⟨kk, kn, ks⟩, ⟨hk, hn, hs⟩, ra, rc, row, c, ⟨vk, vn, vs⟩, wn⟩ : Wsh), p, q⟩ : Mv) e ∧ Below w.heap.size w w' := by
  obtain ⟨c1, hc1⟩ : ∃ c, oneB 1 = c := ⟨_, rfl⟩
  obtain ⟨c2, hc2⟩ : ∃ c, oneB n = c := ⟨_, rfl⟩
  obtain ⟨r2, hr2⟩ : ∃ r, oneBad n = !r := ⟨!oneBad n, by simp⟩
  have hk1 : (c1.toNat : Int) = 1 := by rw [← hc1]; decide
  have O2 := Lib.hid (one_is hc2 hr2)
  have HK1 := Lib.hid hk1
  have HC1 := Lib.hid hc1
  have HC2 := Lib.hid hc2
  have HR2 := Lib.hid hr2
  have VV := Lib.hid hV
  have HF := Lib.hid hf
  have X := Lib.hid (Row.new w 99 [.int .i64 1, .int .i64 n, .int .i64 a, .int .i64 wk, .int .i64 wt, .int .i64 kk, .int .i64 kn, .string ks, .int .i64 hk, .int .i64 hn, .string hs, .slice ra row.length rc, .int .i64 c, .int .i64 vk, .int .i64 vn, .string vs, .int .i64 wn, .int .i64 p, .int .i64 q])
  have B := Lib.hid ((Below.refl w.heap.size w).alloc (Nat.le_refl _) (.cells #[.int .i64 1, .int .i64 n, .int .i64 a, .int .i64 wk, .int .i64 wt, .int .i64 kk, .int .i64 kn, .string ks, .int .i64 hk, .int .i64 hn, .string hs, .slice ra row.length rc, .int .i64 c, .int .i64 vk, .int .i64 vn, .string vs, .int .i64 wn, .int .i64 p, .int .i64 q] 99))
  have e2 := app2 c1 c2
  have q2 := fit_size (a := [c1]) (b := [c2]) (by simp)
  obtain ⟨c3, hc3⟩ : ∃ x, oneB a = x := ⟨_, rfl⟩
  obtain ⟨r3, hr3⟩ : ∃ r, oneBad a = !r := ⟨!oneBad a, by simp⟩
  have O3 := Lib.hid (one_is hc3 hr3)
  have HC3 := Lib.hid hc3
  have HR3 := Lib.hid hr3
  clear hc3 hr3
  have e3 : bs [c1, c2] ++ bs [c3] = bs [c1, c2, c3] := (bs_append [c1, c2] [c3]).symm
  have q3 := fit_size (a := [c1, c2]) (b := [c3]) (by simp)
  have HA := Lib.hid ha
  have ha4 : ((a : Int) == 4) = false := by simpa using ha
  clear ha
  have hne : w.heap.size ≠ w.heap.size + 1 := by omega
  have T := Lib.hid (show Row ((w.alloc (.cells #[.int .i64 1, .int .i64 n, .int .i64 a, .int .i64 wk, .int .i64 wt, .int .i64 kk, .int .i64 kn, .string ks, .int .i64 hk, .int .i64 hn, .string hs, .slice ra row.length rc, .int .i64 c, .int .i64 vk, .int .i64 vn, .string vs, .int .i64 wn, .int .i64 p, .int .i64 q] 99)).alloc (.cells #[.int .i64 0, .int .i64 0, .int .i64 0, .int .i64 0, .int .i64 0, .int .i64 0, .int .i64 0, .string ⟨#[]⟩, .int .i64 0, .int .i64 0, .string ⟨#[]⟩, .slice none 0 0, .int .i64 0, .int .i64 0, .int .i64 0, .string ⟨#[]⟩, .int .i64 0, .int .i64 0, .int .i64 0] 99)) (w.heap.size + 1) 99 [.int .i64 0, .int .i64 0, .int .i64 0, .int .i64 0, .int .i64 0, .int .i64 0, .int .i64 0, .string ⟨#[]⟩, .int .i64 0, .int .i64 0, .string ⟨#[]⟩, .slice none 0 0, .int .i64 0, .int .i64 0, .int .i64 0, .string ⟨#[]⟩, .int .i64 0, .int .i64 0, .int .i64 0] from Wide.new_at (by simp))
  have x0 := X.out.cell (i := 0) rfl
  clear hc1 hc2 hr2 hk1 hV hf
  go_enter Try.func44, Try.ntmps44
  go_wp2_with (refine store_row T.out [.int .i64 1, .int .i64 0, .int .i64 0, .int .i64 0, .int .i64 0, .int .i64 0, .int .i64 0, .string ⟨#[]⟩, .int .i64 0, .int .i64 0, .string ⟨#[]⟩, .slice none 0 0, .int .i64 0, .int .i64 0, .int .i64 0, .string ⟨#[]⟩, .int .i64 0, .int .i64 0, .int .i64 0] 99 (by kernel_rfl) rfl (by simp [Value.oneCell']) rfl rfl rfl rfl ?_; intro w3 hz kz zz; clear x0; replace X := Lib.hid ((X.out.alloc (.cells #[.int .i64 0, .int .i64 0, .int .i64 0, .int .i64 0, .int .i64 0, .int .i64 0, .int .i64 0, .string ⟨#[]⟩, .int .i64 0, .int .i64 0, .string ⟨#[]⟩, .slice none 0 0, .int .i64 0, .int .i64 0, .int .i64 0, .string ⟨#[]⟩, .int .i64 0, .int .i64 0, .int .i64 0] 99)).chg kz hne); replace B := Lib.hid ((B.out.alloc B.out.size (.cells #[.int .i64 0, .int .i64 0, .int .i64 0, .int .i64 0, .int .i64 0, .int .i64 0, .int .i64 0, .string ⟨#[]⟩, .int .i64 0, .int .i64 0, .string ⟨#[]⟩, .slice none 0 0, .int .i64 0, .int .i64 0, .int .i64 0, .string ⟨#[]⟩, .int .i64 0, .int .i64 0, .int .i64 0] 99)).trans (kz.below (B := w.heap.size) (by have := B.out.size; simp; omega) (fun i e => by have e : i = w.heap.size + 1 := e; omega))); replace T := Lib.hid hz; clear hz kz zz; have x0 := X.out.cell (i := 0) rfl; have x1 := (X.out.alloc (.cells #[.int .u8 1] 5)).cell (i := 1) rfl; have cv := str1_at HK1.out w3)
  clear x0 x1 cv
  have HW : w.heap.size ≤ w.heap.size + 1 := by omega
  generalize w.heap.size + 1 = g at *
  replace X := Lib.hid (X.out.alloc (.cells #[.int .u8 1] 5))
  replace T := Lib.hid (T.out.alloc (.cells #[.int .u8 1] 5))
  replace B := Lib.hid (B.out.alloc B.out.size (.cells #[.int .u8 1] 5))
  refine (O2.out _).mono ?_
  rintro e w4 ⟨rfl, k9⟩
  replace X := Lib.hid (X.out.below k9 X.out.lt)
  replace T := Lib.hid (T.out.below k9 T.out.lt)
  replace B := Lib.hid (B.out.trans (k9.mono B.out.size))
  clear k9
  have x0 := X.out.cell (i := 0) rfl
  have y1 := X.out.cell (i := 1) rfl
  have t1 := T.out.cell (i := 1) rfl
  have g1 := T.out.frozen 1 (by simp)
  have y2 := X.out.cell (i := 2) rfl
  have t2 := T.out.cell (i := 2) rfl
  have g2 := T.out.frozen 2 (by simp)
  have XS := Lib.hid ((X.out.set_ne ⟨g, 1, none⟩ (.int .i64 n) (Ne.symm hne)).set_ne ⟨g, 2, none⟩ (.int .i64 a) (Ne.symm hne))
  have TS := Lib.hid (((T.out.set 1 (.int .i64 n)).set 2 (.int .i64 a)).cast (cs' := [.int .i64 1, .int .i64 n, .int .i64 a, .int .i64 0, .int .i64 0, .int .i64 0, .int .i64 0, .string ⟨#[]⟩, .int .i64 0, .int .i64 0, .string ⟨#[]⟩, .slice none 0 0, .int .i64 0, .int .i64 0, .int .i64 0, .string ⟨#[]⟩, .int .i64 0, .int .i64 0, .int .i64 0]) rfl)
  have BS := Lib.hid ((B.out.setCell (p := ⟨g, 1, none⟩) HW (.int .i64 n)).setCell (p := ⟨g, 2, none⟩) HW (.int .i64 a))
  go_wp2_with fail
  replace X := XS
  replace T := TS
  replace B := BS
  clear y1 t1 g1 y2 t2 g2
  clear x0
  refine (O3.out _).mono ?_
  rintro e w5 ⟨rfl, k9⟩
  replace X := Lib.hid (X.out.below k9 X.out.lt)
  replace T := Lib.hid (T.out.below k9 T.out.lt)
  replace B := Lib.hid (B.out.trans (k9.mono B.out.size))
  clear k9
  have x2 := X.out.cell (i := 2) rfl
  cases r2
  · have HQ := HR2
    go_wp2_with fail
    go_ret2
    exact ⟨mpost_no (fun h => by have h1 := h.1; simp [Mv.bad, HQ.out, show oneBad 1 = false from by decide] at h1) (by first | exact Nat.zero_le _ | (rw [bs_size]; simp; done) | (rw [bs_size]; simp only [List.length_cons, List.length_nil, List.length_append]; omega)), B.out⟩
  cases r3
  · have HQ := HR3
    go_wp2_with fail
    go_ret2
    exact ⟨mpost_no (fun h => by have h1 := h.1; simp [Mv.bad, HQ.out, show oneBad 1 = false from by decide] at h1) (by first | exact Nat.zero_le _ | (rw [bs_size]; simp; done) | (rw [bs_size]; simp only [List.length_cons, List.length_nil, List.length_append]; omega)), B.out⟩
  by_cases h1 : a < 1
  · have d1 : decide (a < 1) = true := by simpa using h1
    go_wp2_with fail
    go_ret2
    exact ⟨mpost_no (fun h => by have h2 := h.1; simp [Mv.bad, h1, show oneBad 1 = false from by decide] at h2) (by first | exact Nat.zero_le _ | (rw [bs_size]; simp; done) | (rw [bs_size]; simp only [List.length_cons, List.length_nil, List.length_append]; omega)), B.out⟩
  have d1 : decide (a < 1) = false := by simpa using h1
  have H1 := Lib.hid h1
  clear h1
  by_cases h4 : 4 < a
  · have d4 : decide (4 < a) = true := by simpa using h4
    go_wp2_with fail
    go_ret2
    exact ⟨mpost_no (fun h => by have h2 := h.1; simp [Mv.bad, h4, show oneBad 1 = false from by decide] at h2) (by first | exact Nat.zero_le _ | (rw [bs_size]; simp; done) | (rw [bs_size]; simp only [List.length_cons, List.length_nil, List.length_append]; omega)), B.out⟩
  have d4 : decide (4 < a) = false := by simpa using h4
  have H4 := Lib.hid h4
  clear h4
  go_wp2_with (first | (refine load_row_g X.out 99 Try.underlying99 rfl (by kernel_rfl) (by rfl) rfl rfl ?_) | (refine load_row_g T.out 99 Try.underlying99 rfl (by kernel_rfl) (by rfl) rfl rfl ?_))
  have SC := Lib.hid (msame_calls (⟨1, n, a, (⟨wk, wt, ⟨kk, kn, ks⟩, ⟨hk, hn, hs⟩, ra, rc, row, c, ⟨vk, vn, vs⟩, wn⟩ : Wsh), p, q⟩ : Mv) (⟨1, n, a, noW, 0, 0⟩) _ (VV.out.keep B.out) (Vs.nil _ _) (by simp only; omega) (by first | (simp [noW, Mv.only]; done) | (simp only; omega)))
  replace SC := Lib.hid (show Calls Try.prog 50 #[.agg #[.int .i64 1, .int .i64 n, .int .i64 a, .int .i64 wk, .int .i64 wt, .int .i64 kk, .int .i64 kn, .string ks, .int .i64 hk, .int .i64 hn, .string hs, .slice ra row.length rc, .int .i64 c, .int .i64 vk, .int .i64 vn, .string vs, .int .i64 wn, .int .i64 p, .int .i64 q], .agg #[.int .i64 1, .int .i64 n, .int .i64 a, .int .i64 0, .int .i64 0, .int .i64 0, .int .i64 0, .string ⟨#[]⟩, .int .i64 0, .int .i64 0, .string ⟨#[]⟩, .slice none 0 0, .int .i64 0, .int .i64 0, .int .i64 0, .string ⟨#[]⟩, .int .i64 0, .int .i64 0, .int .i64 0]] _ _ from SC.out)
  refine SC.out.mono ?_
  rintro e w30 ⟨⟨r, hr, rfl⟩, k9⟩
  have BZ := Lib.hid (B.out.trans (k9.mono B.out.size))
  have HR := Lib.hid hr
  clear k9 hr SC
  go_wp2_with fail
  go_ret2
  exact ⟨mpost_is HR.out (by rw [show Mv.bad (⟨1, n, a, (⟨wk, wt, ⟨kk, kn, ks⟩, ⟨hk, hn, hs⟩, ra, rc, row, c, ⟨vk, vn, vs⟩, wn⟩ : Wsh), p, q⟩ : Mv) = false by simp [Mv.bad, HR2.out, HR3.out, H1.out, H4.out, HA.out, show oneBad 1 = false from by decide], show Mv.told (⟨1, n, a, (⟨wk, wt, ⟨kk, kn, ks⟩, ⟨hk, hn, hs⟩, ra, rc, row, c, ⟨vk, vn, vs⟩, wn⟩ : Wsh), p, q⟩ : Mv) = ⟨1, n, a, noW, 0, 0⟩ by simp [Mv.told, HA.out]]; exact ⟨fun h => meqv_symm h.2, fun h => ⟨rfl, meqv_symm h⟩⟩) (fun _ => by rw [show Mv.bytes (⟨1, n, a, (⟨wk, wt, ⟨kk, kn, ks⟩, ⟨hk, hn, hs⟩, ra, rc, row, c, ⟨vk, vn, vs⟩, wn⟩ : Wsh), p, q⟩ : Mv) = [c1, c2, c3] by simp [Mv.bytes, HC1.out, HC2.out, HC3.out, HA.out]]) (by first | exact Nat.zero_le _ | (rw [bs_size]; simp; done) | (rw [bs_size]; simp only [List.length_cons, List.length_nil, List.length_append]; omega)), BZ.out⟩
set_option maxHeartbeats 8000000 in
theorem rb_2 (n a wk wt kk kn hk hn c vk vn wn p q : Int) (ks hs vs : ByteArray) (ra : Option Addr) (rc : Nat) (row : List V) (w : World) (hV : Vs w ra row) (hf : ((⟨wk, wt, ⟨kk, kn, ks⟩, ⟨hk, hn, hs⟩, ra, rc, row, c, ⟨vk, vn, vs⟩, wn⟩ : Wsh)).fits) (hl : row.length ≤ 1000) :
    Calls Try.prog 44 #[.agg #[.int .i64 2, .int .i64 n, .int .i64 a, .int .i64 wk, .int .i64 wt, .int .i64 kk, .int .i64 kn, .string ks, .int .i64 hk, .int .i64 hn, .string hs, .slice ra row.length rc, .int .i64 c, .int .i64 vk, .int .i64 vn, .string vs, .int .i64 wn, .int .i64 p, .int .i64 q]] w fun e w' => MPost (⟨2, n, a, (⟨wk, wt, ⟨kk, kn, ks⟩, ⟨hk, hn, hs⟩, ra, rc, row, c, ⟨vk, vn, vs⟩, wn⟩ : Wsh), p, q⟩ : Mv) e ∧ Below w.heap.size w w' := by
  obtain ⟨c1, hc1⟩ : ∃ c, oneB 2 = c := ⟨_, rfl⟩
  obtain ⟨c2, hc2⟩ : ∃ c, oneB n = c := ⟨_, rfl⟩
  obtain ⟨r2, hr2⟩ : ∃ r, oneBad n = !r := ⟨!oneBad n, by simp⟩
  have hk1 : (c1.toNat : Int) = 2 := by rw [← hc1]; decide
  have O2 := Lib.hid (one_is hc2 hr2)
  have HK1 := Lib.hid hk1
  have HC1 := Lib.hid hc1
  have HC2 := Lib.hid hc2
  have HR2 := Lib.hid hr2
  have VV := Lib.hid hV
  have HF := Lib.hid hf
  have X := Lib.hid (Row.new w 99 [.int .i64 2, .int .i64 n, .int .i64 a, .int .i64 wk, .int .i64 wt, .int .i64 kk, .int .i64 kn, .string ks, .int .i64 hk, .int .i64 hn, .string hs, .slice ra row.length rc, .int .i64 c, .int .i64 vk, .int .i64 vn, .string vs, .int .i64 wn, .int .i64 p, .int .i64 q])
  have B := Lib.hid ((Below.refl w.heap.size w).alloc (Nat.le_refl _) (.cells #[.int .i64 2, .int .i64 n, .int .i64 a, .int .i64 wk, .int .i64 wt, .int .i64 kk, .int .i64 kn, .string ks, .int .i64 hk, .int .i64 hn, .string hs, .slice ra row.length rc, .int .i64 c, .int .i64 vk, .int .i64 vn, .string vs, .int .i64 wn, .int .i64 p, .int .i64 q] 99))
  have e2 := app2 c1 c2
  have q2 := fit_size (a := [c1]) (b := [c2]) (by simp)
  have hne : w.heap.size ≠ w.heap.size + 1 := by omega
  have T := Lib.hid (show Row ((w.alloc (.cells #[.int .i64 2, .int .i64 n, .int .i64 a, .int .i64 wk, .int .i64 wt, .int .i64 kk, .int .i64 kn, .string ks, .int .i64 hk, .int .i64 hn, .string hs, .slice ra row.length rc, .int .i64 c, .int .i64 vk, .int .i64 vn, .string vs, .int .i64 wn, .int .i64 p, .int .i64 q] 99)).alloc (.cells #[.int .i64 0, .int .i64 0, .int .i64 0, .int .i64 0, .int .i64 0, .int .i64 0, .int .i64 0, .string ⟨#[]⟩, .int .i64 0, .int .i64 0, .string ⟨#[]⟩, .slice none 0 0, .int .i64 0, .int .i64 0, .int .i64 0, .string ⟨#[]⟩, .int .i64 0, .int .i64 0, .int .i64 0] 99)) (w.heap.size + 1) 99 [.int .i64 0, .int .i64 0, .int .i64 0, .int .i64 0, .int .i64 0, .int .i64 0, .int .i64 0, .string ⟨#[]⟩, .int .i64 0, .int .i64 0, .string ⟨#[]⟩, .slice none 0 0, .int .i64 0, .int .i64 0, .int .i64 0, .string ⟨#[]⟩, .int .i64 0, .int .i64 0, .int .i64 0] from Wide.new_at (by simp))
  have x0 := X.out.cell (i := 0) rfl
  clear hc1 hc2 hr2 hk1 hV hf
  go_enter Try.func44, Try.ntmps44
  go_wp2_with (refine store_row T.out [.int .i64 2, .int .i64 0, .int .i64 0, .int .i64 0, .int .i64 0, .int .i64 0, .int .i64 0, .string ⟨#[]⟩, .int .i64 0, .int .i64 0, .string ⟨#[]⟩, .slice none 0 0, .int .i64 0, .int .i64 0, .int .i64 0, .string ⟨#[]⟩, .int .i64 0, .int .i64 0, .int .i64 0] 99 (by kernel_rfl) rfl (by simp [Value.oneCell']) rfl rfl rfl rfl ?_; intro w3 hz kz zz; clear x0; replace X := Lib.hid ((X.out.alloc (.cells #[.int .i64 0, .int .i64 0, .int .i64 0, .int .i64 0, .int .i64 0, .int .i64 0, .int .i64 0, .string ⟨#[]⟩, .int .i64 0, .int .i64 0, .string ⟨#[]⟩, .slice none 0 0, .int .i64 0, .int .i64 0, .int .i64 0, .string ⟨#[]⟩, .int .i64 0, .int .i64 0, .int .i64 0] 99)).chg kz hne); replace B := Lib.hid ((B.out.alloc B.out.size (.cells #[.int .i64 0, .int .i64 0, .int .i64 0, .int .i64 0, .int .i64 0, .int .i64 0, .int .i64 0, .string ⟨#[]⟩, .int .i64 0, .int .i64 0, .string ⟨#[]⟩, .slice none 0 0, .int .i64 0, .int .i64 0, .int .i64 0, .string ⟨#[]⟩, .int .i64 0, .int .i64 0, .int .i64 0] 99)).trans (kz.below (B := w.heap.size) (by have := B.out.size; simp; omega) (fun i e => by have e : i = w.heap.size + 1 := e; omega))); replace T := Lib.hid hz; clear hz kz zz; have x0 := X.out.cell (i := 0) rfl; have x1 := (X.out.alloc (.cells #[.int .u8 2] 5)).cell (i := 1) rfl; have cv := str1_at HK1.out w3)
  clear x0 x1 cv
  have HW : w.heap.size ≤ w.heap.size + 1 := by omega
  generalize w.heap.size + 1 = g at *
  replace X := Lib.hid (X.out.alloc (.cells #[.int .u8 2] 5))
  replace T := Lib.hid (T.out.alloc (.cells #[.int .u8 2] 5))
  replace B := Lib.hid (B.out.alloc B.out.size (.cells #[.int .u8 2] 5))
  refine (O2.out _).mono ?_
  rintro e w4 ⟨rfl, k9⟩
  replace X := Lib.hid (X.out.below k9 X.out.lt)
  replace T := Lib.hid (T.out.below k9 T.out.lt)
  replace B := Lib.hid (B.out.trans (k9.mono B.out.size))
  clear k9
  have x0 := X.out.cell (i := 0) rfl
  have y1 := X.out.cell (i := 1) rfl
  have t1 := T.out.cell (i := 1) rfl
  have g1 := T.out.frozen 1 (by simp)
  have XS := Lib.hid (X.out.set_ne ⟨g, 1, none⟩ (.int .i64 n) (Ne.symm hne))
  have TS := Lib.hid ((T.out.set 1 (.int .i64 n)).cast (cs' := [.int .i64 2, .int .i64 n, .int .i64 0, .int .i64 0, .int .i64 0, .int .i64 0, .int .i64 0, .string ⟨#[]⟩, .int .i64 0, .int .i64 0, .string ⟨#[]⟩, .slice none 0 0, .int .i64 0, .int .i64 0, .int .i64 0, .string ⟨#[]⟩, .int .i64 0, .int .i64 0, .int .i64 0]) rfl)
  have BS := Lib.hid (B.out.setCell (p := ⟨g, 1, none⟩) HW (.int .i64 n))
  cases r2
  · have HQ := HR2
    go_wp2_with fail
    go_ret2
    exact ⟨mpost_no (fun h => by have h1 := h.1; simp [Mv.bad, HQ.out, show oneBad 2 = false from by decide] at h1) (by first | exact Nat.zero_le _ | (rw [bs_size]; simp; done) | (rw [bs_size]; simp only [List.length_cons, List.length_nil, List.length_append]; omega)), BS.out⟩
  go_wp2_with (first | (refine load_row_g XS.out 99 Try.underlying99 rfl (by kernel_rfl) (by rfl) rfl rfl ?_) | (refine load_row_g TS.out 99 Try.underlying99 rfl (by kernel_rfl) (by rfl) rfl rfl ?_))
  have SC := Lib.hid (msame_calls (⟨2, n, a, (⟨wk, wt, ⟨kk, kn, ks⟩, ⟨hk, hn, hs⟩, ra, rc, row, c, ⟨vk, vn, vs⟩, wn⟩ : Wsh), p, q⟩ : Mv) (⟨2, n, 0, noW, 0, 0⟩) _ (VV.out.keep BS.out) (Vs.nil _ _) (by simp only; omega) (by first | (simp [noW, Mv.only]; done) | (simp only; omega)))
  replace SC := Lib.hid (show Calls Try.prog 50 #[.agg #[.int .i64 2, .int .i64 n, .int .i64 a, .int .i64 wk, .int .i64 wt, .int .i64 kk, .int .i64 kn, .string ks, .int .i64 hk, .int .i64 hn, .string hs, .slice ra row.length rc, .int .i64 c, .int .i64 vk, .int .i64 vn, .string vs, .int .i64 wn, .int .i64 p, .int .i64 q], .agg #[.int .i64 2, .int .i64 n, .int .i64 0, .int .i64 0, .int .i64 0, .int .i64 0, .int .i64 0, .string ⟨#[]⟩, .int .i64 0, .int .i64 0, .string ⟨#[]⟩, .slice none 0 0, .int .i64 0, .int .i64 0, .int .i64 0, .string ⟨#[]⟩, .int .i64 0, .int .i64 0, .int .i64 0]] _ _ from SC.out)
  refine SC.out.mono ?_
  rintro e w30 ⟨⟨r, hr, rfl⟩, k9⟩
  have BZ := Lib.hid (BS.out.trans (k9.mono BS.out.size))
  have HR := Lib.hid hr
  clear k9 hr SC
  go_wp2_with fail
  go_ret2
  exact ⟨mpost_is HR.out (by rw [show Mv.bad (⟨2, n, a, (⟨wk, wt, ⟨kk, kn, ks⟩, ⟨hk, hn, hs⟩, ra, rc, row, c, ⟨vk, vn, vs⟩, wn⟩ : Wsh), p, q⟩ : Mv) = false by simp [Mv.bad, HR2.out, show oneBad 2 = false from by decide], show Mv.told (⟨2, n, a, (⟨wk, wt, ⟨kk, kn, ks⟩, ⟨hk, hn, hs⟩, ra, rc, row, c, ⟨vk, vn, vs⟩, wn⟩ : Wsh), p, q⟩ : Mv) = ⟨2, n, 0, noW, 0, 0⟩ by simp [Mv.told]]; exact ⟨fun h => meqv_symm h.2, fun h => ⟨rfl, meqv_symm h⟩⟩) (fun _ => by rw [show Mv.bytes (⟨2, n, a, (⟨wk, wt, ⟨kk, kn, ks⟩, ⟨hk, hn, hs⟩, ra, rc, row, c, ⟨vk, vn, vs⟩, wn⟩ : Wsh), p, q⟩ : Mv) = [c1, c2] by simp [Mv.bytes, HC1.out, HC2.out]]) (by first | exact Nat.zero_le _ | (rw [bs_size]; simp; done) | (rw [bs_size]; simp only [List.length_cons, List.length_nil, List.length_append]; omega)), BZ.out⟩
set_option maxHeartbeats 8000000 in
theorem rb_3 (n a wk wt kk kn hk hn c vk vn wn p q : Int) (ks hs vs : ByteArray) (ra : Option Addr) (rc : Nat) (row : List V) (w : World) (hV : Vs w ra row) (hf : ((⟨wk, wt, ⟨kk, kn, ks⟩, ⟨hk, hn, hs⟩, ra, rc, row, c, ⟨vk, vn, vs⟩, wn⟩ : Wsh)).fits) (hl : row.length ≤ 1000) :
    Calls Try.prog 44 #[.agg #[.int .i64 3, .int .i64 n, .int .i64 a, .int .i64 wk, .int .i64 wt, .int .i64 kk, .int .i64 kn, .string ks, .int .i64 hk, .int .i64 hn, .string hs, .slice ra row.length rc, .int .i64 c, .int .i64 vk, .int .i64 vn, .string vs, .int .i64 wn, .int .i64 p, .int .i64 q]] w fun e w' => MPost (⟨3, n, a, (⟨wk, wt, ⟨kk, kn, ks⟩, ⟨hk, hn, hs⟩, ra, rc, row, c, ⟨vk, vn, vs⟩, wn⟩ : Wsh), p, q⟩ : Mv) e ∧ Below w.heap.size w w' := by
  obtain ⟨c1, hc1⟩ : ∃ c, oneB 3 = c := ⟨_, rfl⟩
  obtain ⟨c2, hc2⟩ : ∃ c, oneB n = c := ⟨_, rfl⟩
  obtain ⟨r2, hr2⟩ : ∃ r, oneBad n = !r := ⟨!oneBad n, by simp⟩
  have hk1 : (c1.toNat : Int) = 3 := by rw [← hc1]; decide
  have O2 := Lib.hid (one_is hc2 hr2)
  have HK1 := Lib.hid hk1
  have HC1 := Lib.hid hc1
  have HC2 := Lib.hid hc2
  have HR2 := Lib.hid hr2
  have VV := Lib.hid hV
  have HF := Lib.hid hf
  have X := Lib.hid (Row.new w 99 [.int .i64 3, .int .i64 n, .int .i64 a, .int .i64 wk, .int .i64 wt, .int .i64 kk, .int .i64 kn, .string ks, .int .i64 hk, .int .i64 hn, .string hs, .slice ra row.length rc, .int .i64 c, .int .i64 vk, .int .i64 vn, .string vs, .int .i64 wn, .int .i64 p, .int .i64 q])
  have B := Lib.hid ((Below.refl w.heap.size w).alloc (Nat.le_refl _) (.cells #[.int .i64 3, .int .i64 n, .int .i64 a, .int .i64 wk, .int .i64 wt, .int .i64 kk, .int .i64 kn, .string ks, .int .i64 hk, .int .i64 hn, .string hs, .slice ra row.length rc, .int .i64 c, .int .i64 vk, .int .i64 vn, .string vs, .int .i64 wn, .int .i64 p, .int .i64 q] 99))
  have e2 := app2 c1 c2
  have q2 := fit_size (a := [c1]) (b := [c2]) (by simp)
  have hne : w.heap.size ≠ w.heap.size + 1 := by omega
  have T := Lib.hid (show Row ((w.alloc (.cells #[.int .i64 3, .int .i64 n, .int .i64 a, .int .i64 wk, .int .i64 wt, .int .i64 kk, .int .i64 kn, .string ks, .int .i64 hk, .int .i64 hn, .string hs, .slice ra row.length rc, .int .i64 c, .int .i64 vk, .int .i64 vn, .string vs, .int .i64 wn, .int .i64 p, .int .i64 q] 99)).alloc (.cells #[.int .i64 0, .int .i64 0, .int .i64 0, .int .i64 0, .int .i64 0, .int .i64 0, .int .i64 0, .string ⟨#[]⟩, .int .i64 0, .int .i64 0, .string ⟨#[]⟩, .slice none 0 0, .int .i64 0, .int .i64 0, .int .i64 0, .string ⟨#[]⟩, .int .i64 0, .int .i64 0, .int .i64 0] 99)) (w.heap.size + 1) 99 [.int .i64 0, .int .i64 0, .int .i64 0, .int .i64 0, .int .i64 0, .int .i64 0, .int .i64 0, .string ⟨#[]⟩, .int .i64 0, .int .i64 0, .string ⟨#[]⟩, .slice none 0 0, .int .i64 0, .int .i64 0, .int .i64 0, .string ⟨#[]⟩, .int .i64 0, .int .i64 0, .int .i64 0] from Wide.new_at (by simp))
  have x0 := X.out.cell (i := 0) rfl
  clear hc1 hc2 hr2 hk1 hV hf
  go_enter Try.func44, Try.ntmps44
  go_wp2_with (refine store_row T.out [.int .i64 3, .int .i64 0, .int .i64 0, .int .i64 0, .int .i64 0, .int .i64 0, .int .i64 0, .string ⟨#[]⟩, .int .i64 0, .int .i64 0, .string ⟨#[]⟩, .slice none 0 0, .int .i64 0, .int .i64 0, .int .i64 0, .string ⟨#[]⟩, .int .i64 0, .int .i64 0, .int .i64 0] 99 (by kernel_rfl) rfl (by simp [Value.oneCell']) rfl rfl rfl rfl ?_; intro w3 hz kz zz; clear x0; replace X := Lib.hid ((X.out.alloc (.cells #[.int .i64 0, .int .i64 0, .int .i64 0, .int .i64 0, .int .i64 0, .int .i64 0, .int .i64 0, .string ⟨#[]⟩, .int .i64 0, .int .i64 0, .string ⟨#[]⟩, .slice none 0 0, .int .i64 0, .int .i64 0, .int .i64 0, .string ⟨#[]⟩, .int .i64 0, .int .i64 0, .int .i64 0] 99)).chg kz hne); replace B := Lib.hid ((B.out.alloc B.out.size (.cells #[.int .i64 0, .int .i64 0, .int .i64 0, .int .i64 0, .int .i64 0, .int .i64 0, .int .i64 0, .string ⟨#[]⟩, .int .i64 0, .int .i64 0, .string ⟨#[]⟩, .slice none 0 0, .int .i64 0, .int .i64 0, .int .i64 0, .string ⟨#[]⟩, .int .i64 0, .int .i64 0, .int .i64 0] 99)).trans (kz.below (B := w.heap.size) (by have := B.out.size; simp; omega) (fun i e => by have e : i = w.heap.size + 1 := e; omega))); replace T := Lib.hid hz; clear hz kz zz; have x0 := X.out.cell (i := 0) rfl; have x1 := (X.out.alloc (.cells #[.int .u8 3] 5)).cell (i := 1) rfl; have cv := str1_at HK1.out w3)
  clear x0 x1 cv
  have HW : w.heap.size ≤ w.heap.size + 1 := by omega
  generalize w.heap.size + 1 = g at *
  replace X := Lib.hid (X.out.alloc (.cells #[.int .u8 3] 5))
  replace T := Lib.hid (T.out.alloc (.cells #[.int .u8 3] 5))
  replace B := Lib.hid (B.out.alloc B.out.size (.cells #[.int .u8 3] 5))
  refine (O2.out _).mono ?_
  rintro e w4 ⟨rfl, k9⟩
  replace X := Lib.hid (X.out.below k9 X.out.lt)
  replace T := Lib.hid (T.out.below k9 T.out.lt)
  replace B := Lib.hid (B.out.trans (k9.mono B.out.size))
  clear k9
  have x0 := X.out.cell (i := 0) rfl
  have y1 := X.out.cell (i := 1) rfl
  have t1 := T.out.cell (i := 1) rfl
  have g1 := T.out.frozen 1 (by simp)
  have XS := Lib.hid (X.out.set_ne ⟨g, 1, none⟩ (.int .i64 n) (Ne.symm hne))
  have TS := Lib.hid ((T.out.set 1 (.int .i64 n)).cast (cs' := [.int .i64 3, .int .i64 n, .int .i64 0, .int .i64 0, .int .i64 0, .int .i64 0, .int .i64 0, .string ⟨#[]⟩, .int .i64 0, .int .i64 0, .string ⟨#[]⟩, .slice none 0 0, .int .i64 0, .int .i64 0, .int .i64 0, .string ⟨#[]⟩, .int .i64 0, .int .i64 0, .int .i64 0]) rfl)
  have BS := Lib.hid (B.out.setCell (p := ⟨g, 1, none⟩) HW (.int .i64 n))
  cases r2
  · have HQ := HR2
    go_wp2_with fail
    go_ret2
    exact ⟨mpost_no (fun h => by have h1 := h.1; simp [Mv.bad, HQ.out, show oneBad 3 = false from by decide] at h1) (by first | exact Nat.zero_le _ | (rw [bs_size]; simp; done) | (rw [bs_size]; simp only [List.length_cons, List.length_nil, List.length_append]; omega)), BS.out⟩
  go_wp2_with (first | (refine load_row_g XS.out 99 Try.underlying99 rfl (by kernel_rfl) (by rfl) rfl rfl ?_) | (refine load_row_g TS.out 99 Try.underlying99 rfl (by kernel_rfl) (by rfl) rfl rfl ?_))
  have SC := Lib.hid (msame_calls (⟨3, n, a, (⟨wk, wt, ⟨kk, kn, ks⟩, ⟨hk, hn, hs⟩, ra, rc, row, c, ⟨vk, vn, vs⟩, wn⟩ : Wsh), p, q⟩ : Mv) (⟨3, n, 0, noW, 0, 0⟩) _ (VV.out.keep BS.out) (Vs.nil _ _) (by simp only; omega) (by first | (simp [noW, Mv.only]; done) | (simp only; omega)))
  replace SC := Lib.hid (show Calls Try.prog 50 #[.agg #[.int .i64 3, .int .i64 n, .int .i64 a, .int .i64 wk, .int .i64 wt, .int .i64 kk, .int .i64 kn, .string ks, .int .i64 hk, .int .i64 hn, .string hs, .slice ra row.length rc, .int .i64 c, .int .i64 vk, .int .i64 vn, .string vs, .int .i64 wn, .int .i64 p, .int .i64 q], .agg #[.int .i64 3, .int .i64 n, .int .i64 0, .int .i64 0, .int .i64 0, .int .i64 0, .int .i64 0, .string ⟨#[]⟩, .int .i64 0, .int .i64 0, .string ⟨#[]⟩, .slice none 0 0, .int .i64 0, .int .i64 0, .int .i64 0, .string ⟨#[]⟩, .int .i64 0, .int .i64 0, .int .i64 0]] _ _ from SC.out)
  refine SC.out.mono ?_
  rintro e w30 ⟨⟨r, hr, rfl⟩, k9⟩
  have BZ := Lib.hid (BS.out.trans (k9.mono BS.out.size))
  have HR := Lib.hid hr
  clear k9 hr SC
  go_wp2_with fail
  go_ret2
  exact ⟨mpost_is HR.out (by rw [show Mv.bad (⟨3, n, a, (⟨wk, wt, ⟨kk, kn, ks⟩, ⟨hk, hn, hs⟩, ra, rc, row, c, ⟨vk, vn, vs⟩, wn⟩ : Wsh), p, q⟩ : Mv) = false by simp [Mv.bad, HR2.out, show oneBad 3 = false from by decide], show Mv.told (⟨3, n, a, (⟨wk, wt, ⟨kk, kn, ks⟩, ⟨hk, hn, hs⟩, ra, rc, row, c, ⟨vk, vn, vs⟩, wn⟩ : Wsh), p, q⟩ : Mv) = ⟨3, n, 0, noW, 0, 0⟩ by simp [Mv.told]]; exact ⟨fun h => meqv_symm h.2, fun h => ⟨rfl, meqv_symm h⟩⟩) (fun _ => by rw [show Mv.bytes (⟨3, n, a, (⟨wk, wt, ⟨kk, kn, ks⟩, ⟨hk, hn, hs⟩, ra, rc, row, c, ⟨vk, vn, vs⟩, wn⟩ : Wsh), p, q⟩ : Mv) = [c1, c2] by simp [Mv.bytes, HC1.out, HC2.out]]) (by first | exact Nat.zero_le _ | (rw [bs_size]; simp; done) | (rw [bs_size]; simp only [List.length_cons, List.length_nil, List.length_append]; omega)), BZ.out⟩
set_option maxHeartbeats 8000000 in
theorem rb_4 (n a wk wt kk kn hk hn c vk vn wn p q : Int) (ks hs vs : ByteArray) (ra : Option Addr) (rc : Nat) (row : List V) (w : World) (hV : Vs w ra row) (hf : ((⟨wk, wt, ⟨kk, kn, ks⟩, ⟨hk, hn, hs⟩, ra, rc, row, c, ⟨vk, vn, vs⟩, wn⟩ : Wsh)).fits) (hl : row.length ≤ 1000) :
    Calls Try.prog 44 #[.agg #[.int .i64 4, .int .i64 n, .int .i64 a, .int .i64 wk, .int .i64 wt, .int .i64 kk, .int .i64 kn, .string ks, .int .i64 hk, .int .i64 hn, .string hs, .slice ra row.length rc, .int .i64 c, .int .i64 vk, .int .i64 vn, .string vs, .int .i64 wn, .int .i64 p, .int .i64 q]] w fun e w' => MPost (⟨4, n, a, (⟨wk, wt, ⟨kk, kn, ks⟩, ⟨hk, hn, hs⟩, ra, rc, row, c, ⟨vk, vn, vs⟩, wn⟩ : Wsh), p, q⟩ : Mv) e ∧ Below w.heap.size w w' := by
  obtain ⟨c1, hc1⟩ : ∃ c, oneB 4 = c := ⟨_, rfl⟩
  obtain ⟨c2, hc2⟩ : ∃ c, oneB n = c := ⟨_, rfl⟩
  obtain ⟨r2, hr2⟩ : ∃ r, oneBad n = !r := ⟨!oneBad n, by simp⟩
  have hk1 : (c1.toNat : Int) = 4 := by rw [← hc1]; decide
  have O2 := Lib.hid (one_is hc2 hr2)
  have HK1 := Lib.hid hk1
  have HC1 := Lib.hid hc1
  have HC2 := Lib.hid hc2
  have HR2 := Lib.hid hr2
  have VV := Lib.hid hV
  have HF := Lib.hid hf
  have X := Lib.hid (Row.new w 99 [.int .i64 4, .int .i64 n, .int .i64 a, .int .i64 wk, .int .i64 wt, .int .i64 kk, .int .i64 kn, .string ks, .int .i64 hk, .int .i64 hn, .string hs, .slice ra row.length rc, .int .i64 c, .int .i64 vk, .int .i64 vn, .string vs, .int .i64 wn, .int .i64 p, .int .i64 q])
  have B := Lib.hid ((Below.refl w.heap.size w).alloc (Nat.le_refl _) (.cells #[.int .i64 4, .int .i64 n, .int .i64 a, .int .i64 wk, .int .i64 wt, .int .i64 kk, .int .i64 kn, .string ks, .int .i64 hk, .int .i64 hn, .string hs, .slice ra row.length rc, .int .i64 c, .int .i64 vk, .int .i64 vn, .string vs, .int .i64 wn, .int .i64 p, .int .i64 q] 99))
  have e2 := app2 c1 c2
  have q2 := fit_size (a := [c1]) (b := [c2]) (by simp)
  have hne : w.heap.size ≠ w.heap.size + 1 := by omega
  have T := Lib.hid (show Row ((w.alloc (.cells #[.int .i64 4, .int .i64 n, .int .i64 a, .int .i64 wk, .int .i64 wt, .int .i64 kk, .int .i64 kn, .string ks, .int .i64 hk, .int .i64 hn, .string hs, .slice ra row.length rc, .int .i64 c, .int .i64 vk, .int .i64 vn, .string vs, .int .i64 wn, .int .i64 p, .int .i64 q] 99)).alloc (.cells #[.int .i64 0, .int .i64 0, .int .i64 0, .int .i64 0, .int .i64 0, .int .i64 0, .int .i64 0, .string ⟨#[]⟩, .int .i64 0, .int .i64 0, .string ⟨#[]⟩, .slice none 0 0, .int .i64 0, .int .i64 0, .int .i64 0, .string ⟨#[]⟩, .int .i64 0, .int .i64 0, .int .i64 0] 99)) (w.heap.size + 1) 99 [.int .i64 0, .int .i64 0, .int .i64 0, .int .i64 0, .int .i64 0, .int .i64 0, .int .i64 0, .string ⟨#[]⟩, .int .i64 0, .int .i64 0, .string ⟨#[]⟩, .slice none 0 0, .int .i64 0, .int .i64 0, .int .i64 0, .string ⟨#[]⟩, .int .i64 0, .int .i64 0, .int .i64 0] from Wide.new_at (by simp))
  have x0 := X.out.cell (i := 0) rfl
  clear hc1 hc2 hr2 hk1 hV hf
  go_enter Try.func44, Try.ntmps44
  go_wp2_with (refine store_row T.out [.int .i64 4, .int .i64 0, .int .i64 0, .int .i64 0, .int .i64 0, .int .i64 0, .int .i64 0, .string ⟨#[]⟩, .int .i64 0, .int .i64 0, .string ⟨#[]⟩, .slice none 0 0, .int .i64 0, .int .i64 0, .int .i64 0, .string ⟨#[]⟩, .int .i64 0, .int .i64 0, .int .i64 0] 99 (by kernel_rfl) rfl (by simp [Value.oneCell']) rfl rfl rfl rfl ?_; intro w3 hz kz zz; clear x0; replace X := Lib.hid ((X.out.alloc (.cells #[.int .i64 0, .int .i64 0, .int .i64 0, .int .i64 0, .int .i64 0, .int .i64 0, .int .i64 0, .string ⟨#[]⟩, .int .i64 0, .int .i64 0, .string ⟨#[]⟩, .slice none 0 0, .int .i64 0, .int .i64 0, .int .i64 0, .string ⟨#[]⟩, .int .i64 0, .int .i64 0, .int .i64 0] 99)).chg kz hne); replace B := Lib.hid ((B.out.alloc B.out.size (.cells #[.int .i64 0, .int .i64 0, .int .i64 0, .int .i64 0, .int .i64 0, .int .i64 0, .int .i64 0, .string ⟨#[]⟩, .int .i64 0, .int .i64 0, .string ⟨#[]⟩, .slice none 0 0, .int .i64 0, .int .i64 0, .int .i64 0, .string ⟨#[]⟩, .int .i64 0, .int .i64 0, .int .i64 0] 99)).trans (kz.below (B := w.heap.size) (by have := B.out.size; simp; omega) (fun i e => by have e : i = w.heap.size + 1 := e; omega))); replace T := Lib.hid hz; clear hz kz zz; have x0 := X.out.cell (i := 0) rfl; have x1 := (X.out.alloc (.cells #[.int .u8 4] 5)).cell (i := 1) rfl; have cv := str1_at HK1.out w3)
  clear x0 x1 cv
  have HW : w.heap.size ≤ w.heap.size + 1 := by omega
  generalize w.heap.size + 1 = g at *
  replace X := Lib.hid (X.out.alloc (.cells #[.int .u8 4] 5))
  replace T := Lib.hid (T.out.alloc (.cells #[.int .u8 4] 5))
  replace B := Lib.hid (B.out.alloc B.out.size (.cells #[.int .u8 4] 5))
  refine (O2.out _).mono ?_
  rintro e w4 ⟨rfl, k9⟩
  replace X := Lib.hid (X.out.below k9 X.out.lt)
  replace T := Lib.hid (T.out.below k9 T.out.lt)
  replace B := Lib.hid (B.out.trans (k9.mono B.out.size))
  clear k9
  have x0 := X.out.cell (i := 0) rfl
  have y1 := X.out.cell (i := 1) rfl
  have t1 := T.out.cell (i := 1) rfl
  have g1 := T.out.frozen 1 (by simp)
  have XS := Lib.hid (X.out.set_ne ⟨g, 1, none⟩ (.int .i64 n) (Ne.symm hne))
  have TS := Lib.hid ((T.out.set 1 (.int .i64 n)).cast (cs' := [.int .i64 4, .int .i64 n, .int .i64 0, .int .i64 0, .int .i64 0, .int .i64 0, .int .i64 0, .string ⟨#[]⟩, .int .i64 0, .int .i64 0, .string ⟨#[]⟩, .slice none 0 0, .int .i64 0, .int .i64 0, .int .i64 0, .string ⟨#[]⟩, .int .i64 0, .int .i64 0, .int .i64 0]) rfl)
  have BS := Lib.hid (B.out.setCell (p := ⟨g, 1, none⟩) HW (.int .i64 n))
  cases r2
  · have HQ := HR2
    go_wp2_with fail
    go_ret2
    exact ⟨mpost_no (fun h => by have h1 := h.1; simp [Mv.bad, HQ.out, show oneBad 4 = false from by decide] at h1) (by first | exact Nat.zero_le _ | (rw [bs_size]; simp; done) | (rw [bs_size]; simp only [List.length_cons, List.length_nil, List.length_append]; omega)), BS.out⟩
  go_wp2_with (first | (refine load_row_g XS.out 99 Try.underlying99 rfl (by kernel_rfl) (by rfl) rfl rfl ?_) | (refine load_row_g TS.out 99 Try.underlying99 rfl (by kernel_rfl) (by rfl) rfl rfl ?_))
  have SC := Lib.hid (msame_calls (⟨4, n, a, (⟨wk, wt, ⟨kk, kn, ks⟩, ⟨hk, hn, hs⟩, ra, rc, row, c, ⟨vk, vn, vs⟩, wn⟩ : Wsh), p, q⟩ : Mv) (⟨4, n, 0, noW, 0, 0⟩) _ (VV.out.keep BS.out) (Vs.nil _ _) (by simp only; omega) (by first | (simp [noW, Mv.only]; done) | (simp only; omega)))
  replace SC := Lib.hid (show Calls Try.prog 50 #[.agg #[.int .i64 4, .int .i64 n, .int .i64 a, .int .i64 wk, .int .i64 wt, .int .i64 kk, .int .i64 kn, .string ks, .int .i64 hk, .int .i64 hn, .string hs, .slice ra row.length rc, .int .i64 c, .int .i64 vk, .int .i64 vn, .string vs, .int .i64 wn, .int .i64 p, .int .i64 q], .agg #[.int .i64 4, .int .i64 n, .int .i64 0, .int .i64 0, .int .i64 0, .int .i64 0, .int .i64 0, .string ⟨#[]⟩, .int .i64 0, .int .i64 0, .string ⟨#[]⟩, .slice none 0 0, .int .i64 0, .int .i64 0, .int .i64 0, .string ⟨#[]⟩, .int .i64 0, .int .i64 0, .int .i64 0]] _ _ from SC.out)
  refine SC.out.mono ?_
  rintro e w30 ⟨⟨r, hr, rfl⟩, k9⟩
  have BZ := Lib.hid (BS.out.trans (k9.mono BS.out.size))
  have HR := Lib.hid hr
  clear k9 hr SC
  go_wp2_with fail
  go_ret2
  exact ⟨mpost_is HR.out (by rw [show Mv.bad (⟨4, n, a, (⟨wk, wt, ⟨kk, kn, ks⟩, ⟨hk, hn, hs⟩, ra, rc, row, c, ⟨vk, vn, vs⟩, wn⟩ : Wsh), p, q⟩ : Mv) = false by simp [Mv.bad, HR2.out, show oneBad 4 = false from by decide], show Mv.told (⟨4, n, a, (⟨wk, wt, ⟨kk, kn, ks⟩, ⟨hk, hn, hs⟩, ra, rc, row, c, ⟨vk, vn, vs⟩, wn⟩ : Wsh), p, q⟩ : Mv) = ⟨4, n, 0, noW, 0, 0⟩ by simp [Mv.told]]; exact ⟨fun h => meqv_symm h.2, fun h => ⟨rfl, meqv_symm h⟩⟩) (fun _ => by rw [show Mv.bytes (⟨4, n, a, (⟨wk, wt, ⟨kk, kn, ks⟩, ⟨hk, hn, hs⟩, ra, rc, row, c, ⟨vk, vn, vs⟩, wn⟩ : Wsh), p, q⟩ : Mv) = [c1, c2] by simp [Mv.bytes, HC1.out, HC2.out]]) (by first | exact Nat.zero_le _ | (rw [bs_size]; simp; done) | (rw [bs_size]; simp only [List.length_cons, List.length_nil, List.length_append]; omega)), BZ.out⟩
set_option maxHeartbeats 8000000 in
theorem rb_8 (n a wk wt kk kn hk hn c vk vn wn p q : Int) (ks hs vs : ByteArray) (ra : Option Addr) (rc : Nat) (row : List V) (w : World) (hV : Vs w ra row) (hf : ((⟨wk, wt, ⟨kk, kn, ks⟩, ⟨hk, hn, hs⟩, ra, rc, row, c, ⟨vk, vn, vs⟩, wn⟩ : Wsh)).fits) (hl : row.length ≤ 1000) :
    Calls Try.prog 44 #[.agg #[.int .i64 8, .int .i64 n, .int .i64 a, .int .i64 wk, .int .i64 wt, .int .i64 kk, .int .i64 kn, .string ks, .int .i64 hk, .int .i64 hn, .string hs, .slice ra row.length rc, .int .i64 c, .int .i64 vk, .int .i64 vn, .string vs, .int .i64 wn, .int .i64 p, .int .i64 q]] w fun e w' => MPost (⟨8, n, a, (⟨wk, wt, ⟨kk, kn, ks⟩, ⟨hk, hn, hs⟩, ra, rc, row, c, ⟨vk, vn, vs⟩, wn⟩ : Wsh), p, q⟩ : Mv) e ∧ Below w.heap.size w w' := by
  obtain ⟨c1, hc1⟩ : ∃ c, oneB 8 = c := ⟨_, rfl⟩
  obtain ⟨c2, hc2⟩ : ∃ c, oneB n = c := ⟨_, rfl⟩
  obtain ⟨r2, hr2⟩ : ∃ r, oneBad n = !r := ⟨!oneBad n, by simp⟩
  have hk1 : (c1.toNat : Int) = 8 := by rw [← hc1]; decide
  have O2 := Lib.hid (one_is hc2 hr2)
  have HK1 := Lib.hid hk1
  have HC1 := Lib.hid hc1
  have HC2 := Lib.hid hc2
  have HR2 := Lib.hid hr2
  have VV := Lib.hid hV
  have HF := Lib.hid hf
  have X := Lib.hid (Row.new w 99 [.int .i64 8, .int .i64 n, .int .i64 a, .int .i64 wk, .int .i64 wt, .int .i64 kk, .int .i64 kn, .string ks, .int .i64 hk, .int .i64 hn, .string hs, .slice ra row.length rc, .int .i64 c, .int .i64 vk, .int .i64 vn, .string vs, .int .i64 wn, .int .i64 p, .int .i64 q])
  have B := Lib.hid ((Below.refl w.heap.size w).alloc (Nat.le_refl _) (.cells #[.int .i64 8, .int .i64 n, .int .i64 a, .int .i64 wk, .int .i64 wt, .int .i64 kk, .int .i64 kn, .string ks, .int .i64 hk, .int .i64 hn, .string hs, .slice ra row.length rc, .int .i64 c, .int .i64 vk, .int .i64 vn, .string vs, .int .i64 wn, .int .i64 p, .int .i64 q] 99))
  have e2 := app2 c1 c2
  have q2 := fit_size (a := [c1]) (b := [c2]) (by simp)
  have hne : w.heap.size ≠ w.heap.size + 1 := by omega
  have T := Lib.hid (show Row ((w.alloc (.cells #[.int .i64 8, .int .i64 n, .int .i64 a, .int .i64 wk, .int .i64 wt, .int .i64 kk, .int .i64 kn, .string ks, .int .i64 hk, .int .i64 hn, .string hs, .slice ra row.length rc, .int .i64 c, .int .i64 vk, .int .i64 vn, .string vs, .int .i64 wn, .int .i64 p, .int .i64 q] 99)).alloc (.cells #[.int .i64 0, .int .i64 0, .int .i64 0, .int .i64 0, .int .i64 0, .int .i64 0, .int .i64 0, .string ⟨#[]⟩, .int .i64 0, .int .i64 0, .string ⟨#[]⟩, .slice none 0 0, .int .i64 0, .int .i64 0, .int .i64 0, .string ⟨#[]⟩, .int .i64 0, .int .i64 0, .int .i64 0] 99)) (w.heap.size + 1) 99 [.int .i64 0, .int .i64 0, .int .i64 0, .int .i64 0, .int .i64 0, .int .i64 0, .int .i64 0, .string ⟨#[]⟩, .int .i64 0, .int .i64 0, .string ⟨#[]⟩, .slice none 0 0, .int .i64 0, .int .i64 0, .int .i64 0, .string ⟨#[]⟩, .int .i64 0, .int .i64 0, .int .i64 0] from Wide.new_at (by simp))
  have x0 := X.out.cell (i := 0) rfl
  clear hc1 hc2 hr2 hk1 hV hf
  go_enter Try.func44, Try.ntmps44
  go_wp2_with (refine store_row T.out [.int .i64 8, .int .i64 0, .int .i64 0, .int .i64 0, .int .i64 0, .int .i64 0, .int .i64 0, .string ⟨#[]⟩, .int .i64 0, .int .i64 0, .string ⟨#[]⟩, .slice none 0 0, .int .i64 0, .int .i64 0, .int .i64 0, .string ⟨#[]⟩, .int .i64 0, .int .i64 0, .int .i64 0] 99 (by kernel_rfl) rfl (by simp [Value.oneCell']) rfl rfl rfl rfl ?_; intro w3 hz kz zz; clear x0; replace X := Lib.hid ((X.out.alloc (.cells #[.int .i64 0, .int .i64 0, .int .i64 0, .int .i64 0, .int .i64 0, .int .i64 0, .int .i64 0, .string ⟨#[]⟩, .int .i64 0, .int .i64 0, .string ⟨#[]⟩, .slice none 0 0, .int .i64 0, .int .i64 0, .int .i64 0, .string ⟨#[]⟩, .int .i64 0, .int .i64 0, .int .i64 0] 99)).chg kz hne); replace B := Lib.hid ((B.out.alloc B.out.size (.cells #[.int .i64 0, .int .i64 0, .int .i64 0, .int .i64 0, .int .i64 0, .int .i64 0, .int .i64 0, .string ⟨#[]⟩, .int .i64 0, .int .i64 0, .string ⟨#[]⟩, .slice none 0 0, .int .i64 0, .int .i64 0, .int .i64 0, .string ⟨#[]⟩, .int .i64 0, .int .i64 0, .int .i64 0] 99)).trans (kz.below (B := w.heap.size) (by have := B.out.size; simp; omega) (fun i e => by have e : i = w.heap.size + 1 := e; omega))); replace T := Lib.hid hz; clear hz kz zz; have x0 := X.out.cell (i := 0) rfl; have x1 := (X.out.alloc (.cells #[.int .u8 8] 5)).cell (i := 1) rfl; have cv := str1_at HK1.out w3)
  clear x0 x1 cv
  have HW : w.heap.size ≤ w.heap.size + 1 := by omega
  generalize w.heap.size + 1 = g at *
  replace X := Lib.hid (X.out.alloc (.cells #[.int .u8 8] 5))
  replace T := Lib.hid (T.out.alloc (.cells #[.int .u8 8] 5))
  replace B := Lib.hid (B.out.alloc B.out.size (.cells #[.int .u8 8] 5))
  refine (O2.out _).mono ?_
  rintro e w4 ⟨rfl, k9⟩
  replace X := Lib.hid (X.out.below k9 X.out.lt)
  replace T := Lib.hid (T.out.below k9 T.out.lt)
  replace B := Lib.hid (B.out.trans (k9.mono B.out.size))
  clear k9
  have x0 := X.out.cell (i := 0) rfl
  have y1 := X.out.cell (i := 1) rfl
  have t1 := T.out.cell (i := 1) rfl
  have g1 := T.out.frozen 1 (by simp)
  have XS := Lib.hid (X.out.set_ne ⟨g, 1, none⟩ (.int .i64 n) (Ne.symm hne))
  have TS := Lib.hid ((T.out.set 1 (.int .i64 n)).cast (cs' := [.int .i64 8, .int .i64 n, .int .i64 0, .int .i64 0, .int .i64 0, .int .i64 0, .int .i64 0, .string ⟨#[]⟩, .int .i64 0, .int .i64 0, .string ⟨#[]⟩, .slice none 0 0, .int .i64 0, .int .i64 0, .int .i64 0, .string ⟨#[]⟩, .int .i64 0, .int .i64 0, .int .i64 0]) rfl)
  have BS := Lib.hid (B.out.setCell (p := ⟨g, 1, none⟩) HW (.int .i64 n))
  cases r2
  · have HQ := HR2
    go_wp2_with fail
    go_ret2
    exact ⟨mpost_no (fun h => by have h1 := h.1; simp [Mv.bad, HQ.out, show oneBad 8 = false from by decide] at h1) (by first | exact Nat.zero_le _ | (rw [bs_size]; simp; done) | (rw [bs_size]; simp only [List.length_cons, List.length_nil, List.length_append]; omega)), BS.out⟩
  go_wp2_with (first | (refine load_row_g XS.out 99 Try.underlying99 rfl (by kernel_rfl) (by rfl) rfl rfl ?_) | (refine load_row_g TS.out 99 Try.underlying99 rfl (by kernel_rfl) (by rfl) rfl rfl ?_))
  have SC := Lib.hid (msame_calls (⟨8, n, a, (⟨wk, wt, ⟨kk, kn, ks⟩, ⟨hk, hn, hs⟩, ra, rc, row, c, ⟨vk, vn, vs⟩, wn⟩ : Wsh), p, q⟩ : Mv) (⟨8, n, 0, noW, 0, 0⟩) _ (VV.out.keep BS.out) (Vs.nil _ _) (by simp only; omega) (by first | (simp [noW, Mv.only]; done) | (simp only; omega)))
  replace SC := Lib.hid (show Calls Try.prog 50 #[.agg #[.int .i64 8, .int .i64 n, .int .i64 a, .int .i64 wk, .int .i64 wt, .int .i64 kk, .int .i64 kn, .string ks, .int .i64 hk, .int .i64 hn, .string hs, .slice ra row.length rc, .int .i64 c, .int .i64 vk, .int .i64 vn, .string vs, .int .i64 wn, .int .i64 p, .int .i64 q], .agg #[.int .i64 8, .int .i64 n, .int .i64 0, .int .i64 0, .int .i64 0, .int .i64 0, .int .i64 0, .string ⟨#[]⟩, .int .i64 0, .int .i64 0, .string ⟨#[]⟩, .slice none 0 0, .int .i64 0, .int .i64 0, .int .i64 0, .string ⟨#[]⟩, .int .i64 0, .int .i64 0, .int .i64 0]] _ _ from SC.out)
  refine SC.out.mono ?_
  rintro e w30 ⟨⟨r, hr, rfl⟩, k9⟩
  have BZ := Lib.hid (BS.out.trans (k9.mono BS.out.size))
  have HR := Lib.hid hr
  clear k9 hr SC
  go_wp2_with fail
  go_ret2
  exact ⟨mpost_is HR.out (by rw [show Mv.bad (⟨8, n, a, (⟨wk, wt, ⟨kk, kn, ks⟩, ⟨hk, hn, hs⟩, ra, rc, row, c, ⟨vk, vn, vs⟩, wn⟩ : Wsh), p, q⟩ : Mv) = false by simp [Mv.bad, HR2.out, show oneBad 8 = false from by decide], show Mv.told (⟨8, n, a, (⟨wk, wt, ⟨kk, kn, ks⟩, ⟨hk, hn, hs⟩, ra, rc, row, c, ⟨vk, vn, vs⟩, wn⟩ : Wsh), p, q⟩ : Mv) = ⟨8, n, 0, noW, 0, 0⟩ by simp [Mv.told]]; exact ⟨fun h => meqv_symm h.2, fun h => ⟨rfl, meqv_symm h⟩⟩) (fun _ => by rw [show Mv.bytes (⟨8, n, a, (⟨wk, wt, ⟨kk, kn, ks⟩, ⟨hk, hn, hs⟩, ra, rc, row, c, ⟨vk, vn, vs⟩, wn⟩ : Wsh), p, q⟩ : Mv) = [c1, c2] by simp [Mv.bytes, HC1.out, HC2.out]]) (by first | exact Nat.zero_le _ | (rw [bs_size]; simp; done) | (rw [bs_size]; simp only [List.length_cons, List.length_nil, List.length_append]; omega)), BZ.out⟩
set_option maxHeartbeats 8000000 in
theorem rb_5 (n a wk wt kk kn hk hn c vk vn wn p q : Int) (ks hs vs : ByteArray) (ra : Option Addr) (rc : Nat) (row : List V) (w : World) (hV : Vs w ra row) (hf : ((⟨wk, wt, ⟨kk, kn, ks⟩, ⟨hk, hn, hs⟩, ra, rc, row, c, ⟨vk, vn, vs⟩, wn⟩ : Wsh)).fits) (hl : row.length ≤ 1000) :
    Calls Try.prog 44 #[.agg #[.int .i64 5, .int .i64 n, .int .i64 a, .int .i64 wk, .int .i64 wt, .int .i64 kk, .int .i64 kn, .string ks, .int .i64 hk, .int .i64 hn, .string hs, .slice ra row.length rc, .int .i64 c, .int .i64 vk, .int .i64 vn, .string vs, .int .i64 wn, .int .i64 p, .int .i64 q]] w fun e w' => MPost (⟨5, n, a, (⟨wk, wt, ⟨kk, kn, ks⟩, ⟨hk, hn, hs⟩, ra, rc, row, c, ⟨vk, vn, vs⟩, wn⟩ : Wsh), p, q⟩ : Mv) e ∧ Below w.heap.size w w' := by
  obtain ⟨c1, hc1⟩ : ∃ c, oneB 5 = c := ⟨_, rfl⟩
  obtain ⟨c2, hc2⟩ : ∃ c, oneB n = c := ⟨_, rfl⟩
  obtain ⟨r2, hr2⟩ : ∃ r, oneBad n = !r := ⟨!oneBad n, by simp⟩
  have hk1 : (c1.toNat : Int) = 5 := by rw [← hc1]; decide
  have O2 := Lib.hid (one_is hc2 hr2)
  have HK1 := Lib.hid hk1
  have HC1 := Lib.hid hc1
  have HC2 := Lib.hid hc2
  have HR2 := Lib.hid hr2
  have VV := Lib.hid hV
  have HF := Lib.hid hf
  have X := Lib.hid (Row.new w 99 [.int .i64 5, .int .i64 n, .int .i64 a, .int .i64 wk, .int .i64 wt, .int .i64 kk, .int .i64 kn, .string ks, .int .i64 hk, .int .i64 hn, .string hs, .slice ra row.length rc, .int .i64 c, .int .i64 vk, .int .i64 vn, .string vs, .int .i64 wn, .int .i64 p, .int .i64 q])
  have B := Lib.hid ((Below.refl w.heap.size w).alloc (Nat.le_refl _) (.cells #[.int .i64 5, .int .i64 n, .int .i64 a, .int .i64 wk, .int .i64 wt, .int .i64 kk, .int .i64 kn, .string ks, .int .i64 hk, .int .i64 hn, .string hs, .slice ra row.length rc, .int .i64 c, .int .i64 vk, .int .i64 vn, .string vs, .int .i64 wn, .int .i64 p, .int .i64 q] 99))
  have e2 := app2 c1 c2
  have q2 := fit_size (a := [c1]) (b := [c2]) (by simp)
  have hne : w.heap.size ≠ w.heap.size + 1 := by omega
  have T := Lib.hid (show Row ((w.alloc (.cells #[.int .i64 5, .int .i64 n, .int .i64 a, .int .i64 wk, .int .i64 wt, .int .i64 kk, .int .i64 kn, .string ks, .int .i64 hk, .int .i64 hn, .string hs, .slice ra row.length rc, .int .i64 c, .int .i64 vk, .int .i64 vn, .string vs, .int .i64 wn, .int .i64 p, .int .i64 q] 99)).alloc (.cells #[.int .i64 0, .int .i64 0, .int .i64 0, .int .i64 0, .int .i64 0, .int .i64 0, .int .i64 0, .string ⟨#[]⟩, .int .i64 0, .int .i64 0, .string ⟨#[]⟩, .slice none 0 0, .int .i64 0, .int .i64 0, .int .i64 0, .string ⟨#[]⟩, .int .i64 0, .int .i64 0, .int .i64 0] 99)) (w.heap.size + 1) 99 [.int .i64 0, .int .i64 0, .int .i64 0, .int .i64 0, .int .i64 0, .int .i64 0, .int .i64 0, .string ⟨#[]⟩, .int .i64 0, .int .i64 0, .string ⟨#[]⟩, .slice none 0 0, .int .i64 0, .int .i64 0, .int .i64 0, .string ⟨#[]⟩, .int .i64 0, .int .i64 0, .int .i64 0] from Wide.new_at (by simp))
  have x0 := X.out.cell (i := 0) rfl
  clear hc1 hc2 hr2 hk1 hV hf
  go_enter Try.func44, Try.ntmps44
  go_wp2_with (refine store_row T.out [.int .i64 5, .int .i64 0, .int .i64 0, .int .i64 0, .int .i64 0, .int .i64 0, .int .i64 0, .string ⟨#[]⟩, .int .i64 0, .int .i64 0, .string ⟨#[]⟩, .slice none 0 0, .int .i64 0, .int .i64 0, .int .i64 0, .string ⟨#[]⟩, .int .i64 0, .int .i64 0, .int .i64 0] 99 (by kernel_rfl) rfl (by simp [Value.oneCell']) rfl rfl rfl rfl ?_; intro w3 hz kz zz; clear x0; replace X := Lib.hid ((X.out.alloc (.cells #[.int .i64 0, .int .i64 0, .int .i64 0, .int .i64 0, .int .i64 0, .int .i64 0, .int .i64 0, .string ⟨#[]⟩, .int .i64 0, .int .i64 0, .string ⟨#[]⟩, .slice none 0 0, .int .i64 0, .int .i64 0, .int .i64 0, .string ⟨#[]⟩, .int .i64 0, .int .i64 0, .int .i64 0] 99)).chg kz hne); replace B := Lib.hid ((B.out.alloc B.out.size (.cells #[.int .i64 0, .int .i64 0, .int .i64 0, .int .i64 0, .int .i64 0, .int .i64 0, .int .i64 0, .string ⟨#[]⟩, .int .i64 0, .int .i64 0, .string ⟨#[]⟩, .slice none 0 0, .int .i64 0, .int .i64 0, .int .i64 0, .string ⟨#[]⟩, .int .i64 0, .int .i64 0, .int .i64 0] 99)).trans (kz.below (B := w.heap.size) (by have := B.out.size; simp; omega) (fun i e => by have e : i = w.heap.size + 1 := e; omega))); replace T := Lib.hid hz; clear hz kz zz; have x0 := X.out.cell (i := 0) rfl; have x1 := (X.out.alloc (.cells #[.int .u8 5] 5)).cell (i := 1) rfl; have cv := str1_at HK1.out w3)
  clear x0 x1 cv
  have HW : w.heap.size ≤ w.heap.size + 1 := by omega
  generalize w.heap.size + 1 = g at *
  replace X := Lib.hid (X.out.alloc (.cells #[.int .u8 5] 5))
  replace T := Lib.hid (T.out.alloc (.cells #[.int .u8 5] 5))
  replace B := Lib.hid (B.out.alloc B.out.size (.cells #[.int .u8 5] 5))
  refine (O2.out _).mono ?_
  rintro e w4 ⟨rfl, k9⟩
  replace X := Lib.hid (X.out.below k9 X.out.lt)
  replace T := Lib.hid (T.out.below k9 T.out.lt)
  replace B := Lib.hid (B.out.trans (k9.mono B.out.size))
  clear k9
  have x0 := X.out.cell (i := 0) rfl
  cases r2
  · have HQ := HR2
    go_wp2_with fail
    go_ret2
    exact ⟨mpost_no (fun h => by have h1 := h.2.2.1; simp [Mv.told, Mv.only] at h1; exact nbad_zero HQ.out h1.symm) (by first | exact Nat.zero_le _ | (rw [bs_size]; simp; done) | (rw [bs_size]; simp only [List.length_cons, List.length_nil, List.length_append]; omega)), B.out⟩
  go_wp2_with (first | (refine load_row_g X.out 99 Try.underlying99 rfl (by kernel_rfl) (by rfl) rfl rfl ?_) | (refine load_row_g T.out 99 Try.underlying99 rfl (by kernel_rfl) (by rfl) rfl rfl ?_))
  have SC := Lib.hid (msame_calls (⟨5, n, a, (⟨wk, wt, ⟨kk, kn, ks⟩, ⟨hk, hn, hs⟩, ra, rc, row, c, ⟨vk, vn, vs⟩, wn⟩ : Wsh), p, q⟩ : Mv) (Mv.only 5) _ (VV.out.keep B.out) (Vs.nil _ _) (by simp only; omega) (by first | (simp [noW, Mv.only]; done) | (simp only; omega)))
  replace SC := Lib.hid (show Calls Try.prog 50 #[.agg #[.int .i64 5, .int .i64 n, .int .i64 a, .int .i64 wk, .int .i64 wt, .int .i64 kk, .int .i64 kn, .string ks, .int .i64 hk, .int .i64 hn, .string hs, .slice ra row.length rc, .int .i64 c, .int .i64 vk, .int .i64 vn, .string vs, .int .i64 wn, .int .i64 p, .int .i64 q], .agg #[.int .i64 5, .int .i64 0, .int .i64 0, .int .i64 0, .int .i64 0, .int .i64 0, .int .i64 0, .string ⟨#[]⟩, .int .i64 0, .int .i64 0, .string ⟨#[]⟩, .slice none 0 0, .int .i64 0, .int .i64 0, .int .i64 0, .string ⟨#[]⟩, .int .i64 0, .int .i64 0, .int .i64 0]] _ _ from SC.out)
  refine SC.out.mono ?_
  rintro e w30 ⟨⟨r, hr, rfl⟩, k9⟩
  have BZ := Lib.hid (B.out.trans (k9.mono B.out.size))
  have HR := Lib.hid hr
  clear k9 hr SC
  go_wp2_with fail
  go_ret2
  exact ⟨mpost_is HR.out (by rw [show Mv.bad (⟨5, n, a, (⟨wk, wt, ⟨kk, kn, ks⟩, ⟨hk, hn, hs⟩, ra, rc, row, c, ⟨vk, vn, vs⟩, wn⟩ : Wsh), p, q⟩ : Mv) = false by simp [Mv.bad, show oneBad 5 = false from by decide], show Mv.told (⟨5, n, a, (⟨wk, wt, ⟨kk, kn, ks⟩, ⟨hk, hn, hs⟩, ra, rc, row, c, ⟨vk, vn, vs⟩, wn⟩ : Wsh), p, q⟩ : Mv) = Mv.only 5 by simp [Mv.told]]; exact ⟨fun h => meqv_symm h.2, fun h => ⟨rfl, meqv_symm h⟩⟩) (fun _ => by rw [show Mv.bytes (⟨5, n, a, (⟨wk, wt, ⟨kk, kn, ks⟩, ⟨hk, hn, hs⟩, ra, rc, row, c, ⟨vk, vn, vs⟩, wn⟩ : Wsh), p, q⟩ : Mv) = [c1] by simp [Mv.bytes, HC1.out]]) (by first | exact Nat.zero_le _ | (rw [bs_size]; simp; done) | (rw [bs_size]; simp only [List.length_cons, List.length_nil, List.length_append]; omega)), BZ.out⟩
set_option maxHeartbeats 8000000 in
theorem rb_6 (n a wk wt kk kn hk hn c vk vn wn p q : Int) (ks hs vs : ByteArray) (ra : Option Addr) (rc : Nat) (row : List V) (w : World) (hV : Vs w ra row) (hf : ((⟨wk, wt, ⟨kk, kn, ks⟩, ⟨hk, hn, hs⟩, ra, rc, row, c, ⟨vk, vn, vs⟩, wn⟩ : Wsh)).fits) (hl : row.length ≤ 1000) :
    Calls Try.prog 44 #[.agg #[.int .i64 6, .int .i64 n, .int .i64 a, .int .i64 wk, .int .i64 wt, .int .i64 kk, .int .i64 kn, .string ks, .int .i64 hk, .int .i64 hn, .string hs, .slice ra row.length rc, .int .i64 c, .int .i64 vk, .int .i64 vn, .string vs, .int .i64 wn, .int .i64 p, .int .i64 q]] w fun e w' => MPost (⟨6, n, a, (⟨wk, wt, ⟨kk, kn, ks⟩, ⟨hk, hn, hs⟩, ra, rc, row, c, ⟨vk, vn, vs⟩, wn⟩ : Wsh), p, q⟩ : Mv) e ∧ Below w.heap.size w w' := by
  obtain ⟨c1, hc1⟩ : ∃ c, oneB 6 = c := ⟨_, rfl⟩
  obtain ⟨c2, hc2⟩ : ∃ c, oneB n = c := ⟨_, rfl⟩
  obtain ⟨r2, hr2⟩ : ∃ r, oneBad n = !r := ⟨!oneBad n, by simp⟩
  have hk1 : (c1.toNat : Int) = 6 := by rw [← hc1]; decide
  have O2 := Lib.hid (one_is hc2 hr2)
  have HK1 := Lib.hid hk1
  have HC1 := Lib.hid hc1
  have HC2 := Lib.hid hc2
  have HR2 := Lib.hid hr2
  have VV := Lib.hid hV
  have HF := Lib.hid hf
  have X := Lib.hid (Row.new w 99 [.int .i64 6, .int .i64 n, .int .i64 a, .int .i64 wk, .int .i64 wt, .int .i64 kk, .int .i64 kn, .string ks, .int .i64 hk, .int .i64 hn, .string hs, .slice ra row.length rc, .int .i64 c, .int .i64 vk, .int .i64 vn, .string vs, .int .i64 wn, .int .i64 p, .int .i64 q])
  have B := Lib.hid ((Below.refl w.heap.size w).alloc (Nat.le_refl _) (.cells #[.int .i64 6, .int .i64 n, .int .i64 a, .int .i64 wk, .int .i64 wt, .int .i64 kk, .int .i64 kn, .string ks, .int .i64 hk, .int .i64 hn, .string hs, .slice ra row.length rc, .int .i64 c, .int .i64 vk, .int .i64 vn, .string vs, .int .i64 wn, .int .i64 p, .int .i64 q] 99))
  have e2 := app2 c1 c2
  have q2 := fit_size (a := [c1]) (b := [c2]) (by simp)
  have hne : w.heap.size ≠ w.heap.size + 1 := by omega
  have T := Lib.hid (show Row ((w.alloc (.cells #[.int .i64 6, .int .i64 n, .int .i64 a, .int .i64 wk, .int .i64 wt, .int .i64 kk, .int .i64 kn, .string ks, .int .i64 hk, .int .i64 hn, .string hs, .slice ra row.length rc, .int .i64 c, .int .i64 vk, .int .i64 vn, .string vs, .int .i64 wn, .int .i64 p, .int .i64 q] 99)).alloc (.cells #[.int .i64 0, .int .i64 0, .int .i64 0, .int .i64 0, .int .i64 0, .int .i64 0, .int .i64 0, .string ⟨#[]⟩, .int .i64 0, .int .i64 0, .string ⟨#[]⟩, .slice none 0 0, .int .i64 0, .int .i64 0, .int .i64 0, .string ⟨#[]⟩, .int .i64 0, .int .i64 0, .int .i64 0] 99)) (w.heap.size + 1) 99 [.int .i64 0, .int .i64 0, .int .i64 0, .int .i64 0, .int .i64 0, .int .i64 0, .int .i64 0, .string ⟨#[]⟩, .int .i64 0, .int .i64 0, .string ⟨#[]⟩, .slice none 0 0, .int .i64 0, .int .i64 0, .int .i64 0, .string ⟨#[]⟩, .int .i64 0, .int .i64 0, .int .i64 0] from Wide.new_at (by simp))
  have x0 := X.out.cell (i := 0) rfl
  clear hc1 hc2 hr2 hk1 hV hf
  go_enter Try.func44, Try.ntmps44
  go_wp2_with (refine store_row T.out [.int .i64 6, .int .i64 0, .int .i64 0, .int .i64 0, .int .i64 0, .int .i64 0, .int .i64 0, .string ⟨#[]⟩, .int .i64 0, .int .i64 0, .string ⟨#[]⟩, .slice none 0 0, .int .i64 0, .int .i64 0, .int .i64 0, .string ⟨#[]⟩, .int .i64 0, .int .i64 0, .int .i64 0] 99 (by kernel_rfl) rfl (by simp [Value.oneCell']) rfl rfl rfl rfl ?_; intro w3 hz kz zz; clear x0; replace X := Lib.hid ((X.out.alloc (.cells #[.int .i64 0, .int .i64 0, .int .i64 0, .int .i64 0, .int .i64 0, .int .i64 0, .int .i64 0, .string ⟨#[]⟩, .int .i64 0, .int .i64 0, .string ⟨#[]⟩, .slice none 0 0, .int .i64 0, .int .i64 0, .int .i64 0, .string ⟨#[]⟩, .int .i64 0, .int .i64 0, .int .i64 0] 99)).chg kz hne); replace B := Lib.hid ((B.out.alloc B.out.size (.cells #[.int .i64 0, .int .i64 0, .int .i64 0, .int .i64 0, .int .i64 0, .int .i64 0, .int .i64 0, .string ⟨#[]⟩, .int .i64 0, .int .i64 0, .string ⟨#[]⟩, .slice none 0 0, .int .i64 0, .int .i64 0, .int .i64 0, .string ⟨#[]⟩, .int .i64 0, .int .i64 0, .int .i64 0] 99)).trans (kz.below (B := w.heap.size) (by have := B.out.size; simp; omega) (fun i e => by have e : i = w.heap.size + 1 := e; omega))); replace T := Lib.hid hz; clear hz kz zz; have x0 := X.out.cell (i := 0) rfl; have x1 := (X.out.alloc (.cells #[.int .u8 6] 5)).cell (i := 1) rfl; have cv := str1_at HK1.out w3)
  clear x0 x1 cv
  have HW : w.heap.size ≤ w.heap.size + 1 := by omega
  generalize w.heap.size + 1 = g at *
  replace X := Lib.hid (X.out.alloc (.cells #[.int .u8 6] 5))
  replace T := Lib.hid (T.out.alloc (.cells #[.int .u8 6] 5))
  replace B := Lib.hid (B.out.alloc B.out.size (.cells #[.int .u8 6] 5))
  refine (O2.out _).mono ?_
  rintro e w4 ⟨rfl, k9⟩
  replace X := Lib.hid (X.out.below k9 X.out.lt)
  replace T := Lib.hid (T.out.below k9 T.out.lt)
  replace B := Lib.hid (B.out.trans (k9.mono B.out.size))
  clear k9
  have x0 := X.out.cell (i := 0) rfl
  cases r2
  · have HQ := HR2
    go_wp2_with fail
    go_ret2
    exact ⟨mpost_no (fun h => by have h1 := h.2.2.1; simp [Mv.told, Mv.only] at h1; exact nbad_zero HQ.out h1.symm) (by first | exact Nat.zero_le _ | (rw [bs_size]; simp; done) | (rw [bs_size]; simp only [List.length_cons, List.length_nil, List.length_append]; omega)), B.out⟩
  go_wp2_with (first | (refine load_row_g X.out 99 Try.underlying99 rfl (by kernel_rfl) (by rfl) rfl rfl ?_) | (refine load_row_g T.out 99 Try.underlying99 rfl (by kernel_rfl) (by rfl) rfl rfl ?_))
  have SC := Lib.hid (msame_calls (⟨6, n, a, (⟨wk, wt, ⟨kk, kn, ks⟩, ⟨hk, hn, hs⟩, ra, rc, row, c, ⟨vk, vn, vs⟩, wn⟩ : Wsh), p, q⟩ : Mv) (Mv.only 6) _ (VV.out.keep B.out) (Vs.nil _ _) (by simp only; omega) (by first | (simp [noW, Mv.only]; done) | (simp only; omega)))
  replace SC := Lib.hid (show Calls Try.prog 50 #[.agg #[.int .i64 6, .int .i64 n, .int .i64 a, .int .i64 wk, .int .i64 wt, .int .i64 kk, .int .i64 kn, .string ks, .int .i64 hk, .int .i64 hn, .string hs, .slice ra row.length rc, .int .i64 c, .int .i64 vk, .int .i64 vn, .string vs, .int .i64 wn, .int .i64 p, .int .i64 q], .agg #[.int .i64 6, .int .i64 0, .int .i64 0, .int .i64 0, .int .i64 0, .int .i64 0, .int .i64 0, .string ⟨#[]⟩, .int .i64 0, .int .i64 0, .string ⟨#[]⟩, .slice none 0 0, .int .i64 0, .int .i64 0, .int .i64 0, .string ⟨#[]⟩, .int .i64 0, .int .i64 0, .int .i64 0]] _ _ from SC.out)
  refine SC.out.mono ?_
  rintro e w30 ⟨⟨r, hr, rfl⟩, k9⟩
  have BZ := Lib.hid (B.out.trans (k9.mono B.out.size))
  have HR := Lib.hid hr
  clear k9 hr SC
  go_wp2_with fail
  go_ret2
  exact ⟨mpost_is HR.out (by rw [show Mv.bad (⟨6, n, a, (⟨wk, wt, ⟨kk, kn, ks⟩, ⟨hk, hn, hs⟩, ra, rc, row, c, ⟨vk, vn, vs⟩, wn⟩ : Wsh), p, q⟩ : Mv) = false by simp [Mv.bad, show oneBad 6 = false from by decide], show Mv.told (⟨6, n, a, (⟨wk, wt, ⟨kk, kn, ks⟩, ⟨hk, hn, hs⟩, ra, rc, row, c, ⟨vk, vn, vs⟩, wn⟩ : Wsh), p, q⟩ : Mv) = Mv.only 6 by simp [Mv.told]]; exact ⟨fun h => meqv_symm h.2, fun h => ⟨rfl, meqv_symm h⟩⟩) (fun _ => by rw [show Mv.bytes (⟨6, n, a, (⟨wk, wt, ⟨kk, kn, ks⟩, ⟨hk, hn, hs⟩, ra, rc, row, c, ⟨vk, vn, vs⟩, wn⟩ : Wsh), p, q⟩ : Mv) = [c1] by simp [Mv.bytes, HC1.out]]) (by first | exact Nat.zero_le _ | (rw [bs_size]; simp; done) | (rw [bs_size]; simp only [List.length_cons, List.length_nil, List.length_append]; omega)), BZ.out⟩
set_option maxHeartbeats 8000000 in
theorem rb_7 (n a wk wt kk kn hk hn c vk vn wn p q : Int) (ks hs vs : ByteArray) (ra : Option Addr) (rc : Nat) (row : List V) (w : World) (hV : Vs w ra row) (hf : ((⟨wk, wt, ⟨kk, kn, ks⟩, ⟨hk, hn, hs⟩, ra, rc, row, c, ⟨vk, vn, vs⟩, wn⟩ : Wsh)).fits) (hl : row.length ≤ 1000) :
    Calls Try.prog 44 #[.agg #[.int .i64 7, .int .i64 n, .int .i64 a, .int .i64 wk, .int .i64 wt, .int .i64 kk, .int .i64 kn, .string ks, .int .i64 hk, .int .i64 hn, .string hs, .slice ra row.length rc, .int .i64 c, .int .i64 vk, .int .i64 vn, .string vs, .int .i64 wn, .int .i64 p, .int .i64 q]] w fun e w' => MPost (⟨7, n, a, (⟨wk, wt, ⟨kk, kn, ks⟩, ⟨hk, hn, hs⟩, ra, rc, row, c, ⟨vk, vn, vs⟩, wn⟩ : Wsh), p, q⟩ : Mv) e ∧ Below w.heap.size w w' := by
  obtain ⟨c1, hc1⟩ : ∃ c, oneB 7 = c := ⟨_, rfl⟩
  obtain ⟨c2, hc2⟩ : ∃ c, oneB n = c := ⟨_, rfl⟩
  obtain ⟨r2, hr2⟩ : ∃ r, oneBad n = !r := ⟨!oneBad n, by simp⟩
  have hk1 : (c1.toNat : Int) = 7 := by rw [← hc1]; decide
  have O2 := Lib.hid (one_is hc2 hr2)
  have HK1 := Lib.hid hk1
  have HC1 := Lib.hid hc1
  have HC2 := Lib.hid hc2
  have HR2 := Lib.hid hr2
  have VV := Lib.hid hV
  have HF := Lib.hid hf
  have X := Lib.hid (Row.new w 99 [.int .i64 7, .int .i64 n, .int .i64 a, .int .i64 wk, .int .i64 wt, .int .i64 kk, .int .i64 kn, .string ks, .int .i64 hk, .int .i64 hn, .string hs, .slice ra row.length rc, .int .i64 c, .int .i64 vk, .int .i64 vn, .string vs, .int .i64 wn, .int .i64 p, .int .i64 q])
  have B := Lib.hid ((Below.refl w.heap.size w).alloc (Nat.le_refl _) (.cells #[.int .i64 7, .int .i64 n, .int .i64 a, .int .i64 wk, .int .i64 wt, .int .i64 kk, .int .i64 kn, .string ks, .int .i64 hk, .int .i64 hn, .string hs, .slice ra row.length rc, .int .i64 c, .int .i64 vk, .int .i64 vn, .string vs, .int .i64 wn, .int .i64 p, .int .i64 q] 99))
  have e2 := app2 c1 c2
  have q2 := fit_size (a := [c1]) (b := [c2]) (by simp)
  have hne : w.heap.size ≠ w.heap.size + 1 := by omega
  have T := Lib.hid (show Row ((w.alloc (.cells #[.int .i64 7, .int .i64 n, .int .i64 a, .int .i64 wk, .int .i64 wt, .int .i64 kk, .int .i64 kn, .string ks, .int .i64 hk, .int .i64 hn, .string hs, .slice ra row.length rc, .int .i64 c, .int .i64 vk, .int .i64 vn, .string vs, .int .i64 wn, .int .i64 p, .int .i64 q] 99)).alloc (.cells #[.int .i64 0, .int .i64 0, .int .i64 0, .int .i64 0, .int .i64 0, .int .i64 0, .int .i64 0, .string ⟨#[]⟩, .int .i64 0, .int .i64 0, .string ⟨#[]⟩, .slice none 0 0, .int .i64 0, .int .i64 0, .int .i64 0, .string ⟨#[]⟩, .int .i64 0, .int .i64 0, .int .i64 0] 99)) (w.heap.size + 1) 99 [.int .i64 0, .int .i64 0, .int .i64 0, .int .i64 0, .int .i64 0, .int .i64 0, .int .i64 0, .string ⟨#[]⟩, .int .i64 0, .int .i64 0, .string ⟨#[]⟩, .slice none 0 0, .int .i64 0, .int .i64 0, .int .i64 0, .string ⟨#[]⟩, .int .i64 0, .int .i64 0, .int .i64 0] from Wide.new_at (by simp))
  have x0 := X.out.cell (i := 0) rfl
  clear hc1 hc2 hr2 hk1 hV hf
  go_enter Try.func44, Try.ntmps44
  go_wp2_with (refine store_row T.out [.int .i64 7, .int .i64 0, .int .i64 0, .int .i64 0, .int .i64 0, .int .i64 0, .int .i64 0, .string ⟨#[]⟩, .int .i64 0, .int .i64 0, .string ⟨#[]⟩, .slice none 0 0, .int .i64 0, .int .i64 0, .int .i64 0, .string ⟨#[]⟩, .int .i64 0, .int .i64 0, .int .i64 0] 99 (by kernel_rfl) rfl (by simp [Value.oneCell']) rfl rfl rfl rfl ?_; intro w3 hz kz zz; clear x0; replace X := Lib.hid ((X.out.alloc (.cells #[.int .i64 0, .int .i64 0, .int .i64 0, .int .i64 0, .int .i64 0, .int .i64 0, .int .i64 0, .string ⟨#[]⟩, .int .i64 0, .int .i64 0, .string ⟨#[]⟩, .slice none 0 0, .int .i64 0, .int .i64 0, .int .i64 0, .string ⟨#[]⟩, .int .i64 0, .int .i64 0, .int .i64 0] 99)).chg kz hne); replace B := Lib.hid ((B.out.alloc B.out.size (.cells #[.int .i64 0, .int .i64 0, .int .i64 0, .int .i64 0, .int .i64 0, .int .i64 0, .int .i64 0, .string ⟨#[]⟩, .int .i64 0, .int .i64 0, .string ⟨#[]⟩, .slice none 0 0, .int .i64 0, .int .i64 0, .int .i64 0, .string ⟨#[]⟩, .int .i64 0, .int .i64 0, .int .i64 0] 99)).trans (kz.below (B := w.heap.size) (by have := B.out.size; simp; omega) (fun i e => by have e : i = w.heap.size + 1 := e; omega))); replace T := Lib.hid hz; clear hz kz zz; have x0 := X.out.cell (i := 0) rfl; have x1 := (X.out.alloc (.cells #[.int .u8 7] 5)).cell (i := 1) rfl; have cv := str1_at HK1.out w3)
  clear x0 x1 cv
  have HW : w.heap.size ≤ w.heap.size + 1 := by omega
  generalize w.heap.size + 1 = g at *
  replace X := Lib.hid (X.out.alloc (.cells #[.int .u8 7] 5))
  replace T := Lib.hid (T.out.alloc (.cells #[.int .u8 7] 5))
  replace B := Lib.hid (B.out.alloc B.out.size (.cells #[.int .u8 7] 5))
  refine (O2.out _).mono ?_
  rintro e w4 ⟨rfl, k9⟩
  replace X := Lib.hid (X.out.below k9 X.out.lt)
  replace T := Lib.hid (T.out.below k9 T.out.lt)
  replace B := Lib.hid (B.out.trans (k9.mono B.out.size))
  clear k9
  have x0 := X.out.cell (i := 0) rfl
  cases r2
  · have HQ := HR2
    go_wp2_with fail
    go_ret2
    exact ⟨mpost_no (fun h => by have h1 := h.2.2.1; simp [Mv.told, Mv.only] at h1; exact nbad_zero HQ.out h1.symm) (by first | exact Nat.zero_le _ | (rw [bs_size]; simp; done) | (rw [bs_size]; simp only [List.length_cons, List.length_nil, List.length_append]; omega)), B.out⟩
  go_wp2_with (first | (refine load_row_g X.out 99 Try.underlying99 rfl (by kernel_rfl) (by rfl) rfl rfl ?_) | (refine load_row_g T.out 99 Try.underlying99 rfl (by kernel_rfl) (by rfl) rfl rfl ?_))
  have SC := Lib.hid (msame_calls (⟨7, n, a, (⟨wk, wt, ⟨kk, kn, ks⟩, ⟨hk, hn, hs⟩, ra, rc, row, c, ⟨vk, vn, vs⟩, wn⟩ : Wsh), p, q⟩ : Mv) (Mv.only 7) _ (VV.out.keep B.out) (Vs.nil _ _) (by simp only; omega) (by first | (simp [noW, Mv.only]; done) | (simp only; omega)))
  replace SC := Lib.hid (show Calls Try.prog 50 #[.agg #[.int .i64 7, .int .i64 n, .int .i64 a, .int .i64 wk, .int .i64 wt, .int .i64 kk, .int .i64 kn, .string ks, .int .i64 hk, .int .i64 hn, .string hs, .slice ra row.length rc, .int .i64 c, .int .i64 vk, .int .i64 vn, .string vs, .int .i64 wn, .int .i64 p, .int .i64 q], .agg #[.int .i64 7, .int .i64 0, .int .i64 0, .int .i64 0, .int .i64 0, .int .i64 0, .int .i64 0, .string ⟨#[]⟩, .int .i64 0, .int .i64 0, .string ⟨#[]⟩, .slice none 0 0, .int .i64 0, .int .i64 0, .int .i64 0, .string ⟨#[]⟩, .int .i64 0, .int .i64 0, .int .i64 0]] _ _ from SC.out)
  refine SC.out.mono ?_
  rintro e w30 ⟨⟨r, hr, rfl⟩, k9⟩
  have BZ := Lib.hid (B.out.trans (k9.mono B.out.size))
  have HR := Lib.hid hr
  clear k9 hr SC
  go_wp2_with fail
  go_ret2
  exact ⟨mpost_is HR.out (by rw [show Mv.bad (⟨7, n, a, (⟨wk, wt, ⟨kk, kn, ks⟩, ⟨hk, hn, hs⟩, ra, rc, row, c, ⟨vk, vn, vs⟩, wn⟩ : Wsh), p, q⟩ : Mv) = false by simp [Mv.bad, show oneBad 7 = false from by decide], show Mv.told (⟨7, n, a, (⟨wk, wt, ⟨kk, kn, ks⟩, ⟨hk, hn, hs⟩, ra, rc, row, c, ⟨vk, vn, vs⟩, wn⟩ : Wsh), p, q⟩ : Mv) = Mv.only 7 by simp [Mv.told]]; exact ⟨fun h => meqv_symm h.2, fun h => ⟨rfl, meqv_symm h⟩⟩) (fun _ => by rw [show Mv.bytes (⟨7, n, a, (⟨wk, wt, ⟨kk, kn, ks⟩, ⟨hk, hn, hs⟩, ra, rc, row, c, ⟨vk, vn, vs⟩, wn⟩ : Wsh), p, q⟩ : Mv) = [c1] by simp [Mv.bytes, HC1.out]]) (by first | exact Nat.zero_le _ | (rw [bs_size]; simp; done) | (rw [bs_size]; simp only [List.length_cons, List.length_nil, List.length_append]; omega)), BZ.out⟩
set_option maxHeartbeats 8000000 in
theorem rb_9 (n a wk wt kk kn hk hn c vk vn wn p q : Int) (ks hs vs : ByteArray) (ra : Option Addr) (rc : Nat) (row : List V) (w : World) (hV : Vs w ra row) (hf : ((⟨wk, wt, ⟨kk, kn, ks⟩, ⟨hk, hn, hs⟩, ra, rc, row, c, ⟨vk, vn, vs⟩, wn⟩ : Wsh)).fits) (hl : row.length ≤ 1000) :
    Calls Try.prog 44 #[.agg #[.int .i64 9, .int .i64 n, .int .i64 a, .int .i64 wk, .int .i64 wt, .int .i64 kk, .int .i64 kn, .string ks, .int .i64 hk, .int .i64 hn, .string hs, .slice ra row.length rc, .int .i64 c, .int .i64 vk, .int .i64 vn, .string vs, .int .i64 wn, .int .i64 p, .int .i64 q]] w fun e w' => MPost (⟨9, n, a, (⟨wk, wt, ⟨kk, kn, ks⟩, ⟨hk, hn, hs⟩, ra, rc, row, c, ⟨vk, vn, vs⟩, wn⟩ : Wsh), p, q⟩ : Mv) e ∧ Below w.heap.size w w' := by
  obtain ⟨c1, hc1⟩ : ∃ c, oneB 9 = c := ⟨_, rfl⟩
  obtain ⟨c2, hc2⟩ : ∃ c, oneB n = c := ⟨_, rfl⟩
  obtain ⟨r2, hr2⟩ : ∃ r, oneBad n = !r := ⟨!oneBad n, by simp⟩
  have hk1 : (c1.toNat : Int) = 9 := by rw [← hc1]; decide
  have O2 := Lib.hid (one_is hc2 hr2)
  have HK1 := Lib.hid hk1
  have HC1 := Lib.hid hc1
  have HC2 := Lib.hid hc2
  have HR2 := Lib.hid hr2
  have VV := Lib.hid hV
  have HF := Lib.hid hf
  have X := Lib.hid (Row.new w 99 [.int .i64 9, .int .i64 n, .int .i64 a, .int .i64 wk, .int .i64 wt, .int .i64 kk, .int .i64 kn, .string ks, .int .i64 hk, .int .i64 hn, .string hs, .slice ra row.length rc, .int .i64 c, .int .i64 vk, .int .i64 vn, .string vs, .int .i64 wn, .int .i64 p, .int .i64 q])
  have B := Lib.hid ((Below.refl w.heap.size w).alloc (Nat.le_refl _) (.cells #[.int .i64 9, .int .i64 n, .int .i64 a, .int .i64 wk, .int .i64 wt, .int .i64 kk, .int .i64 kn, .string ks, .int .i64 hk, .int .i64 hn, .string hs, .slice ra row.length rc, .int .i64 c, .int .i64 vk, .int .i64 vn, .string vs, .int .i64 wn, .int .i64 p, .int .i64 q] 99))
  have e2 := app2 c1 c2
  have q2 := fit_size (a := [c1]) (b := [c2]) (by simp)
  obtain ⟨lp, hlp⟩ : ∃ l, le (u64 p) 8 = l := ⟨_, rfl⟩
  obtain ⟨lq, hlq⟩ : ∃ l, le (u64 q) 8 = l := ⟨_, rfl⟩
  have zp : lp.length = 8 := by rw [← hlp, le_length]
  have zq : lq.length = 8 := by rw [← hlq, le_length]
  have LP := Lib.hid (fun wx => reflong_calls p wx)
  have LQ := Lib.hid (fun wx => reflong_calls q wx)
  rw [hlp] at LP
  rw [hlq] at LQ
  have e3 := app3 c1 c2 lp
  have q3 := fit_size (a := [c1, c2]) (b := lp) (by simp only [List.length_cons, List.length_nil]; omega)
  have e4 : bs (c1 :: c2 :: lp) ++ bs lq = bs (c1 :: c2 :: (lp ++ lq)) := (bs_append (c1 :: c2 :: lp) lq).symm
  have q4 := fit_size (a := c1 :: c2 :: lp) (b := lq) (by simp only [List.length_cons, List.length_nil]; omega)
  have HLP := Lib.hid hlp
  have HLQ := Lib.hid hlq
  clear hlp hlq
  have hne : w.heap.size ≠ w.heap.size + 1 := by omega
  have T := Lib.hid (show Row ((w.alloc (.cells #[.int .i64 9, .int .i64 n, .int .i64 a, .int .i64 wk, .int .i64 wt, .int .i64 kk, .int .i64 kn, .string ks, .int .i64 hk, .int .i64 hn, .string hs, .slice ra row.length rc, .int .i64 c, .int .i64 vk, .int .i64 vn, .string vs, .int .i64 wn, .int .i64 p, .int .i64 q] 99)).alloc (.cells #[.int .i64 0, .int .i64 0, .int .i64 0, .int .i64 0, .int .i64 0, .int .i64 0, .int .i64 0, .string ⟨#[]⟩, .int .i64 0, .int .i64 0, .string ⟨#[]⟩, .slice none 0 0, .int .i64 0, .int .i64 0, .int .i64 0, .string ⟨#[]⟩, .int .i64 0, .int .i64 0, .int .i64 0] 99)) (w.heap.size + 1) 99 [.int .i64 0, .int .i64 0, .int .i64 0, .int .i64 0, .int .i64 0, .int .i64 0, .int .i64 0, .string ⟨#[]⟩, .int .i64 0, .int .i64 0, .string ⟨#[]⟩, .slice none 0 0, .int .i64 0, .int .i64 0, .int .i64 0, .string ⟨#[]⟩, .int .i64 0, .int .i64 0, .int .i64 0] from Wide.new_at (by simp))
  have x0 := X.out.cell (i := 0) rfl
  clear hc1 hc2 hr2 hk1 hV hf
  go_enter Try.func44, Try.ntmps44
  go_wp2_with (refine store_row T.out [.int .i64 9, .int .i64 0, .int .i64 0, .int .i64 0, .int .i64 0, .int .i64 0, .int .i64 0, .string ⟨#[]⟩, .int .i64 0, .int .i64 0, .string ⟨#[]⟩, .slice none 0 0, .int .i64 0, .int .i64 0, .int .i64 0, .string ⟨#[]⟩, .int .i64 0, .int .i64 0, .int .i64 0] 99 (by kernel_rfl) rfl (by simp [Value.oneCell']) rfl rfl rfl rfl ?_; intro w3 hz kz zz; clear x0; replace X := Lib.hid ((X.out.alloc (.cells #[.int .i64 0, .int .i64 0, .int .i64 0, .int .i64 0, .int .i64 0, .int .i64 0, .int .i64 0, .string ⟨#[]⟩, .int .i64 0, .int .i64 0, .string ⟨#[]⟩, .slice none 0 0, .int .i64 0, .int .i64 0, .int .i64 0, .string ⟨#[]⟩, .int .i64 0, .int .i64 0, .int .i64 0] 99)).chg kz hne); replace B := Lib.hid ((B.out.alloc B.out.size (.cells #[.int .i64 0, .int .i64 0, .int .i64 0, .int .i64 0, .int .i64 0, .int .i64 0, .int .i64 0, .string ⟨#[]⟩, .int .i64 0, .int .i64 0, .string ⟨#[]⟩, .slice none 0 0, .int .i64 0, .int .i64 0, .int .i64 0, .string ⟨#[]⟩, .int .i64 0, .int .i64 0, .int .i64 0] 99)).trans (kz.below (B := w.heap.size) (by have := B.out.size; simp; omega) (fun i e => by have e : i = w.heap.size + 1 := e; omega))); replace T := Lib.hid hz; clear hz kz zz; have x0 := X.out.cell (i := 0) rfl; have x1 := (X.out.alloc (.cells #[.int .u8 9] 5)).cell (i := 1) rfl; have cv := str1_at HK1.out w3)
  clear x0 x1 cv
  have HW : w.heap.size ≤ w.heap.size + 1 := by omega
  generalize w.heap.size + 1 = g at *
  replace X := Lib.hid (X.out.alloc (.cells #[.int .u8 9] 5))
  replace T := Lib.hid (T.out.alloc (.cells #[.int .u8 9] 5))
  replace B := Lib.hid (B.out.alloc B.out.size (.cells #[.int .u8 9] 5))
  refine (O2.out _).mono ?_
  rintro e w4 ⟨rfl, k9⟩
  replace X := Lib.hid (X.out.below k9 X.out.lt)
  replace T := Lib.hid (T.out.below k9 T.out.lt)
  replace B := Lib.hid (B.out.trans (k9.mono B.out.size))
  clear k9
  have x0 := X.out.cell (i := 0) rfl
  have y1 := X.out.cell (i := 1) rfl
  have t1 := T.out.cell (i := 1) rfl
  have g1 := T.out.frozen 1 (by simp)
  have y17 := X.out.cell (i := 17) rfl
  have t17 := T.out.cell (i := 17) rfl
  have g17 := T.out.frozen 17 (by simp)
  have y18 := X.out.cell (i := 18) rfl
  have t18 := T.out.cell (i := 18) rfl
  have g18 := T.out.frozen 18 (by simp)
  have XS := Lib.hid (((X.out.set_ne ⟨g, 1, none⟩ (.int .i64 n) (Ne.symm hne)).set_ne ⟨g, 17, none⟩ (.int .i64 p) (Ne.symm hne)).set_ne ⟨g, 18, none⟩ (.int .i64 q) (Ne.symm hne))
  have TS := Lib.hid ((((T.out.set 1 (.int .i64 n)).set 17 (.int .i64 p)).set 18 (.int .i64 q)).cast (cs' := [.int .i64 9, .int .i64 n, .int .i64 0, .int .i64 0, .int .i64 0, .int .i64 0, .int .i64 0, .string ⟨#[]⟩, .int .i64 0, .int .i64 0, .string ⟨#[]⟩, .slice none 0 0, .int .i64 0, .int .i64 0, .int .i64 0, .string ⟨#[]⟩, .int .i64 0, .int .i64 p, .int .i64 q]) rfl)
  have BS := Lib.hid (((B.out.setCell (p := ⟨g, 1, none⟩) HW (.int .i64 n)).setCell (p := ⟨g, 17, none⟩) HW (.int .i64 p)).setCell (p := ⟨g, 18, none⟩) HW (.int .i64 q))
  go_wp2_with fail
  replace X := XS
  replace T := TS
  replace B := BS
  clear y1 t1 g1 y17 t17 g17 y18 t18 g18
  replace X := Lib.hid X.out.drew
  replace T := Lib.hid T.out.drew
  replace B := Lib.hid B.out.drew
  refine Reg.start (fun w' => w'.cell? ⟨w.heap.size, 17, none⟩ = some (.int .i64 p) ∧ w'.cell? ⟨w.heap.size, 18, none⟩ = some (.int .i64 q)) (fun i => false) (by kernel_rfl) ⟨X.out.cell rfl, X.out.cell rfl⟩ (fun hHeld => ?_)
  generalize (((w4.setCell ⟨g, 1, none⟩ (.int .i64 n)).setCell ⟨g, 17, none⟩ (.int .i64 p)).setCell ⟨g, 18, none⟩ (.int .i64 q)).drew = wd at *
  refine Reg.takeI 0 (v := ?_) rfl (by kernel_rfl) (by kernel_rfl) (by kernel_rfl) (by kernel_rfl) (fun _ _ _ h => h) (by rfl) ?_ hHeld ?_
  rotate_left 1
  · (intro w hSw; (try dsimp only at hSw); go_simp; try with_reducible rfl)
  try simp only [Act.put, List.setIfInBounds_toArray, List.set_cons_zero, List.set_cons_succ]
  refine Reg.takeI 1 (v := ?_) rfl (by kernel_rfl) (by kernel_rfl) (by kernel_rfl) (by kernel_rfl) (fun _ _ _ h => h) (by rfl) ?_ hHeld ?_
  rotate_left 1
  · (intro w hSw; (try dsimp only at hSw); go_simp; try with_reducible rfl)
  try simp only [Act.put, List.setIfInBounds_toArray, List.set_cons_zero, List.set_cons_succ]
  refine Reg.takeI 2 (v := ?_) rfl (by kernel_rfl) (by kernel_rfl) (by kernel_rfl) (by kernel_rfl) (fun _ _ _ h => h) (by rfl) ?_ hHeld ?_
  rotate_left 1
  · (intro w hSw; (try dsimp only at hSw); go_simp; try with_reducible rfl)
  try simp only [Act.put, List.setIfInBounds_toArray, List.set_cons_zero, List.set_cons_succ]
  refine Reg.takeI 3 (v := ?_) rfl (by kernel_rfl) (by kernel_rfl) (by kernel_rfl) (by kernel_rfl) (fun _ _ _ h => h) (by rfl) ?_ hHeld ?_
  rotate_left 1
  · (intro w hSw; (try dsimp only at hSw); go_simp; try with_reducible rfl)
  try simp only [Act.put, List.setIfInBounds_toArray, List.set_cons_zero, List.set_cons_succ]
  refine Reg.takeI 4 (v := ?_) rfl (by kernel_rfl) (by kernel_rfl) (by kernel_rfl) (by kernel_rfl) (fun _ _ _ h => h) (by rfl) ?_ hHeld ?_
  rotate_left 1
  · (intro w hSw; (try dsimp only at hSw); go_simp; try with_reducible rfl)
  try simp only [Act.put, List.setIfInBounds_toArray, List.set_cons_zero, List.set_cons_succ]
  refine Reg.takeI 7 (v := ?_) rfl (by kernel_rfl) (by kernel_rfl) (by kernel_rfl) (by kernel_rfl) (fun _ _ _ h => h) (by rfl) ?_ hHeld ?_
  rotate_left 1
  · (intro w hSw; (try dsimp only at hSw); go_simp; try with_reducible rfl)
  try simp only [Act.put, List.setIfInBounds_toArray, List.set_cons_zero, List.set_cons_succ]
  refine Reg.takeI 8 (v := ?_) rfl (by kernel_rfl) (by kernel_rfl) (by kernel_rfl) (by kernel_rfl) (fun _ _ _ h => h) (by rfl) ?_ hHeld ?_
  rotate_left 1
  · (intro w hSw; (try dsimp only at hSw); go_simp; try with_reducible rfl)
  try simp only [Act.put, List.setIfInBounds_toArray, List.set_cons_zero, List.set_cons_succ]
  refine Reg.oneI 5 rfl (by kernel_rfl) (by rfl) (fun K hK => ?_)
  go_simp
  go_at_call 104
  refine (LP.out _).mono ?_
  rintro e wq5 ⟨rfl, k9⟩
  replace X := Lib.hid (X.out.below k9 X.out.lt)
  replace T := Lib.hid (T.out.below k9 T.out.lt)
  replace B := Lib.hid (B.out.trans (k9.mono B.out.size))
  clear k9
  go_wp2_with fail
  refine hK.out _ _ (fun _ => ⟨X.out.cell rfl, X.out.cell rfl⟩) (fun hHeld => ?_)
  replace hHeld := hHeld (by first | rfl | trivial)
  clear hK K
  try simp only [Act.put, List.setIfInBounds_toArray, List.set_cons_zero, List.set_cons_succ]
  refine Reg.takeI 6 (v := ?_) rfl (by kernel_rfl) (by kernel_rfl) (by kernel_rfl) (by kernel_rfl) (fun _ _ _ h => h) (by rfl) ?_ hHeld ?_
  rotate_left 1
  · (intro w hSw; (try dsimp only at hSw); go_simp; try with_reducible rfl)
  try simp only [Act.put, List.setIfInBounds_toArray, List.set_cons_zero, List.set_cons_succ]
  refine Reg.oneI 9 rfl (by kernel_rfl) (by rfl) (fun K hK => ?_)
  go_simp
  go_at_call 104
  refine (LQ.out _).mono ?_
  rintro e wq9 ⟨rfl, k9⟩
  replace X := Lib.hid (X.out.below k9 X.out.lt)
  replace T := Lib.hid (T.out.below k9 T.out.lt)
  replace B := Lib.hid (B.out.trans (k9.mono B.out.size))
  clear k9
  go_wp2_with fail
  refine hK.out _ _ (fun _ => ⟨X.out.cell rfl, X.out.cell rfl⟩) (fun hHeld => ?_)
  replace hHeld := hHeld (by first | rfl | trivial)
  clear hK K
  try simp only [Act.put, List.setIfInBounds_toArray, List.set_cons_zero, List.set_cons_succ]
  refine Reg.takeI 10 (v := ?_) rfl (by kernel_rfl) (by kernel_rfl) (by kernel_rfl) (by kernel_rfl) (fun _ _ _ h => h) (by rfl) ?_ hHeld ?_
  rotate_left 1
  · (intro w hSw; (try dsimp only at hSw); go_simp; try with_reducible rfl)
  try simp only [Act.put, List.setIfInBounds_toArray, List.set_cons_zero, List.set_cons_succ]
  refine Reg.takeI 11 (v := ?_) rfl (by kernel_rfl) (by kernel_rfl) (by kernel_rfl) (by kernel_rfl) (fun _ _ _ h => h) (by rfl) ?_ hHeld ?_
  rotate_left 1
  · (intro w hSw; (try dsimp only at hSw); go_simp; try with_reducible rfl)
  try simp only [Act.put, List.setIfInBounds_toArray, List.set_cons_zero, List.set_cons_succ]
  refine Reg.doneI (by kernel_rfl) ?_
  cases r2
  · have HQ := HR2
    go_wp2_with fail
    go_ret2
    exact ⟨mpost_no (fun h => by have h1 := h.1; simp [Mv.bad, HQ.out, show oneBad 9 = false from by decide] at h1) (by first | exact Nat.zero_le _ | (rw [bs_size]; simp; done) | (rw [bs_size]; simp only [List.length_cons, List.length_nil, List.length_append]; omega)), B.out⟩
  go_wp2_with (first | (refine load_row_g X.out 99 Try.underlying99 rfl (by kernel_rfl) (by rfl) rfl rfl ?_) | (refine load_row_g T.out 99 Try.underlying99 rfl (by kernel_rfl) (by rfl) rfl rfl ?_))
  have SC := Lib.hid (msame_calls (⟨9, n, a, (⟨wk, wt, ⟨kk, kn, ks⟩, ⟨hk, hn, hs⟩, ra, rc, row, c, ⟨vk, vn, vs⟩, wn⟩ : Wsh), p, q⟩ : Mv) (⟨9, n, 0, noW, p, q⟩) _ (VV.out.keep B.out) (Vs.nil _ _) (by simp only; omega) (by first | (simp [noW, Mv.only]; done) | (simp only; omega)))
  replace SC := Lib.hid (show Calls Try.prog 50 #[.agg #[.int .i64 9, .int .i64 n, .int .i64 a, .int .i64 wk, .int .i64 wt, .int .i64 kk, .int .i64 kn, .string ks, .int .i64 hk, .int .i64 hn, .string hs, .slice ra row.length rc, .int .i64 c, .int .i64 vk, .int .i64 vn, .string vs, .int .i64 wn, .int .i64 p, .int .i64 q], .agg #[.int .i64 9, .int .i64 n, .int .i64 0, .int .i64 0, .int .i64 0, .int .i64 0, .int .i64 0, .string ⟨#[]⟩, .int .i64 0, .int .i64 0, .string ⟨#[]⟩, .slice none 0 0, .int .i64 0, .int .i64 0, .int .i64 0, .string ⟨#[]⟩, .int .i64 0, .int .i64 p, .int .i64 q]] _ _ from SC.out)
  refine SC.out.mono ?_
  rintro e w30 ⟨⟨r, hr, rfl⟩, k9⟩
  have BZ := Lib.hid (B.out.trans (k9.mono B.out.size))
  have HR := Lib.hid hr
  clear k9 hr SC
  go_wp2_with fail
  go_ret2
  exact ⟨mpost_is HR.out (by rw [show Mv.bad (⟨9, n, a, (⟨wk, wt, ⟨kk, kn, ks⟩, ⟨hk, hn, hs⟩, ra, rc, row, c, ⟨vk, vn, vs⟩, wn⟩ : Wsh), p, q⟩ : Mv) = false by simp [Mv.bad, HR2.out, show oneBad 9 = false from by decide], show Mv.told (⟨9, n, a, (⟨wk, wt, ⟨kk, kn, ks⟩, ⟨hk, hn, hs⟩, ra, rc, row, c, ⟨vk, vn, vs⟩, wn⟩ : Wsh), p, q⟩ : Mv) = ⟨9, n, 0, noW, p, q⟩ by simp [Mv.told]]; exact ⟨fun h => meqv_symm h.2, fun h => ⟨rfl, meqv_symm h⟩⟩) (fun _ => by rw [show Mv.bytes (⟨9, n, a, (⟨wk, wt, ⟨kk, kn, ks⟩, ⟨hk, hn, hs⟩, ra, rc, row, c, ⟨vk, vn, vs⟩, wn⟩ : Wsh), p, q⟩ : Mv) = c1 :: c2 :: (lp ++ lq) by simp [Mv.bytes, HC1.out, HC2.out, HLP.out, HLQ.out]]) (by first | exact Nat.zero_le _ | (rw [bs_size]; simp; done) | (rw [bs_size]; simp only [List.length_cons, List.length_nil, List.length_append]; omega)), BZ.out⟩
set_option maxHeartbeats 4000000 in
theorem rb_bad (m : Mv) (w : World) (h : m.k < 1 ∨ 9 < m.k) :
    Calls Try.prog 44 #[.agg m.cells.toArray] w fun e w' => MPost m e ∧ Below w.heap.size w w' := by
  have hno : ¬ (m.bad = false ∧ m.told.eqv m) := fun e => by
    have h1 := e.1
    unfold Mv.bad at h1
    have a1 : m.k ≠ 1 := by omega
    have a2 : ¬ (m.k = 2 ∨ m.k = 3 ∨ m.k = 4 ∨ m.k = 8) := by omega
    have a3 : m.k ≠ 9 := by omega
    have a4 : m.k ≠ 5 := by omega
    have a5 : m.k ≠ 6 := by omega
    have a6 : m.k ≠ 7 := by omega
    simp [a1, a2, a3, a4, a5, a6] at h1
  have HNO := Lib.hid hno
  have X := Lib.hid (Row.new w 99 m.cells)
  have B := Lib.hid ((Below.refl w.heap.size w).alloc (Nat.le_refl _) (.cells m.cells.toArray 99))
  have x0 := X.out.cell (i := 0) (v := .int .i64 m.k) rfl
  clear hno
  by_cases h1 : m.k < 1
  · have d1 : decide (m.k < 1) = true := by simpa using h1
    go_enter Try.func44, Try.ntmps44
    go_wp2_with fail
    go_ret2
    exact ⟨mpost_no HNO.out (Nat.zero_le _), B.out⟩
  have d1 : decide (m.k < 1) = false := by simpa using h1
  have h9 : 9 < m.k := by omega
  have d2 : decide (9 < m.k) = true := by simpa using h9
  clear h h1 h9
  go_enter Try.func44, Try.ntmps44
  go_wp2_with fail
  go_ret2
  exact ⟨mpost_no HNO.out (Nat.zero_le _), B.out⟩
theorem refbytes_calls (m : Mv) (w : World) (hV : Vs w m.w.ra m.w.row) (hf : m.w.fits) (hl : m.w.row.length ≤ 1000) :
    Calls Try.prog 44 #[.agg m.cells.toArray] w fun e w' => MPost m e ∧ Below w.heap.size w w' := by
  by_cases hb : m.k < 1 ∨ 9 < m.k
  · exact rb_bad m w hb
  · obtain ⟨k, n, a, ⟨wk, wt, ⟨kk, kn, ks⟩, ⟨hk, hn, hs⟩, ra, rc, row, c, ⟨vk, vn, vs⟩, wn⟩, p, q⟩ := m
    simp only at hb hV hl hf
    rcases (by omega : k = 1 ∨ k = 2 ∨ k = 3 ∨ k = 4 ∨ k = 5 ∨ k = 6 ∨ k = 7 ∨ k = 8 ∨ k = 9) with rfl | rfl | rfl | rfl | rfl | rfl | rfl | rfl | rfl
    · by_cases h4 : a = 4
      · subst h4
        exact rb_14 n wk wt kk kn hk hn c vk vn wn p q ks hs vs ra rc row w hV hf hl
      · exact rb_1 n a wk wt kk kn hk hn c vk vn wn p q ks hs vs ra rc row w hV hf hl h4
    · exact rb_2 n a wk wt kk kn hk hn c vk vn wn p q ks hs vs ra rc row w hV hf hl
    · exact rb_3 n a wk wt kk kn hk hn c vk vn wn p q ks hs vs ra rc row w hV hf hl
    · exact rb_4 n a wk wt kk kn hk hn c vk vn wn p q ks hs vs ra rc row w hV hf hl
    · exact rb_5 n a wk wt kk kn hk hn c vk vn wn p q ks hs vs ra rc row w hV hf hl
    · exact rb_6 n a wk wt kk kn hk hn c vk vn wn p q ks hs vs ra rc row w hV hf hl
    · exact rb_7 n a wk wt kk kn hk hn c vk vn wn p q ks hs vs ra rc row w hV hf hl
    · exact rb_8 n a wk wt kk kn hk hn c vk vn wn p q ks hs vs ra rc row w hV hf hl
    · exact rb_9 n a wk wt kk kn hk hn c vk vn wn p q ks hs vs ra rc row w hV hf hl
end Go.Proofs.Ytcfjooeagfollaa.Bill

/- gaugerref26.Read. Printed by bill_refread.py -/
namespace Go.Proofs.Ytcfjooeagfollaa.Bill
open Go.RowKit Go.Proofs.Ytcfjooeagfollaa.Mem Go.Proofs.Ytcfjooeagfollaa.Bytes Go.Proofs.Ytcfjooeagfollaa.Num Go.Proofs.Ytcfjooeagfollaa.Sign
set_option linter.unusedSimpArgs false
set_option linter.unusedVariables false
set_option maxRecDepth 20000

theorem clong_to {b : Nat} {s s' : St} {z : Int} (q : eNum s 8 = (z, s')) (w : World) (h : Cur w b s) (hs : s.1.length ≤ 9223372036854775000) :
    Calls Try.prog 111 #[.pointer (some ⟨b, 0, none⟩)] w fun e w' => e = .returned (.int .i64 z) ∧ Cur w' b s' ∧ Chg (One b) w w' := by
  have h1 := clong_calls b s w h (by omega)
  rw [q] at h1
  exact h1
/-- The move that the cursor has read lies in block g. -/
def Got (W : World) (cb g : Nat) (m : Mv) (s : St) (wx : World) : Prop := ∃ ra rc, Row wx g 99 (m.at ra rc).cells ∧ Vs wx ra m.w.row ∧ (∀ ad, ra = some ad → m.w.row ≠ [] → W.heap.size ≤ ad.block) ∧ Cur wx cb s ∧ Below W.heap.size W wx
theorem got_none {W : World} {cb g : Nat} {m : Mv} {s : St} {wx : World} (hm : m.w.ra = none ∧ m.w.rc = 0) (hr : m.w.row = []) (hX : Row wx g 99 m.cells) (hE : Cur wx cb s) (hB : Below W.heap.size W wx) : Got W cb g m s wx := by
  refine ⟨none, 0, ?_, by rw [hr]; exact Vs.nil _ _, fun ad e => (by cases e), hE, hB⟩
  obtain ⟨k, n, a, ⟨wk, wt, key, high, ra, rc, row, c, val, wn⟩, p, q⟩ := m
  obtain ⟨h1, h2⟩ := hm
  simp only at h1 h2
  subst h1 h2
  exact hX
theorem info_mv26 : (Try.prog.info? 99).map (fun i => (i.zero, i.size, i.bytes)) = some (some (.agg #[.int .i64 0, .int .i64 0, .int .i64 0, .int .i64 0, .int .i64 0, .int .i64 0, .int .i64 0, .string ⟨#[]⟩, .int .i64 0, .int .i64 0, .string ⟨#[]⟩, .slice none 0 0, .int .i64 0, .int .i64 0, .int .i64 0, .string ⟨#[]⟩, .int .i64 0, .int .i64 0, .int .i64 0]), 19, 192) := by kernel_rfl
theorem build_mv26 {ops : Array Oper} {rest : List Oper} {o : Oper} {a : Act} {w : World} {Q : Exit → Act → World → Prop} (m : Mv) (hg : o.guard = none) (x : Operand) (ho : o.op = .buildSlice 105 1 #[(0, x)]) (hx : a.eval x = .agg m.cells.toArray)
    (h : wpList Try.prog ops Q rest (a.put o.dst (.slice (some ⟨w.heap.size, 0, none⟩) 1 1)) (w.alloc (.cells m.cells.toArray 99))) : wpList Try.prog ops Q (o :: rest) a w := by
  have hi : (Try.prog.info? 99).map (fun i => (i.zero.map (·.cells.size), i.size)) = some (some 19, 19) := by kernel_rfl
  obtain ⟨ie, hie, he⟩ := Option.map_eq_some_iff.1 hi
  simp only [Prod.mk.injEq] at he
  obtain ⟨hz, hs⟩ := he
  obtain ⟨z, hz, hz2⟩ := Option.map_eq_some_iff.1 hz
  refine wpList_buildSlice hg 105 99 1 #[(0, x)] ho m.cells.toArray ie z Try.underlying105 hie hz (by rw [hs]; decide) (by rw [hs]; decide) ?_ h
  rw [hs]
  have e : (#[(0, x)].map fun (i, x) => (i, a.eval x)).toList = [(0, Value.agg m.cells.toArray)] := by simp [hx]
  rw [e]
  exact fill_mv m _ (by simp)

set_option maxHeartbeats 16000000 in
theorem refread26_calls (s : ByteArray) (w : World) (hs : s.size ≤ 1000000) :
    Calls Try.prog 49 #[.string s] w fun e w' => ReadRes (rd 400 s.data.toList) s.size e w' ∧ Below w.heap.size w w' := by
  have hss : s.data.toList.length = s.size := rfl
  obtain ⟨R, hR⟩ : ∃ R, rd 400 s.data.toList = R := ⟨_, rfl⟩
  rw [hR]
  have HR := Lib.hid hR
  have SS := Lib.hid hss
  have HL := Lib.hid (World.ownsRow_lit (e := 99) (size := 19) w #[] 0 (Nat.le_refl w.heap.size) (by unfold maxLen; omega) rfl)
  have B0 := Lib.hid ((Below.refl w.heap.size w).alloc (Nat.le_refl _) (.cells #[] 99))
  clear hR hss
  go_enter Try.func49, Try.ntmps49
  go_wp2_with fail
  go_loopw [4, 5] (fun o i wr => ∃ (ls : List Mv) (k : Nat), ls.length ≤ 400 ∧ i = .int .i64 (k : Int) ∧ k ≤ s.size ∧ wr.ownsRow w.heap.size 99 19 o ls.length (ls.flatMap Mv.cells) ∧ (∀ m ∈ ls, Vs wr m.w.ra m.w.row) ∧ (∀ m ∈ ls, ∀ ad, m.w.ra = some ad → m.w.row ≠ [] → o.ownBlock ≠ some ad.block) ∧ (ls.map Mv.strip ++ (rd (400 - ls.length) (s.data.toList.drop k)).1 = R.1 ∧ (rd (400 - ls.length) (s.data.toList.drop k)).2 = R.2) ∧ Below w.heap.size w wr) (fun o i wr => 400 - (match o with | .slice _ n _ => n | _ => 0))
  case atStart => exact ⟨[], 0, by simp, rfl, Nat.zero_le _, HL.out, fun m hm => (by cases hm), fun m hm => (by cases hm), ⟨by simp [HR.out], by simp [HR.out]⟩, B0.out⟩
  case round =>
    clear HL B0 HR
    obtain ⟨ls, k, hll, rfl, hks, hO, hV, hD, hI, hB⟩ := hrel
    have O := Lib.hid hO
    have VV := Lib.hid hV
    have DD := Lib.hid hD
    have II := Lib.hid hI
    have B := Lib.hid hB
    clear hO hV hD hI hB
    obtain ⟨oa, ocap, rfl, _⟩ := Reel.own_shape O.out
    have RS := Lib.hid (fun (wx : World) (hv : ∀ m ∈ ls, Vs wx m.w.ra m.w.row) (ho : wx.ownsRow w.heap.size 99 19 (.slice oa ls.length ocap) ls.length (ls.flatMap Mv.cells)) (h1 : (ls.map Mv.strip ++ ([] : List Mv)) = R.1) (h2 : s.data.toList.drop k = R.2) => (show ReadRes R s.size (.returned (.tuple #[.slice oa ls.length ocap, .int .i64 (k : Int)])) wx from by
      obtain ⟨ea, ecap, he, _, hEls, _⟩ := els_own (enc := Mv.cells) (fun x => rfl) ho rfl
      cases he
      have hl2 : R.2.length = s.size - k := by rw [← h2, List.length_drop]; rfl
      exact ⟨ls, _, _, by rw [hl2, show ((s.size : Int) - ((s.size - k : Nat) : Int)) = (k : Int) by omega], hEls, hv, by rw [← h1]; simp, by omega⟩))
    by_cases hlt : ls.length < 400
    · have hlt' : decide ((ls.length : Int) < 400) = true := decide_eq_true (by omega)
      obtain ⟨rest, hrest⟩ : ∃ r, s.data.toList.drop k = r := ⟨_, rfl⟩
      have hrl : rest.length + k = s.size := by rw [← hrest, List.length_drop, SS.out]; omega
      have hpr := eMove_props (rest, false)
      have hst := strip_eMove (rest, false)
      have hin := fun m r => @eMove_inv rest r m
      obtain ⟨⟨m, rest', bad⟩, hq⟩ : ∃ r, eMove (rest, false) = r := ⟨_, rfl⟩
      obtain ⟨q, hqq⟩ : ∃ q, 400 - ls.length = q + 1 := ⟨400 - ls.length - 1, by omega⟩
      have hrd : rd (400 - ls.length) rest = if (bad || !m.good) = true then ([], rest) else (m :: (rd q rest').1, (rd q rest').2) := by rw [hqq, rd, hq]
      rw [hq] at hpr hst hin
      simp only at hpr
      obtain ⟨pf, pl, pr⟩ := hpr
      rw [hrest] at II RS
      have RD := Lib.hid hrd
      have QQ := Lib.hid hqq
      have ST := Lib.hid hst
      have PF := Lib.hid pf
      have HI := Lib.hid hin
      have HQ := Lib.hid hq
      have HRE := Lib.hid hrest
      have x1 : s.extract k s.size = bs rest := by rw [extract_drop, hrest]
      obtain ⟨s0, q0⟩ : ∃ x, (eOne (rest, false)).2 = x := ⟨_, rfl⟩
      obtain ⟨kk, z0⟩ : ∃ x : Nat, (eOne (rest, false)).1 = x := ⟨_, rfl⟩
      have r0 := eOne_rest (rest, false)
      rw [q0] at r0
      simp only at r0
      have Q0 := Lib.hid q0
      have Z0 := Lib.hid (show ((eOne (rest, false)).1 : Int) = (kk : Int) by rw [z0])
      have Z00 := Lib.hid z0
      have E := Lib.hid (show Cur (wr.alloc (.cells #[.string (bs rest), .bool false] 198)) wr.heap.size (rest, false) from Row.new wr _ [.string (bs rest), .bool false])
      have C := Lib.hid ((Below.refl wr.heap.size wr).alloc (Nat.le_refl _) (.cells #[.string (bs rest), .bool false] 198))
      clear hrd hqq hst hin hq pf hrest q0 z0
      go_wp2_with fail
      refine (cone_to Z0.out Q0.out _ E.out (by simp only; omega)).mono ?_
      rintro e w1 ⟨rfl, hE, kc⟩
      replace C := Lib.hid (C.out.trans (kc.below (B := wr.heap.size) C.out.size (fun i e => by have e : i = wr.heap.size := e; omega)))
      have hcl := hE.lt
      have X := Lib.hid (Row.new w1 99 [.int .i64 0, .int .i64 0, .int .i64 0, .int .i64 0, .int .i64 0, .int .i64 0, .int .i64 0, .string ⟨#[]⟩, .int .i64 0, .int .i64 0, .string ⟨#[]⟩, .slice none 0 0, .int .i64 0, .int .i64 0, .int .i64 0, .string ⟨#[]⟩, .int .i64 0, .int .i64 0, .int .i64 0])
      replace E := Lib.hid (hE.alloc (.cells #[.int .i64 0, .int .i64 0, .int .i64 0, .int .i64 0, .int .i64 0, .int .i64 0, .int .i64 0, .string ⟨#[]⟩, .int .i64 0, .int .i64 0, .string ⟨#[]⟩, .slice none 0 0, .int .i64 0, .int .i64 0, .int .i64 0, .string ⟨#[]⟩, .int .i64 0, .int .i64 0, .int .i64 0] 99))
      replace C := Lib.hid (C.out.alloc C.out.size (.cells #[.int .i64 0, .int .i64 0, .int .i64 0, .int .i64 0, .int .i64 0, .int .i64 0, .int .i64 0, .string ⟨#[]⟩, .int .i64 0, .int .i64 0, .string ⟨#[]⟩, .slice none 0 0, .int .i64 0, .int .i64 0, .int .i64 0, .string ⟨#[]⟩, .int .i64 0, .int .i64 0, .int .i64 0] 99))
      clear hE kc x1
      have hne : wr.heap.size ≠ w1.heap.size := by omega
      have hcw : wr.heap.size ≤ w1.heap.size := by omega
      go_upto_block 2 with (refine store_row X.out [.int .i64 (kk : Int), .int .i64 0, .int .i64 0, .int .i64 0, .int .i64 0, .int .i64 0, .int .i64 0, .string ⟨#[]⟩, .int .i64 0, .int .i64 0, .string ⟨#[]⟩, .slice none 0 0, .int .i64 0, .int .i64 0, .int .i64 0, .string ⟨#[]⟩, .int .i64 0, .int .i64 0, .int .i64 0] 99 (by kernel_rfl) rfl (by simp [Value.oneCell']) rfl rfl rfl rfl ?_; intro w3 hz kz zz; replace E := Lib.hid (E.out.chg kz hne); replace C := Lib.hid (C.out.trans (kz.below (B := wr.heap.size) C.out.size (fun i e => by have e : i = w1.heap.size := e; omega))); replace X := Lib.hid hz; clear hz kz zz; have x0 := X.out.cell (i := 0) rfl)
      clear x0
      generalize w1.heap.size = g at *
      go_cut [] from 24 to 56 (fun wx => Got wr wr.heap.size g m (rest', bad) wx)

      case first =>
        obtain ⟨s1, q1⟩ : ∃ x, (eOne s0).2 = x := ⟨_, rfl⟩
        obtain ⟨n, z1⟩ : ∃ k : Nat, (eOne s0).1 = k := ⟨_, rfl⟩
        obtain ⟨a, z2⟩ : ∃ k : Nat, (eOne s1).1 = k := ⟨_, rfl⟩
        obtain ⟨s2, q2⟩ : ∃ x, (eOne s1).2 = x := ⟨_, rfl⟩
        obtain ⟨⟨ws, s3⟩, q3⟩ : ∃ r, eWish s2 = r := ⟨_, rfl⟩
        obtain ⟨⟨p, s4⟩, q4⟩ : ∃ r, eNum s1 8 = r := ⟨_, rfl⟩
        obtain ⟨⟨qq, s5⟩, q5⟩ : ∃ r, eNum s4 8 = r := ⟨_, rfl⟩
        have hw : eMove (rest, false) = if kk = 1 then (if a = 4 then (⟨1, n, 4, ws, 0, 0⟩, s3) else (⟨1, n, a, noW, 0, 0⟩, s2))
            else if kk = 2 ∨ kk = 3 ∨ kk = 4 ∨ kk = 8 then (⟨kk, n, 0, noW, 0, 0⟩, s1)
            else if kk = 9 then (⟨9, n, 0, noW, p, qq⟩, s5)
            else (Mv.only kk, s0) := by
          unfold eMove
          rw [Z00.out, Q0.out, z1, q1, z2, q2, q3, q4, q5]
        rw [HQ.out] at hw
        have r1 := eOne_rest s0
        rw [q1] at r1
        have r2 := eOne_rest s1
        rw [q2] at r2
        have r4 := eNum_rest s1 8
        rw [q4] at r4
        simp only at r4
        have Z1 := Lib.hid (show ((eOne s0).1 : Int) = (n : Int) by rw [z1])
        have Z2 := Lib.hid (show ((eOne s1).1 : Int) = (a : Int) by rw [z2])
        have Q1 := Lib.hid q1
        have Q2 := Lib.hid q2
        have Q3 := Lib.hid q3
        have Q4 := Lib.hid q4
        have Q5 := Lib.hid q5
        have x0 := X.out.cell (i := 0) rfl
        clear z1 z2 q1 q2 q3 q4 q5
        by_cases c1 : kk = 1
        · by_cases c4 : a = 4
          · as_aux_lemma =>
              subst c1 c4
              rw [if_pos rfl, if_pos rfl] at hw
              have HWW := Lib.hid hw
              clear hw
              replace X := Lib.hid (X.out.cast (cs' := [.int .i64 1, .int .i64 0, .int .i64 0, .int .i64 0, .int .i64 0, .int .i64 0, .int .i64 0, .string ⟨#[]⟩, .int .i64 0, .int .i64 0, .string ⟨#[]⟩, .slice none 0 0, .int .i64 0, .int .i64 0, .int .i64 0, .string ⟨#[]⟩, .int .i64 0, .int .i64 0, .int .i64 0]) rfl)
              have Z4 := Lib.hid (show ((eOne s1).1 : Int) = 4 from Z2.out)
              go_wp2_with fail
              clear x0
              refine (cone_to Z1.out Q1.out _ E.out (by omega)).mono ?_
              rintro e wz4 ⟨rfl, hE, kc⟩
              replace X := Lib.hid (X.out.chg kc (Ne.symm hne))
              replace E := Lib.hid hE
              replace C := Lib.hid (C.out.trans (kc.below (B := wr.heap.size) C.out.size (fun i e => by have e : i = wr.heap.size := e; omega)))
              clear hE kc
              have x1 := X.out.cell (i := 1) rfl
              have g1 := X.out.frozen 1 (by simp)
              go_wp2_with fail
              have X9 := Lib.hid ((X.out.set 1 (.int .i64 n)).cast (cs' := [.int .i64 1, .int .i64 n, .int .i64 0, .int .i64 0, .int .i64 0, .int .i64 0, .int .i64 0, .string ⟨#[]⟩, .int .i64 0, .int .i64 0, .string ⟨#[]⟩, .slice none 0 0, .int .i64 0, .int .i64 0, .int .i64 0, .string ⟨#[]⟩, .int .i64 0, .int .i64 0, .int .i64 0]) rfl)
              have E9 := Lib.hid (E.out.set_ne ⟨g, 1, none⟩ (.int .i64 n) (Ne.symm hne))
              have C9 := Lib.hid (C.out.setCell (p := ⟨g, 1, none⟩) hcw (.int .i64 n))
              clear x1 g1 X E C
              have X := X9
              have E := E9
              have C := C9
              clear X9 E9 C9
              refine (cone_to Z4.out Q2.out _ E.out (by omega)).mono ?_
              rintro e wz5 ⟨rfl, hE, kc⟩
              replace X := Lib.hid (X.out.chg kc (Ne.symm hne))
              replace E := Lib.hid hE
              replace C := Lib.hid (C.out.trans (kc.below (B := wr.heap.size) C.out.size (fun i e => by have e : i = wr.heap.size := e; omega)))
              clear hE kc
              have x2 := X.out.cell (i := 2) rfl
              have g2 := X.out.frozen 2 (by simp)
              go_wp2_with fail
              have X9 := Lib.hid ((X.out.set 2 (.int .i64 4)).cast (cs' := [.int .i64 1, .int .i64 n, .int .i64 4, .int .i64 0, .int .i64 0, .int .i64 0, .int .i64 0, .string ⟨#[]⟩, .int .i64 0, .int .i64 0, .string ⟨#[]⟩, .slice none 0 0, .int .i64 0, .int .i64 0, .int .i64 0, .string ⟨#[]⟩, .int .i64 0, .int .i64 0, .int .i64 0]) rfl)
              have E9 := Lib.hid (E.out.set_ne ⟨g, 2, none⟩ (.int .i64 4) (Ne.symm hne))
              have C9 := Lib.hid (C.out.setCell (p := ⟨g, 2, none⟩) hcw (.int .i64 4))
              clear x2 g2 X E C
              have X := X9
              have E := E9
              have C := C9
              clear X9 E9 C9
              have WC := cwish_reads wr.heap.size s2 _ E.out (by omega)
              rw [Q3.out] at WC
              unfold CWReads at WC
              have WL := Lib.hid X.out.lt
              have WS := Lib.hid C.out.size
              refine WC.mono ?_
              rintro e wz9 ⟨⟨ra, rc, rfl, hV, hVB⟩, hE, kc⟩
              have VN := Lib.hid (fun ad e z (e2 : ad.block = g) => by have := hVB ad e z; have := WL.out; omega : ∀ ad, ra = some ad → _ → ad.block = g → False)
              have NB := Lib.hid (fun ad e z => by have := hVB ad e z; have := WS.out; omega : ∀ ad, ra = some ad → _ → wr.heap.size ≤ ad.block)
              have NV := Lib.hid hV
              clear WC hV hVB WL WS
              replace X := Lib.hid (X.out.chg kc (Ne.symm hne))
              replace E := Lib.hid hE
              replace C := Lib.hid (C.out.trans (kc.below (B := wr.heap.size) C.out.size (fun i e => by have e : i = wr.heap.size := e; omega)))
              clear hE kc
              obtain ⟨tk, tt, ⟨t1, t2, t3⟩, ⟨t4, t5, t6⟩, ta, tc, tr, tcc, ⟨t7, t8, t9⟩, tn⟩ := ws
              go_wp2_with (refine store_part [.int .i64 1, .int .i64 n, .int .i64 4] [.int .i64 0, .int .i64 0, .int .i64 0, .int .i64 0, .string ⟨#[]⟩, .int .i64 0, .int .i64 0, .string ⟨#[]⟩, .slice none 0 0, .int .i64 0, .int .i64 0, .int .i64 0, .string ⟨#[]⟩, .int .i64 0] [.int .i64 0, .int .i64 0] X.out [.int .i64 tk, .int .i64 tt, .int .i64 t1, .int .i64 t2, .string t3, .int .i64 t4, .int .i64 t5, .string t6, .slice ra tr.length rc, .int .i64 tcc, .int .i64 t7, .int .i64 t8, .string t9, .int .i64 tn] 97 (by kernel_rfl) rfl (by simp [Value.oneCell']) rfl rfl 3 rfl rfl rfl ?_; intro w80 hR kc hsz; replace X := Lib.hid hR; replace E := Lib.hid (E.out.chg kc hne); replace C := Lib.hid (C.out.trans (kc.below (B := wr.heap.size) C.out.size (fun i e => by have e : i = g := e; omega))); replace NV := Lib.hid (vs_chg NV.out kc (fun ad e z e2 => VN.out ad e z (show ad.block = g from e2))); clear hR kc hsz)
              go_meet
              have hm : m = ⟨1, n, 4, ⟨tk, tt, ⟨t1, t2, t3⟩, ⟨t4, t5, t6⟩, ta, tc, tr, tcc, ⟨t7, t8, t9⟩, tn⟩, 0, 0⟩ := (Prod.mk.inj HWW.out).1
              have hsb : (rest', bad) = s3 := (Prod.mk.inj HWW.out).2
              show Got wr wr.heap.size g m (rest', bad) _
              rw [hm, hsb]
              exact ⟨ra, rc, X.out, NV.out, NB.out, E.out, C.out⟩
          · as_aux_lemma =>
              subst c1
              rw [if_pos rfl, if_neg c4] at hw
              have HWW := Lib.hid hw
              have d4 : ((a : Int) == 4) = false := by simp; omega
              clear hw c4
              replace X := Lib.hid (X.out.cast (cs' := [.int .i64 1, .int .i64 0, .int .i64 0, .int .i64 0, .int .i64 0, .int .i64 0, .int .i64 0, .string ⟨#[]⟩, .int .i64 0, .int .i64 0, .string ⟨#[]⟩, .slice none 0 0, .int .i64 0, .int .i64 0, .int .i64 0, .string ⟨#[]⟩, .int .i64 0, .int .i64 0, .int .i64 0]) rfl)
              go_wp2_with fail
              clear x0
              refine (cone_to Z1.out Q1.out _ E.out (by omega)).mono ?_
              rintro e wz6 ⟨rfl, hE, kc⟩
              replace X := Lib.hid (X.out.chg kc (Ne.symm hne))
              replace E := Lib.hid hE
              replace C := Lib.hid (C.out.trans (kc.below (B := wr.heap.size) C.out.size (fun i e => by have e : i = wr.heap.size := e; omega)))
              clear hE kc
              have x1 := X.out.cell (i := 1) rfl
              have g1 := X.out.frozen 1 (by simp)
              go_wp2_with fail
              have X9 := Lib.hid ((X.out.set 1 (.int .i64 n)).cast (cs' := [.int .i64 1, .int .i64 n, .int .i64 0, .int .i64 0, .int .i64 0, .int .i64 0, .int .i64 0, .string ⟨#[]⟩, .int .i64 0, .int .i64 0, .string ⟨#[]⟩, .slice none 0 0, .int .i64 0, .int .i64 0, .int .i64 0, .string ⟨#[]⟩, .int .i64 0, .int .i64 0, .int .i64 0]) rfl)
              have E9 := Lib.hid (E.out.set_ne ⟨g, 1, none⟩ (.int .i64 n) (Ne.symm hne))
              have C9 := Lib.hid (C.out.setCell (p := ⟨g, 1, none⟩) hcw (.int .i64 n))
              clear x1 g1 X E C
              have X := X9
              have E := E9
              have C := C9
              clear X9 E9 C9
              refine (cone_to Z2.out Q2.out _ E.out (by omega)).mono ?_
              rintro e wz7 ⟨rfl, hE, kc⟩
              replace X := Lib.hid (X.out.chg kc (Ne.symm hne))
              replace E := Lib.hid hE
              replace C := Lib.hid (C.out.trans (kc.below (B := wr.heap.size) C.out.size (fun i e => by have e : i = wr.heap.size := e; omega)))
              clear hE kc
              have x2 := X.out.cell (i := 2) rfl
              have g2 := X.out.frozen 2 (by simp)
              go_wp2_with fail
              have X9 := Lib.hid ((X.out.set 2 (.int .i64 a)).cast (cs' := [.int .i64 1, .int .i64 n, .int .i64 a, .int .i64 0, .int .i64 0, .int .i64 0, .int .i64 0, .string ⟨#[]⟩, .int .i64 0, .int .i64 0, .string ⟨#[]⟩, .slice none 0 0, .int .i64 0, .int .i64 0, .int .i64 0, .string ⟨#[]⟩, .int .i64 0, .int .i64 0, .int .i64 0]) rfl)
              have E9 := Lib.hid (E.out.set_ne ⟨g, 2, none⟩ (.int .i64 a) (Ne.symm hne))
              have C9 := Lib.hid (C.out.setCell (p := ⟨g, 2, none⟩) hcw (.int .i64 a))
              clear x2 g2 X E C
              have X := X9
              have E := E9
              have C := C9
              clear X9 E9 C9
              go_meet
              have hm : m = ⟨1, n, a, noW, 0, 0⟩ := (Prod.mk.inj HWW.out).1
              have hsb : (rest', bad) = s2 := (Prod.mk.inj HWW.out).2
              show Got wr wr.heap.size g m (rest', bad) _
              rw [hm, hsb]
              exact got_none ⟨rfl, rfl⟩ rfl X.out E.out C.out
        rw [if_neg c1] at hw
        by_cases c2 : kk = 2
        · as_aux_lemma =>
            subst c2
            rw [if_pos (by omega)] at hw
            have HWW := Lib.hid hw
            clear hw
            replace X := Lib.hid (X.out.cast (cs' := [.int .i64 2, .int .i64 0, .int .i64 0, .int .i64 0, .int .i64 0, .int .i64 0, .int .i64 0, .string ⟨#[]⟩, .int .i64 0, .int .i64 0, .string ⟨#[]⟩, .slice none 0 0, .int .i64 0, .int .i64 0, .int .i64 0, .string ⟨#[]⟩, .int .i64 0, .int .i64 0, .int .i64 0]) rfl)
            go_wp2_with fail
            clear x0
            refine (cone_to Z1.out Q1.out _ E.out (by omega)).mono ?_
            rintro e wz8 ⟨rfl, hE, kc⟩
            replace X := Lib.hid (X.out.chg kc (Ne.symm hne))
            replace E := Lib.hid hE
            replace C := Lib.hid (C.out.trans (kc.below (B := wr.heap.size) C.out.size (fun i e => by have e : i = wr.heap.size := e; omega)))
            clear hE kc
            have x1 := X.out.cell (i := 1) rfl
            have g1 := X.out.frozen 1 (by simp)
            go_wp2_with fail
            have X9 := Lib.hid ((X.out.set 1 (.int .i64 n)).cast (cs' := [.int .i64 2, .int .i64 n, .int .i64 0, .int .i64 0, .int .i64 0, .int .i64 0, .int .i64 0, .string ⟨#[]⟩, .int .i64 0, .int .i64 0, .string ⟨#[]⟩, .slice none 0 0, .int .i64 0, .int .i64 0, .int .i64 0, .string ⟨#[]⟩, .int .i64 0, .int .i64 0, .int .i64 0]) rfl)
            have E9 := Lib.hid (E.out.set_ne ⟨g, 1, none⟩ (.int .i64 n) (Ne.symm hne))
            have C9 := Lib.hid (C.out.setCell (p := ⟨g, 1, none⟩) hcw (.int .i64 n))
            clear x1 g1 X E C
            have X := X9
            have E := E9
            have C := C9
            clear X9 E9 C9
            go_meet
            have hm : m = ⟨2, n, 0, noW, 0, 0⟩ := (Prod.mk.inj HWW.out).1
            have hsb : (rest', bad) = s1 := (Prod.mk.inj HWW.out).2
            show Got wr wr.heap.size g m (rest', bad) _
            rw [hm, hsb]
            exact got_none ⟨rfl, rfl⟩ rfl X.out E.out C.out
        by_cases c3 : kk = 3
        · as_aux_lemma =>
            subst c3
            rw [if_pos (by omega)] at hw
            have HWW := Lib.hid hw
            clear hw
            replace X := Lib.hid (X.out.cast (cs' := [.int .i64 3, .int .i64 0, .int .i64 0, .int .i64 0, .int .i64 0, .int .i64 0, .int .i64 0, .string ⟨#[]⟩, .int .i64 0, .int .i64 0, .string ⟨#[]⟩, .slice none 0 0, .int .i64 0, .int .i64 0, .int .i64 0, .string ⟨#[]⟩, .int .i64 0, .int .i64 0, .int .i64 0]) rfl)
            go_wp2_with fail
            clear x0
            refine (cone_to Z1.out Q1.out _ E.out (by omega)).mono ?_
            rintro e wz9 ⟨rfl, hE, kc⟩
            replace X := Lib.hid (X.out.chg kc (Ne.symm hne))
            replace E := Lib.hid hE
            replace C := Lib.hid (C.out.trans (kc.below (B := wr.heap.size) C.out.size (fun i e => by have e : i = wr.heap.size := e; omega)))
            clear hE kc
            have x1 := X.out.cell (i := 1) rfl
            have g1 := X.out.frozen 1 (by simp)
            go_wp2_with fail
            have X9 := Lib.hid ((X.out.set 1 (.int .i64 n)).cast (cs' := [.int .i64 3, .int .i64 n, .int .i64 0, .int .i64 0, .int .i64 0, .int .i64 0, .int .i64 0, .string ⟨#[]⟩, .int .i64 0, .int .i64 0, .string ⟨#[]⟩, .slice none 0 0, .int .i64 0, .int .i64 0, .int .i64 0, .string ⟨#[]⟩, .int .i64 0, .int .i64 0, .int .i64 0]) rfl)
            have E9 := Lib.hid (E.out.set_ne ⟨g, 1, none⟩ (.int .i64 n) (Ne.symm hne))
            have C9 := Lib.hid (C.out.setCell (p := ⟨g, 1, none⟩) hcw (.int .i64 n))
            clear x1 g1 X E C
            have X := X9
            have E := E9
            have C := C9
            clear X9 E9 C9
            go_meet
            have hm : m = ⟨3, n, 0, noW, 0, 0⟩ := (Prod.mk.inj HWW.out).1
            have hsb : (rest', bad) = s1 := (Prod.mk.inj HWW.out).2
            show Got wr wr.heap.size g m (rest', bad) _
            rw [hm, hsb]
            exact got_none ⟨rfl, rfl⟩ rfl X.out E.out C.out
        by_cases c4 : kk = 4
        · as_aux_lemma =>
            subst c4
            rw [if_pos (by omega)] at hw
            have HWW := Lib.hid hw
            clear hw
            replace X := Lib.hid (X.out.cast (cs' := [.int .i64 4, .int .i64 0, .int .i64 0, .int .i64 0, .int .i64 0, .int .i64 0, .int .i64 0, .string ⟨#[]⟩, .int .i64 0, .int .i64 0, .string ⟨#[]⟩, .slice none 0 0, .int .i64 0, .int .i64 0, .int .i64 0, .string ⟨#[]⟩, .int .i64 0, .int .i64 0, .int .i64 0]) rfl)
            go_wp2_with fail
            clear x0
            refine (cone_to Z1.out Q1.out _ E.out (by omega)).mono ?_
            rintro e wz10 ⟨rfl, hE, kc⟩
            replace X := Lib.hid (X.out.chg kc (Ne.symm hne))
            replace E := Lib.hid hE
            replace C := Lib.hid (C.out.trans (kc.below (B := wr.heap.size) C.out.size (fun i e => by have e : i = wr.heap.size := e; omega)))
            clear hE kc
            have x1 := X.out.cell (i := 1) rfl
            have g1 := X.out.frozen 1 (by simp)
            go_wp2_with fail
            have X9 := Lib.hid ((X.out.set 1 (.int .i64 n)).cast (cs' := [.int .i64 4, .int .i64 n, .int .i64 0, .int .i64 0, .int .i64 0, .int .i64 0, .int .i64 0, .string ⟨#[]⟩, .int .i64 0, .int .i64 0, .string ⟨#[]⟩, .slice none 0 0, .int .i64 0, .int .i64 0, .int .i64 0, .string ⟨#[]⟩, .int .i64 0, .int .i64 0, .int .i64 0]) rfl)
            have E9 := Lib.hid (E.out.set_ne ⟨g, 1, none⟩ (.int .i64 n) (Ne.symm hne))
            have C9 := Lib.hid (C.out.setCell (p := ⟨g, 1, none⟩) hcw (.int .i64 n))
            clear x1 g1 X E C
            have X := X9
            have E := E9
            have C := C9
            clear X9 E9 C9
            go_meet
            have hm : m = ⟨4, n, 0, noW, 0, 0⟩ := (Prod.mk.inj HWW.out).1
            have hsb : (rest', bad) = s1 := (Prod.mk.inj HWW.out).2
            show Got wr wr.heap.size g m (rest', bad) _
            rw [hm, hsb]
            exact got_none ⟨rfl, rfl⟩ rfl X.out E.out C.out
        by_cases c8 : kk = 8
        · as_aux_lemma =>
            subst c8
            rw [if_pos (by omega)] at hw
            have HWW := Lib.hid hw
            clear hw
            replace X := Lib.hid (X.out.cast (cs' := [.int .i64 8, .int .i64 0, .int .i64 0, .int .i64 0, .int .i64 0, .int .i64 0, .int .i64 0, .string ⟨#[]⟩, .int .i64 0, .int .i64 0, .string ⟨#[]⟩, .slice none 0 0, .int .i64 0, .int .i64 0, .int .i64 0, .string ⟨#[]⟩, .int .i64 0, .int .i64 0, .int .i64 0]) rfl)
            go_wp2_with fail
            clear x0
            refine (cone_to Z1.out Q1.out _ E.out (by omega)).mono ?_
            rintro e wz11 ⟨rfl, hE, kc⟩
            replace X := Lib.hid (X.out.chg kc (Ne.symm hne))
            replace E := Lib.hid hE
            replace C := Lib.hid (C.out.trans (kc.below (B := wr.heap.size) C.out.size (fun i e => by have e : i = wr.heap.size := e; omega)))
            clear hE kc
            have x1 := X.out.cell (i := 1) rfl
            have g1 := X.out.frozen 1 (by simp)
            go_wp2_with fail
            have X9 := Lib.hid ((X.out.set 1 (.int .i64 n)).cast (cs' := [.int .i64 8, .int .i64 n, .int .i64 0, .int .i64 0, .int .i64 0, .int .i64 0, .int .i64 0, .string ⟨#[]⟩, .int .i64 0, .int .i64 0, .string ⟨#[]⟩, .slice none 0 0, .int .i64 0, .int .i64 0, .int .i64 0, .string ⟨#[]⟩, .int .i64 0, .int .i64 0, .int .i64 0]) rfl)
            have E9 := Lib.hid (E.out.set_ne ⟨g, 1, none⟩ (.int .i64 n) (Ne.symm hne))
            have C9 := Lib.hid (C.out.setCell (p := ⟨g, 1, none⟩) hcw (.int .i64 n))
            clear x1 g1 X E C
            have X := X9
            have E := E9
            have C := C9
            clear X9 E9 C9
            go_meet
            have hm : m = ⟨8, n, 0, noW, 0, 0⟩ := (Prod.mk.inj HWW.out).1
            have hsb : (rest', bad) = s1 := (Prod.mk.inj HWW.out).2
            show Got wr wr.heap.size g m (rest', bad) _
            rw [hm, hsb]
            exact got_none ⟨rfl, rfl⟩ rfl X.out E.out C.out
        rw [if_neg (by omega)] at hw
        by_cases c9 : kk = 9
        · as_aux_lemma =>
            subst c9
            rw [if_pos rfl] at hw
            have HWW := Lib.hid hw
            clear hw
            replace X := Lib.hid (X.out.cast (cs' := [.int .i64 9, .int .i64 0, .int .i64 0, .int .i64 0, .int .i64 0, .int .i64 0, .int .i64 0, .string ⟨#[]⟩, .int .i64 0, .int .i64 0, .string ⟨#[]⟩, .slice none 0 0, .int .i64 0, .int .i64 0, .int .i64 0, .string ⟨#[]⟩, .int .i64 0, .int .i64 0, .int .i64 0]) rfl)
            go_wp2_with fail
            clear x0
            refine (cone_to Z1.out Q1.out _ E.out (by omega)).mono ?_
            rintro e wz12 ⟨rfl, hE, kc⟩
            replace X := Lib.hid (X.out.chg kc (Ne.symm hne))
            replace E := Lib.hid hE
            replace C := Lib.hid (C.out.trans (kc.below (B := wr.heap.size) C.out.size (fun i e => by have e : i = wr.heap.size := e; omega)))
            clear hE kc
            have x1 := X.out.cell (i := 1) rfl
            have g1 := X.out.frozen 1 (by simp)
            go_wp2_with fail
            have X9 := Lib.hid ((X.out.set 1 (.int .i64 n)).cast (cs' := [.int .i64 9, .int .i64 n, .int .i64 0, .int .i64 0, .int .i64 0, .int .i64 0, .int .i64 0, .string ⟨#[]⟩, .int .i64 0, .int .i64 0, .string ⟨#[]⟩, .slice none 0 0, .int .i64 0, .int .i64 0, .int .i64 0, .string ⟨#[]⟩, .int .i64 0, .int .i64 0, .int .i64 0]) rfl)
            have E9 := Lib.hid (E.out.set_ne ⟨g, 1, none⟩ (.int .i64 n) (Ne.symm hne))
            have C9 := Lib.hid (C.out.setCell (p := ⟨g, 1, none⟩) hcw (.int .i64 n))
            clear x1 g1 X E C
            have X := X9
            have E := E9
            have C := C9
            clear X9 E9 C9
            refine (clong_to Q4.out _ E.out (by omega)).mono ?_
            rintro e wz13 ⟨rfl, hE, kc⟩
            replace X := Lib.hid (X.out.chg kc (Ne.symm hne))
            replace E := Lib.hid hE
            replace C := Lib.hid (C.out.trans (kc.below (B := wr.heap.size) C.out.size (fun i e => by have e : i = wr.heap.size := e; omega)))
            clear hE kc
            have x17 := X.out.cell (i := 17) rfl
            have g17 := X.out.frozen 17 (by simp)
            go_wp2_with fail
            have X9 := Lib.hid ((X.out.set 17 (.int .i64 p)).cast (cs' := [.int .i64 9, .int .i64 n, .int .i64 0, .int .i64 0, .int .i64 0, .int .i64 0, .int .i64 0, .string ⟨#[]⟩, .int .i64 0, .int .i64 0, .string ⟨#[]⟩, .slice none 0 0, .int .i64 0, .int .i64 0, .int .i64 0, .string ⟨#[]⟩, .int .i64 0, .int .i64 p, .int .i64 0]) rfl)
            have E9 := Lib.hid (E.out.set_ne ⟨g, 17, none⟩ (.int .i64 p) (Ne.symm hne))
            have C9 := Lib.hid (C.out.setCell (p := ⟨g, 17, none⟩) hcw (.int .i64 p))
            clear x17 g17 X E C
            have X := X9
            have E := E9
            have C := C9
            clear X9 E9 C9
            refine (clong_to Q5.out _ E.out (by omega)).mono ?_
            rintro e wz14 ⟨rfl, hE, kc⟩
            replace X := Lib.hid (X.out.chg kc (Ne.symm hne))
            replace E := Lib.hid hE
            replace C := Lib.hid (C.out.trans (kc.below (B := wr.heap.size) C.out.size (fun i e => by have e : i = wr.heap.size := e; omega)))
            clear hE kc
            have x18 := X.out.cell (i := 18) rfl
            have g18 := X.out.frozen 18 (by simp)
            go_wp2_with fail
            have X9 := Lib.hid ((X.out.set 18 (.int .i64 qq)).cast (cs' := [.int .i64 9, .int .i64 n, .int .i64 0, .int .i64 0, .int .i64 0, .int .i64 0, .int .i64 0, .string ⟨#[]⟩, .int .i64 0, .int .i64 0, .string ⟨#[]⟩, .slice none 0 0, .int .i64 0, .int .i64 0, .int .i64 0, .string ⟨#[]⟩, .int .i64 0, .int .i64 p, .int .i64 qq]) rfl)
            have E9 := Lib.hid (E.out.set_ne ⟨g, 18, none⟩ (.int .i64 qq) (Ne.symm hne))
            have C9 := Lib.hid (C.out.setCell (p := ⟨g, 18, none⟩) hcw (.int .i64 qq))
            clear x18 g18 X E C
            have X := X9
            have E := E9
            have C := C9
            clear X9 E9 C9
            go_meet
            have hm : m = ⟨9, n, 0, noW, p, qq⟩ := (Prod.mk.inj HWW.out).1
            have hsb : (rest', bad) = s5 := (Prod.mk.inj HWW.out).2
            show Got wr wr.heap.size g m (rest', bad) _
            rw [hm, hsb]
            exact got_none ⟨rfl, rfl⟩ rfl X.out E.out C.out
        rw [if_neg c9] at hw
        as_aux_lemma =>
          have d1 : ((kk : Int) == 1) = false := by simp; omega
          have d2 : ((kk : Int) == 2) = false := by simp; omega
          have d3 : ((kk : Int) == 3) = false := by simp; omega
          have d4 : ((kk : Int) == 4) = false := by simp; omega
          have d8 : ((kk : Int) == 8) = false := by simp; omega
          have d9 : ((kk : Int) == 9) = false := by simp; omega
          have HWW := Lib.hid hw
          clear hw c1 c2 c3 c4 c8 c9
          go_wp2_with fail
          go_meet
          have hm : m = Mv.only kk := (Prod.mk.inj HWW.out).1
          have hsb : (rest', bad) = s0 := (Prod.mk.inj HWW.out).2
          show Got wr wr.heap.size g m (rest', bad) _
          rw [hm, hsb]
          exact got_none ⟨rfl, rfl⟩ rfl X.out E.out C.out
      case rest =>
        clear X E C
        obtain ⟨ra, rc, hX, hV, hVB, hE, hC⟩ := hcut
        obtain ⟨mm, hmm⟩ : ∃ x, m.at ra rc = x := ⟨_, rfl⟩
        rw [hmm] at hX
        have HMM := Lib.hid hmm
        have hOA : ∀ j, (Value.slice oa ls.length ocap).ownBlock = some j → w.heap.size ≤ j ∧ j < wr.heap.size := fun j hj => O.out.lt j hj
        have LB := Lib.hid hOA
        have X := Lib.hid hX
        have E := Lib.hid hE
        have NV := Lib.hid hV
        have NB := Lib.hid hVB
        have O2 := Lib.hid (own_below O.out hC)
        have V2 := Lib.hid (fun x hx => (VV.out x hx).keep hC : ∀ x ∈ ls, _)
        have B2 := Lib.hid (B.out.trans (hC.mono B.out.size))
        have SZ := Lib.hid hC.size
        have BC := refbytes_calls mm _ (by rw [← HMM.out]; exact hV) (by rw [← HMM.out]; exact PF.out) (by rw [← HMM.out]; exact pl)
        have BCH := Lib.hid BC
        clear hmm hX hE hV hVB hC BC hOA
        go_wp2_with (refine load_row X.out 99 Try.underlying99 rfl (by kernel_rfl) rfl rfl rfl ?_)
        refine BCH.out.mono ?_
        rintro e w5 ⟨⟨xs, r, rfl, hb1, hb2, _⟩, k5⟩
        replace X := Lib.hid (X.out.below k5 X.out.lt)
        replace E := Lib.hid (E.out.below k5 E.out.lt)
        replace O2 := Lib.hid (own_below O2.out k5)
        replace V2 := Lib.hid (fun x hx => (V2.out x hx).keep k5 : ∀ x ∈ ls, _)
        replace NV := Lib.hid (NV.out.keep k5)
        replace B2 := Lib.hid (B2.out.trans (k5.mono B2.out.size))
        replace SZ := Lib.hid (Nat.le_trans SZ.out k5.size)
        have HB1 := Lib.hid hb1
        have HB2 := Lib.hid hb2
        clear k5 hb1 hb2 BCH
        have y0 := E.out.cell (i := 0) rfl
        have y1 := E.out.cell (i := 1) rfl
        have FAIL := Lib.hid (fun (h : (bad || !m.good) = true) => (by
          have h1 := II.out.1
          have h2 := II.out.2
          rw [RD.out, if_pos h] at h1 h2
          exact RS.out _ V2.out O2.out h1 h2 : ReadRes R s.size (.returned (.tuple #[.slice oa ls.length ocap, .int .i64 (k : Int)])) w5))
        cases bad
        rotate_left 1
        · have FL := Lib.hid (FAIL.out rfl)
          clear FAIL
          go_wp2_with fail
          go_ret2
          exact ⟨FL.out, B2.out⟩
        cases r
        · have hmg : m.good = false := by
            have := mt HB1.out.2 (by decide)
            rw [← HMM.out, at_good] at this
            simpa using this
          have FL := Lib.hid (FAIL.out (by rw [hmg]; rfl))
          clear FAIL hmg
          go_wp2_with fail
          go_ret2
          exact ⟨FL.out, B2.out⟩
        clear FAIL
        have hmg : m.good = true := by
          have := HB1.out.1 rfl
          rwa [← HMM.out, at_good] at this
        obtain ⟨hrr, hff⟩ := HI.out m rest' rfl
        have hxs : xs = bs m.bytes := by
          rw [HB2.out rfl, ← HMM.out]
          rfl
        obtain ⟨mb, hmb⟩ : ∃ l, m.bytes = l := ⟨_, rfl⟩
        rw [hmb] at hrr hxs
        subst hxs
        have hlen : mb.length + rest'.length = rest.length := by rw [hrr, List.length_append]
        have hI : ls.map Mv.strip ++ (m :: (rd q rest').1) = R.1 ∧ (rd q rest').2 = R.2 := by
          have h1 := II.out.1
          have h2 := II.out.2
          rw [RD.out, hmg] at h1 h2
          exact ⟨h1, h2⟩
        have hdr : s.data.toList.drop (k + mb.length) = rest' := by
          rw [← List.drop_drop, HRE.out, hrr]
          simp
        have I2 := Lib.hid hI
        have HDR := Lib.hid hdr
        have z1 : (bs mb).size = mb.length := bs_size _
        have z2 : (bs rest').size = rest'.length := bs_size _
        have d1 : ((mb.length : Int) != (s.size : Int) - (k : Int) - (rest'.length : Int)) = false := by simp; omega
        have BE := Lib.hid (show w.heap.size ≤ w5.heap.size from B2.out.size)
        clear hI hdr hrr hff hmb hmg HB1 HB2
        go_wp2_with (first | (refine load_row X.out 99 Try.underlying99 rfl (by kernel_rfl) rfl rfl rfl ?_) | (refine build_mv26 mm rfl _ rfl rfl ?_) | (refine app1_at (news := mm.cells) O2.out BE.out 105 Try.underlying105 info_mv26 mv_size (by decide) (by decide) (by omega) rfl (mcells_one _) rfl rfl rfl rfl ?_; intro v' w6 O5 G5 A5; have C5 := Lib.hid (chg_grown (S := fun k => (Value.slice oa ls.length ocap).ownBlock = some k) G5 (fun k h => h)); have V5 := Lib.hid (vs_all V2.out C5.out (fun x hx ad e z l h => DD.out x hx ad e z h)); have NV5 := Lib.hid (vs_chg NV.out C5.out (fun ad e z h => by have a := NB.out ad e z; have c := (LB.out ad.block h).2; omega)); have B5 := Lib.hid (B2.out.trans (C5.out.below (B := w.heap.size) BE.out (fun k e => (LB.out k e).1))); have O5' := Lib.hid O5; have A5' := Lib.hid A5; clear O5 G5 A5))
        have hq0 := QQ.out
        obtain ⟨a5, cap5, rfl, _⟩ := Reel.own_shape O5'.out
        refine ⟨⟨ls ++ [mm], k + mb.length, by simp; omega, by rw [show ((k + mb.length : Nat) : Int) = (k : Int) + (mb.length : Int) by omega], by omega, by rw [List.flatMap_append, List.length_append]; simpa using O5'.out, fun x hx => ?_, fun x hx ad e z => ?_, ⟨?_, ?_⟩, B5.out⟩, ?_⟩
        · rcases List.mem_append.1 hx with hx | hx
          · exact V5.out x hx
          · rw [List.mem_singleton.1 hx, ← HMM.out]; exact NV5.out
        · rcases List.mem_append.1 hx with hx | hx
          · rcases A5'.out with h | ⟨k, h, hk⟩
            · rw [h]; exact DD.out x hx ad e z
            · rw [h]
              intro h2
              have h2 := Option.some.inj h2
              have := vs_block (V2.out x hx) ad e z
              omega
          · obtain rfl := List.mem_singleton.1 hx
            rw [← HMM.out] at e z
            have hb1 := NB.out ad e z
            have hb2 := vs_block NV.out ad e z
            rcases A5'.out with h | ⟨k, h, hk⟩
            · rw [h]
              intro h2
              have := (LB.out ad.block h2).2
              omega
            · rw [h]
              intro h2
              have h2 := Option.some.inj h2
              omega
        · rw [HDR.out, List.map_append, List.length_append, show 400 - (ls.length + [mm].length) = q from by simp; omega]
          rw [List.map_cons, List.map_nil, ← HMM.out, strip_at ST.out, List.append_assoc]
          exact I2.out.1
        · rw [HDR.out, List.length_append, show 400 - (ls.length + [mm].length) = q from by simp; omega]
          exact I2.out.2
        · simp
          omega
    · obtain rfl' : ls.length = 400 := by omega
      have hlt' : decide ((ls.length : Int) < 400) = false := by simp; omega
      have hI1 := II.out.1
      have hI2 := II.out.2
      rw [rfl'] at hI1 hI2
      have FIN := Lib.hid (RS.out wr VV.out O.out (by simpa [rd] using hI1) (by simpa [rd] using hI2))
      clear hI1 hI2 rfl'
      go_wp2_with fail
      go_ret2
      exact ⟨FIN.out, B.out⟩
end Go.Proofs.Ytcfjooeagfollaa.Bill

/- gaugerlaw26.great; moves that came in. -/
namespace Go.Proofs.Ytcfjooeagfollaa.Bill
open Go.RowKit Go.Proofs.Ytcfjooeagfollaa.Mem Go.Proofs.Ytcfjooeagfollaa.Bytes Go.Proofs.Ytcfjooeagfollaa.Num Go.Proofs.Ytcfjooeagfollaa.Sign
set_option linter.unusedSimpArgs false
set_option linter.unusedVariables false
set_option maxRecDepth 20000

def GreatPost (m : Mv) (e : Ending) : Prop := ∃ g : Bool, e = .returned (.bool g) ∧ (g = false → m.w.row.length ≤ 8)
set_option maxHeartbeats 4000000 in
theorem great_calls (m : Mv) (w : World) (hV : Vs w m.w.ra m.w.row) (hl : m.w.row.length ≤ 9223372036854775807) : Calls Try.prog 43 #[.agg m.cells.toArray] w fun e w' => GreatPost m e ∧ Below w.heap.size w w' := by
  obtain ⟨m0, hm0⟩ : ∃ x, m = x := ⟨_, rfl⟩
  have HM := Lib.hid hm0
  clear hm0
  obtain ⟨k, n, a, ⟨wk, wt, ⟨kk, kn, ks⟩, ⟨hk, hn, hs⟩, ra, rc, row, c, ⟨vk, vn, vs⟩, wn⟩, p, q⟩ := m
  simp only at hV hl
  have FT := Lib.hid (show GreatPost ⟨k, n, a, ⟨wk, wt, ⟨kk, kn, ks⟩, ⟨hk, hn, hs⟩, ra, rc, row, c, ⟨vk, vn, vs⟩, wn⟩, p, q⟩ (.returned (.bool true)) from ⟨true, rfl, fun h => (by cases h)⟩)
  have FF := Lib.hid (fun (h : row.length ≤ 8) => (show GreatPost ⟨k, n, a, ⟨wk, wt, ⟨kk, kn, ks⟩, ⟨hk, hn, hs⟩, ra, rc, row, c, ⟨vk, vn, vs⟩, wn⟩, p, q⟩ (.returned (.bool false)) from ⟨false, rfl, fun _ => h⟩))
  obtain ⟨GP, hGP⟩ : ∃ G, GreatPost ⟨k, n, a, ⟨wk, wt, ⟨kk, kn, ks⟩, ⟨hk, hn, hs⟩, ra, rc, row, c, ⟨vk, vn, vs⟩, wn⟩, p, q⟩ = G := ⟨_, rfl⟩
  rw [hGP] at FT FF ⊢
  clear hGP HM
  show Calls Try.prog 43 #[.agg #[.int .i64 k, .int .i64 n, .int .i64 a, .int .i64 wk, .int .i64 wt, .int .i64 kk, .int .i64 kn, .string ks, .int .i64 hk, .int .i64 hn, .string hs, .slice ra row.length rc, .int .i64 c, .int .i64 vk, .int .i64 vn, .string vs, .int .i64 wn, .int .i64 p, .int .i64 q]] w _
  have hb := (Below.refl w.heap.size w).alloc (Nat.le_refl _) (.cells #[.int .i64 k, .int .i64 n, .int .i64 a, .int .i64 wk, .int .i64 wt, .int .i64 kk, .int .i64 kn, .string ks, .int .i64 hk, .int .i64 hn, .string hs, .slice ra row.length rc, .int .i64 c, .int .i64 vk, .int .i64 vn, .string vs, .int .i64 wn, .int .i64 p, .int .i64 q] 94)
  have V2 := Lib.hid (show Row ((w.alloc (.cells #[.int .i64 k, .int .i64 n, .int .i64 a, .int .i64 wk, .int .i64 wt, .int .i64 kk, .int .i64 kn, .string ks, .int .i64 hk, .int .i64 hn, .string hs, .slice ra row.length rc, .int .i64 c, .int .i64 vk, .int .i64 vn, .string vs, .int .i64 wn, .int .i64 p, .int .i64 q] 94)).alloc (.cells #[.int .i64 wk, .int .i64 wt, .int .i64 kk, .int .i64 kn, .string ks, .int .i64 hk, .int .i64 hn, .string hs, .slice ra row.length rc, .int .i64 c, .int .i64 vk, .int .i64 vn, .string vs, .int .i64 wn] 90)) (w.heap.size + 1) 90 [.int .i64 wk, .int .i64 wt, .int .i64 kk, .int .i64 kn, .string ks, .int .i64 hk, .int .i64 hn, .string hs, .slice ra row.length rc, .int .i64 c, .int .i64 vk, .int .i64 vn, .string vs, .int .i64 wn] from Wide.new_at (by simp))
  have B2 := Lib.hid (hb.alloc hb.size (.cells #[.int .i64 wk, .int .i64 wt, .int .i64 kk, .int .i64 kn, .string ks, .int .i64 hk, .int .i64 hn, .string hs, .slice ra row.length rc, .int .i64 c, .int .i64 vk, .int .i64 vn, .string vs, .int .i64 wn] 90))
  have VV := Lib.hid hV
  clear hb hV
  by_cases c8 : 8 < row.length
  · have c8' : (8 : Int) < (row.length : Int) := by omega
    go_enter Try.func43, Try.ntmps43
    go_wp2_with fail
    go_ret
    exact ⟨FT.out, B2.out⟩
  · have c8' : decide ((8 : Int) < (row.length : Int)) = false := by simp; omega
    go_enter Try.func43, Try.ntmps43
    go_wp2_with fail
    all_goals first | (go_ret; exact ⟨FT.out, B2.out⟩) | skip
    go_loopw [4] (fun i wr => ∃ j : Nat, j ≤ row.length ∧ i = .int .i64 (j : Int) ∧ Row wr (w.heap.size + 1) 90 [.int .i64 wk, .int .i64 wt, .int .i64 kk, .int .i64 kn, .string ks, .int .i64 hk, .int .i64 hn, .string hs, .slice ra row.length rc, .int .i64 c, .int .i64 vk, .int .i64 vn, .string vs, .int .i64 wn] ∧ Below w.heap.size w wr) (fun i _ => row.length - (intOf i).toNat)
    case atStart => exact ⟨0, by omega, rfl, V2.out, B2.out⟩
    case round =>
      clear V2 B2
      obtain ⟨j, hj, rfl, hx, hb⟩ := hrel
      have V2 := Lib.hid hx
      have B2 := Lib.hid hb
      have v8 := hx.cell (i := 8) rfl
      clear hx hb
      by_cases hlt : j < row.length
      · have hlt' : (j : Int) < (row.length : Int) := by omega
        obtain ⟨ad, rfl, _, hz⟩ := VV.out j hlt
        obtain ⟨_, _, z⟩ := hz _ B2.out
        generalize row[j] = v at *
        obtain ⟨k0, n0, s0⟩ := v
        simp only at z
        clear hz
        by_cases d : 60 < s0.size
        · have d' : (60 : Int) < (s0.size : Int) := by omega
          go_wp2_with fail
          go_ret
          exact ⟨FT.out, B2.out⟩
        · have d' : decide ((60 : Int) < (s0.size : Int)) = false := by simp; omega
          go_wp2_with fail
          exact ⟨⟨j + 1, by omega, by go_num, V2.out, B2.out⟩, by simp [intOf]; omega⟩
      · obtain rfl : j = row.length := by omega
        go_wp2_with fail
        go_ret
        exact ⟨FF.out (by omega), B2.out⟩
end Go.Proofs.Ytcfjooeagfollaa.Bill

/- Moves that came in. -/
namespace Go.Proofs.Ytcfjooeagfollaa.Bill
open Go.RowKit Go.Proofs.Ytcfjooeagfollaa.Mem Go.Proofs.Ytcfjooeagfollaa.Bytes Go.Proofs.Ytcfjooeagfollaa.Num Go.Proofs.Ytcfjooeagfollaa.Sign
set_option linter.unusedSimpArgs false
set_option linter.unusedVariables false
set_option maxRecDepth 20000

abbrev wishC := Cod.pair (Cod.int .i64) (Cod.pair (Cod.int .i64) (Cod.pair valC (Cod.pair valC (Cod.pair (Cod.slice valC) (Cod.pair (Cod.int .i64) (Cod.pair valC (Cod.pair (Cod.int .i64) Cod.unit)))))))
abbrev moveC := Cod.pair (Cod.int .i64) (Cod.pair (Cod.int .i64) (Cod.pair (Cod.pair (Cod.int .i64) (Cod.pair wishC Cod.unit)) (Cod.pair (Cod.int .i64) (Cod.pair (Cod.int .i64) Cod.unit))))
theorem val_in {w : World} {cs : List Value} {y : Int × Int × ByteArray × Unit} (h : valC.R w cs y) : ∃ v : V, cs = [.int .i64 v.k, .int .i64 v.n, .string v.s] ∧ v.fits := by
  obtain ⟨c1, r1, rfl, ⟨rfl, _⟩, c2, r2, rfl, ⟨rfl, h2⟩, c3, r3, rfl, ⟨rfl, _⟩, hu⟩ := h
  obtain rfl : r3 = [] := hu
  refine ⟨⟨y.1, y.2.1, y.2.2.1⟩, rfl, ?_⟩
  simp [Lit.wf, IntKind.min, IntKind.max, IntKind.signed, IntKind.bits] at h2
  exact ⟨by show _ ≤ y.2.1; omega, by show y.2.1 ≤ _; omega⟩
theorem i64_in {n : Int} (h : (Lit.int .i64 n).wf = true) : i64 n := by
  simp [Lit.wf, IntKind.min, IntKind.max, IntKind.signed, IntKind.bits] at h
  exact ⟨by omega, by omega⟩
def MIn (w : World) (m : Mv) : Prop := Vs w m.w.ra m.w.row ∧ m.fits ∧ m.w.row.length ≤ 9223372036854775807
theorem move_in {w : World} {cs : List Value} {y : _} (h : moveC.R w cs y) : ∃ m : Mv, cs = m.cells ∧ MIn w m := by
  obtain ⟨c1, r1, rfl, ⟨rfl, _⟩, c2, r2, rfl, ⟨rfl, _⟩, c3, r3, rfl, ⟨d1, e1, rfl, ⟨rfl, _⟩, d2, e2, rfl, hw, hu⟩, c4, r4, rfl, ⟨rfl, h4⟩, c5, r5, rfl, ⟨rfl, h5⟩, hu2⟩ := h
  obtain rfl : e2 = [] := hu
  obtain rfl : r5 = [] := hu2
  obtain ⟨f1, g1, rfl, ⟨rfl, _⟩, f2, g2, rfl, ⟨rfl, _⟩, f3, g3, rfl, h3, f4, g4, rfl, h6, f5, g5, rfl, ⟨a, n, cap, rfl, hn, hc, h0, hrow⟩, f6, g6, rfl, ⟨rfl, _⟩, f7, g7, rfl, h7, f8, g8, rfl, ⟨rfl, _⟩, hu3⟩ := hw
  obtain rfl : g8 = [] := hu3
  obtain ⟨key, rfl, k1⟩ := val_in h3
  obtain ⟨high, rfl, k2⟩ := val_in h6
  obtain ⟨val, rfl, k3⟩ := val_in h7
  obtain ⟨l, hl, hll, hV, hf⟩ := vs_of (show SlcIn valC w a n cap _ from ⟨hn, hc, h0, hrow⟩)
  subst hl
  exact ⟨⟨_, _, _, ⟨_, _, key, high, a, cap, l, _, val, _⟩, _, _⟩, rfl, hV, ⟨⟨k1, k2, k3, fun v hv => (hf v hv).1⟩, i64_in h4, i64_in h5⟩, hll⟩
theorem moves_in {w : World} {a : Option Addr} {n cap : Nat} {xs : List _} (h : SlcIn moveC w a n cap xs) : ∃ l : List Mv, l.length = n ∧ n ≤ 9223372036854775807 ∧ Els Mv.cells 19 w a l ∧ ∀ m ∈ l, MIn w m := by
  obtain ⟨l, h1, h2, h3⟩ := Plan.els_ex (enc := Mv.cells) h.2.2.2 (by decide) (fun cs x hx => move_in hx)
  exact ⟨l, h1, h.len.2, h2, h3⟩
end Go.Proofs.Ytcfjooeagfollaa.Bill

/- What BillBack wants of scripts: plain laws. -/
namespace Go.Proofs.Ytcfjooeagfollaa.Bill
open Go.RowKit Go.Proofs.Ytcfjooeagfollaa.Mem Go.Proofs.Ytcfjooeagfollaa.Bytes Go.Proofs.Ytcfjooeagfollaa.Num Go.Proofs.Ytcfjooeagfollaa.Sign
set_option linter.unusedSimpArgs false
set_option linter.unusedVariables false
set_option maxRecDepth 20000

theorem strip_bytes (m : Mv) : m.strip.bytes = m.bytes := rfl
theorem strip_good (m : Mv) : m.strip.good = m.good := at_good m none 0
theorem strip_fits (m : Mv) : m.strip.fits ↔ m.fits := Iff.rfl
theorem strip_row (m : Mv) : m.strip.w.row = m.w.row := rfl
/-- A move that can be written has a short row. -/
theorem good_row {m : Mv} (h : m.good = true) : m.w.row.length ≤ 4 := by
  obtain ⟨hb, hs⟩ := (good_iff m).1 h
  obtain ⟨k, n, a, ⟨wk, wt, key, high, ra, rc, row, c, val, wn⟩, p, q⟩ := m
  unfold Mv.eqv Mv.told at hs
  unfold Mv.bad at hb
  simp only at hs hb ⊢
  by_cases c1 : k = 1
  · simp only [c1, if_true, Bool.or_eq_false_iff] at hs hb
    obtain ⟨_, _, _, hw, _, _⟩ := hs
    by_cases c4 : a = 4
    · simp only [c4, if_true] at hw hb
      unfold Wsh.eqv Wsh.told at hw
      unfold Wsh.bad at hb
      simp only at hw hb
      by_cases d1 : wk = 1
      · have h5 := hb.2.2
        simp only [d1, if_true, Bool.or_eq_false_iff, decide_eq_false_iff_not] at h5
        have := h5.2.1.1
        omega
      · simp only [d1, if_false] at hw
        have hr : row = [] := by
          have h5 := hw.2.2.2.2.1
          split at h5
          · exact h5.symm
          · split at h5
            · exact h5.symm
            · split at h5
              · exact h5.symm
              · split at h5 <;> exact h5.symm
        rw [hr]
        simp
    · simp only [c4, if_false] at hw
      have hr : row = [] := hw.2.2.2.2.1.symm
      rw [hr]
      simp
  · simp only [c1, if_false] at hs
    have hr : row = [] := by
      split at hs
      · exact hs.2.2.2.1.2.2.2.2.1.symm
      · split at hs <;> exact hs.2.2.2.1.2.2.2.2.1.symm
    rw [hr]
    simp
theorem flat_strip : ∀ (l : List Mv), (l.map Mv.strip).flatMap Mv.bytes = l.flatMap Mv.bytes
  | [] => rfl
  | m :: l => by rw [List.map_cons, List.flatMap_cons, List.flatMap_cons, flat_strip l, strip_bytes]
/-- Of what was read: each can be written, and its bytes are what it was read of. -/
theorem read_props {ls : List Mv} {n : Nat} {l : List UInt8} (h : ls.map Mv.strip = (rd n l).1) : ls.length ≤ n ∧ (∀ m ∈ ls, m.good = true ∧ m.fits ∧ m.w.row.length ≤ 4) ∧ l = ls.flatMap Mv.bytes ++ (rd n l).2 := by
  obtain ⟨a, b, c⟩ := rd_inv n l
  rw [← h] at b c a
  rw [flat_strip] at a
  refine ⟨by simpa using c, fun m hm => ?_, a⟩
  obtain ⟨g, f⟩ := b m.strip (List.mem_map_of_mem hm)
  rw [strip_good] at g
  exact ⟨g, (strip_fits m).1 f, good_row g⟩
theorem read_out {ls : List Mv} {l : List UInt8} (h : ls.map Mv.strip = (rd 400 l).1) : bytesOut ls = (l.take (l.length - (rd 400 l).2.length), 0) := by
  obtain ⟨a, b, c⟩ := read_props h
  unfold bytesOut
  rw [if_pos ⟨a, fun m hm => (b m hm).1⟩]
  congr 1
  have e : l.length - (rd 400 l).2.length = (ls.flatMap Mv.bytes).length := by
    have := congrArg List.length c
    rw [List.length_append] at this
    omega
  rw [e]
  generalize (rd 400 l).2 = r at c
  rw [c, List.take_left]
/-- Two scripts, one behind the other. -/
theorem two_scripts {a b : List Mv} (ha : ∀ m ∈ a, m.good = true ∧ m.fits) (hb : ∀ m ∈ b, m.good = true ∧ m.fits) (hn : a.length + b.length ≤ 400) : rd 400 (a.flatMap Mv.bytes ++ b.flatMap Mv.bytes) = ((a ++ b).map Mv.strip, []) := by
  have h := rd_app (a ++ b) 400 [] (fun m hm => by
    rcases List.mem_append.1 hm with hm | hm
    · exact ha m hm
    · exact hb m hm) (by rw [List.length_append]; exact hn)
  rw [rd_nil, List.flatMap_append, List.append_nil, List.append_nil] at h
  exact h
theorem out_ok {l : List Mv} (h : (bytesOut l).2 = 0) : l.length ≤ 400 ∧ (∀ m ∈ l, m.good = true) ∧ (bytesOut l).1 = l.flatMap Mv.bytes := by
  unfold bytesOut at h ⊢
  split
  · rename_i c
    exact ⟨c.1, c.2, rfl⟩
  · rename_i c
    rw [if_neg c] at h
    cases h
end Go.Proofs.Ytcfjooeagfollaa.Bill

/- The law BillExact: of all moves the bytes, of all bytes the moves, are the document's. -/
namespace Go.Proofs.Ytcfjooeagfollaa.Bill
open Go.RowKit Go.Proofs.Ytcfjooeagfollaa.Mem Go.Proofs.Ytcfjooeagfollaa.Bytes Go.Proofs.Ytcfjooeagfollaa.Num Go.Proofs.Ytcfjooeagfollaa.Sign
set_option linter.unusedSimpArgs false
set_option linter.unusedVariables false
set_option maxRecDepth 20000

/-- An element of a row is loaded, in whatever world. -/
theorem exec_elx {P : Program} {o : Oper} {a : Act} {w0 w : World} {α : Type} {enc : α → List Value} {sz : Nat} {ad : Addr} {l : List α} (hE : Els enc sz w0 (some ad) l) (hb : Below w0.heap.size w0 w) (i : Nat) (hi : i < l.length) (x : α) (hx : l[i] = x) (ty : TypeId) {d : TypeDesc} (hu : P.underlying ty = some d) (hd : d.isRow = true) (hs : (P.info? ty).map (·.size) = some (enc x).length)
    {y : Operand} (ho : o.op = .load ty y) (hy : a.eval y = .pointer (some (ad.add (i * sz)))) : (execOp a.eval o).run P w = .ok (.value (.agg (enc x).toArray)) w := by
  subst hx
  obtain ⟨ad', e, _, hc⟩ := hE i hi
  cases e
  have hl : (loadCells (ad.add (i * sz)) (enc l[i]).length).run P w = .ok (enc l[i]).toArray w :=
    run_loadCells_list (P := P) w _ _ (fun j v hv => by rw [add_two]; exact hc w hb j v hv)
  have hv : (loadVar ty (ad.add (i * sz))).run P w = .ok (.agg (enc l[i]).toArray) w := by
    cases hq : P.info? ty with
    | none => simp [hq] at hs
    | some i0 =>
      have hs' : i0.size = (enc l[i]).length := by simpa [hq] using hs
      have hagg : (isAgg ty).run P w = .ok true w := by
        unfold isAgg
        rw [Sem.run_bind, run_underlying hu w]
        cases d <;> simp_all
      simp [loadVar, Sem.run_bind, hagg, sizeOf, typeInfo, hq, hs', hl]
  unfold execOp
  simp only [ho, hy, Instr.loadAt, Instr.sureAddr, Sem.run_bind, Sem.run_pure, Result.andThen_ok, hv]
theorem strip_eqx {x y : Mv} (h : x.strip = y.strip) : y = x.at y.w.ra y.w.rc := by
  obtain ⟨k, n, a, ⟨wk, wt, key, high, ra, rc, row, c, val, wn⟩, p, q⟩ := x
  obtain ⟨k', n', a', ⟨wk', wt', key', high', ra', rc', row', c', val', wn'⟩, p', q'⟩ := y
  unfold Mv.strip Mv.at at h
  simp only [Mv.mk.injEq, Wsh.mk.injEq] at h
  obtain ⟨rfl, rfl, rfl, ⟨rfl, rfl, rfl, rfl, _, _, rfl, rfl, rfl, rfl⟩, rfl, rfl⟩ := h
  rfl
/-- What the reference has written so far. -/
def Wrote (l : List Mv) (A : Bool) (W : ByteArray) : Prop := (A = true ↔ ∀ m ∈ l, m.good = true) ∧ (A = true → W = bs (l.flatMap Mv.bytes)) ∧ W.size ≤ 100000 * l.length
theorem wrote_snoc {l : List Mv} {A : Bool} {W s : ByteArray} {m : Mv} {r : Bool} (h : Wrote l A W) (hr : r = true ↔ m.good = true) (hs : r = true → s = bs m.bytes) (hz : s.size ≤ 100000) : Wrote (l ++ [m]) (A && r) (W ++ s) := by
  obtain ⟨h1, h2, h3⟩ := h
  refine ⟨?_, fun e => ?_, by rw [ByteArray.size_append, List.length_append]; simp; omega⟩
  · rw [Bool.and_eq_true, h1, hr]
    constructor
    · rintro ⟨a, b⟩ x hx
      rcases List.mem_append.1 hx with hx | hx
      · exact a x hx
      · rw [List.mem_singleton.1 hx]; exact b
    · intro a
      exact ⟨fun x hx => a x (List.mem_append_left _ hx), a m (List.mem_append_right _ (List.mem_singleton.2 rfl))⟩
  · rw [Bool.and_eq_true] at e
    rw [h2 e.1, hs e.2, List.flatMap_append, bs_append]
    simp
theorem wrote_out {l : List Mv} {A : Bool} {W : ByteArray} (h : Wrote l A W) (hl : l.length ≤ 400) : (A = true → bs (bytesOut l).1 = W ∧ (bytesOut l).2 = 0) ∧ (A = false → bytesOut l = ([], 1)) := by
  constructor
  · intro e
    have hb : bytesOut l = (l.flatMap Mv.bytes, 0) := by unfold bytesOut; rw [if_pos ⟨hl, h.1.1 e⟩]
    rw [hb]
    exact ⟨(h.2.1 e).symm, rfl⟩
  · intro e
    unfold bytesOut
    rw [if_neg]
    rintro ⟨_, hg⟩
    rw [h.1.2 hg] at e
    cases e
set_option maxHeartbeats 8000000 in
theorem exact_calls (la : List Mv) (aa : Option Addr) (ca : Nat) (s : ByteArray) (w : World) (hA : Els Mv.cells 19 w aa la) (hAM : ∀ m ∈ la, MIn w m) (hla : la.length ≤ 9223372036854775807) (hs : s.size ≤ 140737488351232) :
    Calls Try.prog 7 #[.slice aa la.length ca, .string s] w fun e w' => e = .returned (.bool true) ∧ Below w.heap.size w w' := by
  have EA := Lib.hid hA
  have MA := Lib.hid hAM
  have AW := Lib.hid awake_calls
  clear hA hAM
  go_enter Try.func7, Try.ntmps7
  go_wp2_with fail
  refine (AW.out _).mono ?_
  rintro e w1 ⟨rfl, k1⟩
  have B := Lib.hid k1
  clear k1 AW
  by_cases c1 : 20 < la.length
  · have c1' : (20 : Int) < (la.length : Int) := by omega
    go_wp2_with fail
    go_ret
    exact ⟨rfl, B.out⟩
  have c1' : decide ((20 : Int) < (la.length : Int)) = false := by simp; omega
  by_cases c3 : 1024 < s.size
  · have c3' : (1024 : Int) < (s.size : Int) := by omega
    go_wp2_with fail
    go_ret
    exact ⟨rfl, B.out⟩
  have c3' : decide ((1024 : Int) < (s.size : Int)) = false := by simp; omega
  go_wp2_with fail
  clear c1' c3'
  go_loopw [5, 6, 7] (fun v u i wr => ∃ (j : Nat) (A : Bool) (W : ByteArray), j ≤ la.length ∧ i = .int .i64 (j : Int) ∧ u = .bool A ∧ v = .string W ∧ Wrote (la.take j) A W ∧ (∀ m ∈ la.take j, m.w.row.length ≤ 8) ∧ Below w.heap.size w wr) (fun _ _ i _ => la.length - (intOf i).toNat)
  case atStart => exact ⟨0, true, ⟨#[]⟩, by omega, rfl, rfl, rfl, ⟨by simp, fun _ => rfl, Nat.zero_le _⟩, fun m hm => by simp at hm, B.out⟩
  case round =>
    clear B
    obtain ⟨j, A, W, hj, rfl, rfl, rfl, hW, hg, hb⟩ := hrel
    have B := Lib.hid hb
    have G := Lib.hid hg
    have WR := Lib.hid hW
    have hWz := hW.2.2
    rw [List.length_take_of_le hj] at hWz
    clear hb hg hW
    by_cases hlt : j < la.length
    · have hlt' : (j : Int) < (la.length : Int) := by omega
      obtain ⟨ad, rfl, _, _⟩ := EA.out j hlt
      have hmem := List.getElem_mem hlt
      have htk := List.take_succ_eq_append_getElem hlt
      obtain ⟨m, hmm⟩ : ∃ m, la[j] = m := ⟨_, rfl⟩
      rw [hmm] at hmem htk
      have HMM := Lib.hid hmm
      have TK := Lib.hid htk
      obtain ⟨hV, hf, hr⟩ := MA.out m hmem
      have GC := Lib.hid (fun wx (hk : Below w.heap.size w wx) => great_calls m wx (hV.keep hk) hr)
      have MV := Lib.hid hV
      have MF := Lib.hid hf.1
      clear hmm htk hmem hV hf hr
      go_wp2_with (refine load_els EA.out B.out j hlt m HMM.out 94 Try.underlying94 rfl (by kernel_rfl) rfl rfl rfl ?_)
      refine (GC.out _ B.out).mono ?_
      rintro e w2 ⟨⟨g, rfl, hg8⟩, k2⟩
      have B2 := Lib.hid (B.out.trans (k2.mono B.out.size))
      have G8 := Lib.hid hg8
      clear k2 hg8 GC
      cases g
      rotate_left 1
      · go_wp2_with fail
        go_ret
        exact ⟨rfl, B2.out⟩
      have h8 := G8.out rfl
      clear G8
      go_wp2_with (refine load_els EA.out B2.out j hlt m HMM.out 94 Try.underlying94 rfl (by kernel_rfl) rfl rfl rfl ?_)
      refine (form_calls m _).mono ?_
      rintro e w3 ⟨rfl, k3⟩
      have B3 := Lib.hid (B2.out.trans (k3.mono B2.out.size))
      clear k3
      go_wp2_with fail
      refine (refbytes_calls m _ (MV.out.keep B3.out) MF.out (by omega)).mono ?_
      rintro e w4 ⟨⟨t, r, rfl, hr1, hr2, hr3⟩, k4⟩
      have B4 := Lib.hid (B3.out.trans (k4.mono B3.out.size))
      have R1 := Lib.hid hr1
      have R2 := Lib.hid hr2
      have WS := Lib.hid (wrote_snoc WR.out hr1 hr2 hr3)
      clear k4 hr1 hr2
      go_wp2_with (refine load_els EA.out B4.out j hlt m HMM.out 94 Try.underlying94 rfl (by kernel_rfl) rfl rfl rfl ?_)
      refine (good_calls m _ (MV.out.keep B4.out) MF.out (by omega)).mono ?_
      rintro e w5 ⟨rfl, k5⟩
      have B5 := Lib.hid (B4.out.trans (k5.mono B4.out.size))
      clear k5
      have hgr : m.good = r := by
        cases hmg : m.good
        · cases r
          · rfl
          · rw [R1.out.1 rfl] at hmg
            cases hmg
        · exact (R1.out.2 hmg).symm
      rw [hgr]
      clear hgr
      have hq : ¬ 9223372036854775807 < W.size + t.size := by omega
      cases A <;> cases r
      all_goals
        go_wp2_with fail
        exact ⟨⟨j + 1, _, _, by omega, by go_num, rfl, rfl, by rw [TK.out]; exact WS.out, fun x hx => by
          rw [TK.out] at hx
          rcases List.mem_append.1 hx with hx | hx
          · exact G.out x hx
          · rw [List.mem_singleton.1 hx]; exact h8, B5.out⟩, by simp [intOf]; omega⟩
    · obtain rfl : j = la.length := by omega
      have GA := Lib.hid (fun m hm => G.out m (by rw [List.take_length]; exact hm))
      have WW := WR.out
      rw [List.take_length] at WW
      have WO := Lib.hid (wrote_out WW (by omega))
      clear G WR WW
      have BA := Lib.hid (fun wx (hk : Below w.heap.size w wx) => bytes_calls la aa ca wx (EA.out.keep hk) (fun m hm => ⟨(MA.out m hm).1.keep hk, (MA.out m hm).2.1.1, by have := GA.out m hm; omega⟩) hla)
      obtain ⟨O, hO⟩ : ∃ O, bytesOut la = O := ⟨_, rfl⟩
      rw [hO] at BA WO
      obtain ⟨ob, oe⟩ := O
      clear hO
      have RC := Lib.hid (fun wx => read_calls s wx (by omega))
      have RD := Lib.hid (fun wx => refread26_calls s wx (by omega))
      have RP := Lib.hid (fun (l : List Mv) (h : l.map Mv.strip = (rd 400 s.data.toList).1) => And.intro (read_props h).1 (read_props h).2.1)
      obtain ⟨R, hR⟩ : ∃ R, rd 400 s.data.toList = R := ⟨_, rfl⟩
      rw [hR] at RC RD RP
      clear hR
      go_wp2_with fail
      refine (BA.out _ B.out).mono ?_
      rintro e w2 ⟨rfl, k2⟩
      have B2 := Lib.hid (B.out.trans (k2.mono B.out.size))
      clear k2 BA
      have fin : ∀ (A' : Bool), A = A' → (A' = true → bs ob = W ∧ oe = 0) ∧ (A' = false → (ob, oe) = (([], 1) : List UInt8 × Int)) := fun A' e => e ▸ WO.out
      have FN := Lib.hid fin
      clear fin WO
      cases A
      · have h := (FN.out false rfl).2 rfl
        obtain ⟨rfl, rfl⟩ := Prod.mk.inj h
        clear h FN
        have e0 : (bs ([] : List UInt8)).toList = [] := bs_toList []
        go_wp2_with fail
        clear e0
        refine (RC.out _).mono ?_
        as_aux_lemma =>
          rintro e w3 ⟨⟨l1, a1, cap1, rfl, hE1, hV1, hs1, hn1⟩, k3⟩
          have B3 := Lib.hid (B2.out.trans (k3.mono B2.out.size))
          have E1 := Lib.hid hE1
          have V1 := Lib.hid hV1
          have S1 := Lib.hid hs1
          clear k3 hE1 hV1 hs1 RC
          go_wp2_with fail
          refine (RD.out _).mono ?_
          rintro e w4 ⟨⟨l2, a2, cap2, rfl, hE2, hV2, hs2, hn2⟩, k4⟩
          have B4 := Lib.hid (B3.out.trans (k4.mono B3.out.size))
          replace E1 := Lib.hid (E1.out.keep k4)
          replace V1 := Lib.hid (fun m hm => (V1.out m hm).keep k4 : ∀ m ∈ l1, Vs w4 m.w.ra m.w.row)
          have E2 := Lib.hid hE2
          have V2 := Lib.hid hV2
          have hst : l1.map Mv.strip = l2.map Mv.strip := by rw [hs2, S1.out]
          have hll : l1.length = l2.length := by
            have := congrArg List.length hst
            simpa using this
          have hz1 : l1.length ≤ 400 := (RP.out _ S1.out).1
          have hrow := (RP.out _ S1.out).2
          have ST := Lib.hid hst
          have LL := Lib.hid hll
          have RW := Lib.hid hrow
          have d1 : ((l1.length : Int) != (l2.length : Int)) = false := by rw [hll]; simp
          have d2 : (((s.size : Int) - (R.2.length : Int)) != ((s.size : Int) - (R.2.length : Int))) = false := by simp
          clear k4 hE2 hV2 hs2 hst hll hrow RD S1
          go_wp2_with fail
          clear d1 d2
          go_loopw [16] (fun i wr => ∃ j : Nat, j ≤ l1.length ∧ i = .int .i64 (j : Int) ∧ Below w.heap.size w wr ∧ Below w4.heap.size w4 wr) (fun i _ => l1.length - (intOf i).toNat)
          case atStart => exact ⟨0, by omega, rfl, B4.out, Below.refl _ _⟩
          case round =>
            clear B2 B3 B4
            obtain ⟨j, hj, rfl, hb, hb9⟩ := hrel
            have B := Lib.hid hb
            have KN := Lib.hid hb9
            clear hb hb9
            by_cases hlt : j < l1.length
            · have hlt' : (j : Int) < (l1.length : Int) := by omega
              have hlt2 : j < l2.length := by rw [← LL.out]; exact hlt
              have hlt2' : (j : Int) < (l2.length : Int) := by omega
              obtain ⟨d1, rfl, _, _⟩ := E1.out j hlt
              obtain ⟨d2, rfl, _, _⟩ := E2.out j hlt2
              obtain ⟨x, hxx⟩ : ∃ x, l1[j] = x := ⟨_, rfl⟩
              obtain ⟨y, hyy⟩ : ∃ y, l2[j] = y := ⟨_, rfl⟩
              have hst := congrArg (fun l => l[j]?) ST.out
              simp only [List.getElem?_map] at hst
              rw [List.getElem?_eq_getElem hlt, hxx, List.getElem?_eq_getElem hlt2, hyy] at hst
              replace hst := Option.some.inj hst
              have hxV := V1.out x (by rw [← hxx]; exact List.getElem_mem hlt)
              have hyV := V2.out y (by rw [← hyy]; exact List.getElem_mem hlt2)
              have hxl : x.w.row.length ≤ 9223372036854775807 := by
                have := (RW.out x (by rw [← hxx]; exact List.getElem_mem hlt)).2.2
                omega
              have hq := strip_eqx hst
              have hrow : y.w.row = x.w.row := by rw [hq]; rfl
              have HX := Lib.hid hxx
              have HY := Lib.hid hyy
              have SC := Lib.hid (fun wx (h9 : Below w4.heap.size w4 wx) => (show Calls Try.prog 50 #[.agg x.cells.toArray, .agg y.cells.toArray] wx fun e w' => e = .returned (.bool true) ∧ Below wx.heap.size wx w' from by
                have h := refsame_calls x y.w.ra y.w.rc wx (hxV.keep h9) (by rw [← hrow]; exact hyV.keep h9) hxl
                rw [← hq] at h
                exact h))
              clear hq hrow hst hxV hyV hxx hyy hxl
              go_wp2_with fail
              replace B := Lib.hid B.out.drew
              replace KN := Lib.hid KN.out.drew
              refine Reg.start (fun w' => Below w4.heap.size w4 w') (fun i => false) (by kernel_rfl) KN.out (fun hHeld => ?_)
              generalize wr.drew = wd at *
              refine Reg.takeI 0 (v := ?_) rfl (by kernel_rfl) (by kernel_rfl) (by kernel_rfl) (by kernel_rfl) (fun _ _ _ h => h) (by rfl) ?_ hHeld ?_
              rotate_left 1
              · (intro w hSw; (try dsimp only at hSw); go_simp; try with_reducible rfl)
              try simp only [Act.put, List.setIfInBounds_toArray, List.set_cons_zero, List.set_cons_succ]
              refine Reg.takeI 1 (v := ?_) rfl (by kernel_rfl) (by kernel_rfl) (by kernel_rfl) (by kernel_rfl) (fun _ _ _ h => h) (by rfl) ?_ hHeld ?_
              rotate_left 1
              · (intro w hSw; (try dsimp only at hSw); go_simp; try with_reducible rfl)
              try simp only [Act.put, List.setIfInBounds_toArray, List.set_cons_zero, List.set_cons_succ]
              refine Reg.takeI 2 (v := ?_) rfl (by kernel_rfl) (by kernel_rfl) (by kernel_rfl) (by kernel_rfl) (fun _ _ _ h => h) (by rfl) ?_ hHeld ?_
              rotate_left 1
              · (intro w hSw; (try dsimp only at hSw); go_simp; try with_reducible rfl)
              try simp only [Act.put, List.setIfInBounds_toArray, List.set_cons_zero, List.set_cons_succ]
              refine Reg.takeI 3 (v := .agg x.cells.toArray) rfl (by kernel_rfl) (by kernel_rfl) (by kernel_rfl) (by kernel_rfl) (fun _ _ _ h => h) (by rfl) ?_ hHeld ?_
              · intro w hSw
                exact exec_elx E1.out hSw j hlt x HX.out 94 Try.underlying94 rfl (by kernel_rfl) (by rfl) (by rfl)
              try simp only [Act.put, List.setIfInBounds_toArray, List.set_cons_zero, List.set_cons_succ]
              refine Reg.takeI 5 (v := ?_) rfl (by kernel_rfl) (by kernel_rfl) (by kernel_rfl) (by kernel_rfl) (fun _ _ _ h => h) (by rfl) ?_ hHeld ?_
              rotate_left 1
              · (intro w hSw; (try dsimp only at hSw); go_simp; try with_reducible rfl)
              try simp only [Act.put, List.setIfInBounds_toArray, List.set_cons_zero, List.set_cons_succ]
              refine Reg.takeI 6 (v := ?_) rfl (by kernel_rfl) (by kernel_rfl) (by kernel_rfl) (by kernel_rfl) (fun _ _ _ h => h) (by rfl) ?_ hHeld ?_
              rotate_left 1
              · (intro w hSw; (try dsimp only at hSw); go_simp; try with_reducible rfl)
              try simp only [Act.put, List.setIfInBounds_toArray, List.set_cons_zero, List.set_cons_succ]
              refine Reg.takeI 7 (v := ?_) rfl (by kernel_rfl) (by kernel_rfl) (by kernel_rfl) (by kernel_rfl) (fun _ _ _ h => h) (by rfl) ?_ hHeld ?_
              rotate_left 1
              · (intro w hSw; (try dsimp only at hSw); go_simp; try with_reducible rfl)
              try simp only [Act.put, List.setIfInBounds_toArray, List.set_cons_zero, List.set_cons_succ]
              refine Reg.takeI 8 (v := .agg y.cells.toArray) rfl (by kernel_rfl) (by kernel_rfl) (by kernel_rfl) (by kernel_rfl) (fun _ _ _ h => h) (by rfl) ?_ hHeld ?_
              · intro w hSw
                exact exec_elx E2.out hSw j hlt2 y HY.out 99 Try.underlying99 rfl (by kernel_rfl) (by rfl) (by rfl)
              try simp only [Act.put, List.setIfInBounds_toArray, List.set_cons_zero, List.set_cons_succ]
              refine Reg.oneI 4 rfl (by kernel_rfl) (by rfl) (fun K hK => ?_)
              go_simp
              go_at_call 45
              refine (form_calls x _).mono ?_
              rintro e wf1 ⟨rfl, k⟩
              replace B := Lib.hid (B.out.trans (k.mono B.out.size))
              replace KN := Lib.hid (KN.out.trans (k.mono KN.out.size))
              clear k
              go_wp2_with fail
              refine hK.out _ _ (fun _ => KN.out) (fun hHeld => ?_)
              replace hHeld := hHeld (by first | rfl | trivial)
              clear hK K
              try simp only [Act.put, List.setIfInBounds_toArray, List.set_cons_zero, List.set_cons_succ]
              refine Reg.oneI 9 rfl (by kernel_rfl) (by rfl) (fun K hK => ?_)
              go_simp
              go_at_call 50
              refine (SC.out _ KN.out).mono ?_
              rintro e wf3 ⟨rfl, k⟩
              replace B := Lib.hid (B.out.trans (k.mono B.out.size))
              replace KN := Lib.hid (KN.out.trans (k.mono KN.out.size))
              clear k
              go_wp2_with fail
              refine hK.out _ _ (fun _ => KN.out) (fun hHeld => ?_)
              replace hHeld := hHeld (by first | rfl | trivial)
              clear hK K
              try simp only [Act.put, List.setIfInBounds_toArray, List.set_cons_zero, List.set_cons_succ]
              refine Reg.takeI 10 (v := ?_) rfl (by kernel_rfl) (by kernel_rfl) (by kernel_rfl) (by kernel_rfl) (fun _ _ _ h => h) (by rfl) ?_ hHeld ?_
              rotate_left 1
              · (intro w hSw; (try dsimp only at hSw); go_simp; try with_reducible rfl)
              try simp only [Act.put, List.setIfInBounds_toArray, List.set_cons_zero, List.set_cons_succ]
              refine Reg.doneI (by kernel_rfl) ?_
              go_wp2_with fail
              exact ⟨⟨j + 1, by omega, by go_num, B.out, KN.out⟩, by simp [intOf]; omega⟩
            · obtain rfl : j = l1.length := by omega
              go_wp2_with fail
              go_ret
              exact ⟨rfl, B.out⟩
      · obtain ⟨rfl, rfl⟩ := (FN.out true rfl).1 rfl
        clear FN
        have e0 : ((bs ob).toList == (bs ob).toList) = true := by simp
        go_wp2_with fail
        clear e0
        refine (RC.out _).mono ?_
        as_aux_lemma =>
          rintro e w3 ⟨⟨l1, a1, cap1, rfl, hE1, hV1, hs1, hn1⟩, k3⟩
          have B3 := Lib.hid (B2.out.trans (k3.mono B2.out.size))
          have E1 := Lib.hid hE1
          have V1 := Lib.hid hV1
          have S1 := Lib.hid hs1
          clear k3 hE1 hV1 hs1 RC
          go_wp2_with fail
          refine (RD.out _).mono ?_
          rintro e w4 ⟨⟨l2, a2, cap2, rfl, hE2, hV2, hs2, hn2⟩, k4⟩
          have B4 := Lib.hid (B3.out.trans (k4.mono B3.out.size))
          replace E1 := Lib.hid (E1.out.keep k4)
          replace V1 := Lib.hid (fun m hm => (V1.out m hm).keep k4 : ∀ m ∈ l1, Vs w4 m.w.ra m.w.row)
          have E2 := Lib.hid hE2
          have V2 := Lib.hid hV2
          have hst : l1.map Mv.strip = l2.map Mv.strip := by rw [hs2, S1.out]
          have hll : l1.length = l2.length := by
            have := congrArg List.length hst
            simpa using this
          have hz1 : l1.length ≤ 400 := (RP.out _ S1.out).1
          have hrow := (RP.out _ S1.out).2
          have ST := Lib.hid hst
          have LL := Lib.hid hll
          have RW := Lib.hid hrow
          have d1 : ((l1.length : Int) != (l2.length : Int)) = false := by rw [hll]; simp
          have d2 : (((s.size : Int) - (R.2.length : Int)) != ((s.size : Int) - (R.2.length : Int))) = false := by simp
          clear k4 hE2 hV2 hs2 hst hll hrow RD S1
          go_wp2_with fail
          clear d1 d2
          go_loopw [16] (fun i wr => ∃ j : Nat, j ≤ l1.length ∧ i = .int .i64 (j : Int) ∧ Below w.heap.size w wr ∧ Below w4.heap.size w4 wr) (fun i _ => l1.length - (intOf i).toNat)
          case atStart => exact ⟨0, by omega, rfl, B4.out, Below.refl _ _⟩
          case round =>
            clear B2 B3 B4
            obtain ⟨j, hj, rfl, hb, hb9⟩ := hrel
            have B := Lib.hid hb
            have KN := Lib.hid hb9
            clear hb hb9
            by_cases hlt : j < l1.length
            · have hlt' : (j : Int) < (l1.length : Int) := by omega
              have hlt2 : j < l2.length := by rw [← LL.out]; exact hlt
              have hlt2' : (j : Int) < (l2.length : Int) := by omega
              obtain ⟨d1, rfl, _, _⟩ := E1.out j hlt
              obtain ⟨d2, rfl, _, _⟩ := E2.out j hlt2
              obtain ⟨x, hxx⟩ : ∃ x, l1[j] = x := ⟨_, rfl⟩
              obtain ⟨y, hyy⟩ : ∃ y, l2[j] = y := ⟨_, rfl⟩
              have hst := congrArg (fun l => l[j]?) ST.out
              simp only [List.getElem?_map] at hst
              rw [List.getElem?_eq_getElem hlt, hxx, List.getElem?_eq_getElem hlt2, hyy] at hst
              replace hst := Option.some.inj hst
              have hxV := V1.out x (by rw [← hxx]; exact List.getElem_mem hlt)
              have hyV := V2.out y (by rw [← hyy]; exact List.getElem_mem hlt2)
              have hxl : x.w.row.length ≤ 9223372036854775807 := by
                have := (RW.out x (by rw [← hxx]; exact List.getElem_mem hlt)).2.2
                omega
              have hq := strip_eqx hst
              have hrow : y.w.row = x.w.row := by rw [hq]; rfl
              have HX := Lib.hid hxx
              have HY := Lib.hid hyy
              have SC := Lib.hid (fun wx (h9 : Below w4.heap.size w4 wx) => (show Calls Try.prog 50 #[.agg x.cells.toArray, .agg y.cells.toArray] wx fun e w' => e = .returned (.bool true) ∧ Below wx.heap.size wx w' from by
                have h := refsame_calls x y.w.ra y.w.rc wx (hxV.keep h9) (by rw [← hrow]; exact hyV.keep h9) hxl
                rw [← hq] at h
                exact h))
              clear hq hrow hst hxV hyV hxx hyy hxl
              go_wp2_with fail
              replace B := Lib.hid B.out.drew
              replace KN := Lib.hid KN.out.drew
              refine Reg.start (fun w' => Below w4.heap.size w4 w') (fun i => false) (by kernel_rfl) KN.out (fun hHeld => ?_)
              generalize wr.drew = wd at *
              refine Reg.takeI 0 (v := ?_) rfl (by kernel_rfl) (by kernel_rfl) (by kernel_rfl) (by kernel_rfl) (fun _ _ _ h => h) (by rfl) ?_ hHeld ?_
              rotate_left 1
              · (intro w hSw; (try dsimp only at hSw); go_simp; try with_reducible rfl)
              try simp only [Act.put, List.setIfInBounds_toArray, List.set_cons_zero, List.set_cons_succ]
              refine Reg.takeI 1 (v := ?_) rfl (by kernel_rfl) (by kernel_rfl) (by kernel_rfl) (by kernel_rfl) (fun _ _ _ h => h) (by rfl) ?_ hHeld ?_
              rotate_left 1
              · (intro w hSw; (try dsimp only at hSw); go_simp; try with_reducible rfl)
              try simp only [Act.put, List.setIfInBounds_toArray, List.set_cons_zero, List.set_cons_succ]
              refine Reg.takeI 2 (v := ?_) rfl (by kernel_rfl) (by kernel_rfl) (by kernel_rfl) (by kernel_rfl) (fun _ _ _ h => h) (by rfl) ?_ hHeld ?_
              rotate_left 1
              · (intro w hSw; (try dsimp only at hSw); go_simp; try with_reducible rfl)
              try simp only [Act.put, List.setIfInBounds_toArray, List.set_cons_zero, List.set_cons_succ]
              refine Reg.takeI 3 (v := .agg x.cells.toArray) rfl (by kernel_rfl) (by kernel_rfl) (by kernel_rfl) (by kernel_rfl) (fun _ _ _ h => h) (by rfl) ?_ hHeld ?_
              · intro w hSw
                exact exec_elx E1.out hSw j hlt x HX.out 94 Try.underlying94 rfl (by kernel_rfl) (by rfl) (by rfl)
              try simp only [Act.put, List.setIfInBounds_toArray, List.set_cons_zero, List.set_cons_succ]
              refine Reg.takeI 5 (v := ?_) rfl (by kernel_rfl) (by kernel_rfl) (by kernel_rfl) (by kernel_rfl) (fun _ _ _ h => h) (by rfl) ?_ hHeld ?_
              rotate_left 1
              · (intro w hSw; (try dsimp only at hSw); go_simp; try with_reducible rfl)
              try simp only [Act.put, List.setIfInBounds_toArray, List.set_cons_zero, List.set_cons_succ]
              refine Reg.takeI 6 (v := ?_) rfl (by kernel_rfl) (by kernel_rfl) (by kernel_rfl) (by kernel_rfl) (fun _ _ _ h => h) (by rfl) ?_ hHeld ?_
              rotate_left 1
              · (intro w hSw; (try dsimp only at hSw); go_simp; try with_reducible rfl)
              try simp only [Act.put, List.setIfInBounds_toArray, List.set_cons_zero, List.set_cons_succ]
              refine Reg.takeI 7 (v := ?_) rfl (by kernel_rfl) (by kernel_rfl) (by kernel_rfl) (by kernel_rfl) (fun _ _ _ h => h) (by rfl) ?_ hHeld ?_
              rotate_left 1
              · (intro w hSw; (try dsimp only at hSw); go_simp; try with_reducible rfl)
              try simp only [Act.put, List.setIfInBounds_toArray, List.set_cons_zero, List.set_cons_succ]
              refine Reg.takeI 8 (v := .agg y.cells.toArray) rfl (by kernel_rfl) (by kernel_rfl) (by kernel_rfl) (by kernel_rfl) (fun _ _ _ h => h) (by rfl) ?_ hHeld ?_
              · intro w hSw
                exact exec_elx E2.out hSw j hlt2 y HY.out 99 Try.underlying99 rfl (by kernel_rfl) (by rfl) (by rfl)
              try simp only [Act.put, List.setIfInBounds_toArray, List.set_cons_zero, List.set_cons_succ]
              refine Reg.oneI 4 rfl (by kernel_rfl) (by rfl) (fun K hK => ?_)
              go_simp
              go_at_call 45
              refine (form_calls x _).mono ?_
              rintro e wf1 ⟨rfl, k⟩
              replace B := Lib.hid (B.out.trans (k.mono B.out.size))
              replace KN := Lib.hid (KN.out.trans (k.mono KN.out.size))
              clear k
              go_wp2_with fail
              refine hK.out _ _ (fun _ => KN.out) (fun hHeld => ?_)
              replace hHeld := hHeld (by first | rfl | trivial)
              clear hK K
              try simp only [Act.put, List.setIfInBounds_toArray, List.set_cons_zero, List.set_cons_succ]
              refine Reg.oneI 9 rfl (by kernel_rfl) (by rfl) (fun K hK => ?_)
              go_simp
              go_at_call 50
              refine (SC.out _ KN.out).mono ?_
              rintro e wf3 ⟨rfl, k⟩
              replace B := Lib.hid (B.out.trans (k.mono B.out.size))
              replace KN := Lib.hid (KN.out.trans (k.mono KN.out.size))
              clear k
              go_wp2_with fail
              refine hK.out _ _ (fun _ => KN.out) (fun hHeld => ?_)
              replace hHeld := hHeld (by first | rfl | trivial)
              clear hK K
              try simp only [Act.put, List.setIfInBounds_toArray, List.set_cons_zero, List.set_cons_succ]
              refine Reg.takeI 10 (v := ?_) rfl (by kernel_rfl) (by kernel_rfl) (by kernel_rfl) (by kernel_rfl) (fun _ _ _ h => h) (by rfl) ?_ hHeld ?_
              rotate_left 1
              · (intro w hSw; (try dsimp only at hSw); go_simp; try with_reducible rfl)
              try simp only [Act.put, List.setIfInBounds_toArray, List.set_cons_zero, List.set_cons_succ]
              refine Reg.doneI (by kernel_rfl) ?_
              go_wp2_with fail
              exact ⟨⟨j + 1, by omega, by go_num, B.out, KN.out⟩, by simp [intOf]; omega⟩
            · obtain rfl : j = l1.length := by omega
              go_wp2_with fail
              go_ret
              exact ⟨rfl, B.out⟩
theorem exact_row (a : Option Addr) (la ca : Nat) (xs : _) (s : ByteArray) (W : World) (h1 : SlcIn moveC W a la ca xs) (h3 : s.size ≤ 140737488351232) :
    Calls Try.prog 7 #[.slice a la ca, .string s] W fun e w' => e = .returned (.bool true) ∧ Below W.heap.size W w' := by
  obtain ⟨l, rfl, l1, l2, l3⟩ := moves_in h1
  exact exact_calls l a ca s W l2 l3 l1 h3
end Go.Proofs.Ytcfjooeagfollaa.Bill
