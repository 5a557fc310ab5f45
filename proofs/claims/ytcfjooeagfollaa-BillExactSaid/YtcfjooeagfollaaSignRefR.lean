/- gaugerref01.Read. Printed by sign_refread.py -/
import Derived.Test.YtcfjooeagfollaaSignRefT
import Derived.Test.YtcfjooeagfollaaSignRead
namespace Go.Proofs.Ytcfjooeagfollaa.Sign
open Go.RowKit Go.Proofs.Ytcfjooeagfollaa.Mem Go.Proofs.Ytcfjooeagfollaa.Bytes Go.Proofs.Ytcfjooeagfollaa.Num
set_option linter.unusedSimpArgs false
set_option linter.unusedVariables false
set_option maxRecDepth 20000

theorem refcode_calls (v : V) (hg : v.good = true) (hf : v.fits) (w : World) : Calls Try.prog 173 #[v.val] w fun e w' => e = .returned (.string (bs v.code)) ∧ Below w.heap.size w w' := by
  obtain ⟨k, n, s⟩ := v
  obtain ⟨f1, f2⟩ := hf
  rcases (V.good_iff _).1 hg with ⟨h1, h2⟩ | ⟨h1, h2, h3⟩
  · simp only at h1 h2 f1 f2
    subst h1
    obtain rfl := size_zero h2
    exact refcode1 n w (by omega) (by omega)
  · simp only at h1 h2 h3
    subst h1 h2
    exact refcode2 s w h3
def refreadOut (l : List UInt8) : V × Bool := match readV l with
  | none => (noV, false)
  | some v => (v, true)
theorem refreadOut_none {l : List UInt8} (h : readV l = none) : refreadOut l = (noV, false) := by rw [refreadOut, h]
theorem refreadOut_some {l : List UInt8} {v : V} (h : readV l = some v) : refreadOut l = (v, true) := by rw [refreadOut, h]
/-- The number of the bytes 1 .. m - 1. -/
def ug (l : List UInt8) (m : Nat) : Nat := bev ((l.take m).drop 1)
theorem ug_one (l : List UInt8) : ug l 1 = 0 := by
  unfold ug
  rw [List.drop_eq_nil_of_le (by rw [List.length_take]; omega)]
  rfl
theorem ug_step (l : List UInt8) (m : Nat) (h : m < l.length) (h1 : 1 ≤ m) : ug l (m + 1) = ug l m * 256 + l[m].toNat := by
  unfold ug
  rw [List.take_succ_eq_append_getElem h, List.drop_append_of_le_length (by rw [List.length_take]; omega), bev_snoc]
theorem ug_lt (l : List UInt8) (m : Nat) (h : m ≤ 8) : ug l m < 72057594037927936 := by
  have hb := bev_lt ((l.take m).drop 1)
  have hp : (256 : Nat) ^ ((l.take m).drop 1).length ≤ 256 ^ 7 := Nat.pow_le_pow_right (by omega) (by rw [List.length_drop, List.length_take]; omega)
  unfold ug
  exact Nat.lt_of_lt_of_le hb hp
theorem readV_no {l : List UInt8} (h : ¬ (cand l).code = l) : readV l = none := by
  unfold readV
  rw [if_neg (fun hc => h hc.2.2)]

set_option maxHeartbeats 2000000 in
theorem refread_calls (s : ByteArray) (w : World) (hs : s.size ≤ 9223372036854775000) : Calls Try.prog 178 #[.string s] w fun e w' => e = .returned (.tuple #[(refreadOut s.data.toList).1.val, .bool (refreadOut s.data.toList).2]) ∧ Below w.heap.size w w' := by
  have hl : s.data.toList.length = s.size := rfl
  have hR : Row (w.alloc (.cells noV.cells.toArray 81)) w.heap.size 81 noV.cells := new_at rfl
  have hb : Below w.heap.size w (w.alloc (.cells noV.cells.toArray 81)) := (Below.refl _ _).alloc (Nat.le_refl _) _
  have fin : ∀ (w' : World) (a : Act), readV s.data.toList = none → Row w' w.heap.size 81 noV.cells → Below w.heap.size w w' → a.tmps.getD 2 undef = .pointer (some ⟨w.heap.size, 0, none⟩) → a.tmps.getD 3 undef = .bool false → a.defers = [] →
      bodyPost Try.prog Try.f178 (fun e w' => e = .returned (.tuple #[(refreadOut s.data.toList).1.val, .bool (refreadOut s.data.toList).2]) ∧ Below w.heap.size w w') .ret a w' := fun w' a hnn hr hbb h2 h3 hd =>
    ret_row2 hr Try.results178 Try.underlying81 rfl (by kernel_rfl) h2 hd ⟨by rw [refreadOut_none hnn, h3], hbb⟩
  have FIN := Lib.hid fin
  clear fin
  by_cases h9 : s.size = 9
  · have d9 : ((s.size : Int) != 9) = false := by simp; omega
    have i8 : 8 < s.size := by omega
    have i0 : 0 < s.size := by omega
    have i8' : (8 : Int) < (s.size : Int) := by omega
    obtain ⟨a, ha⟩ : ∃ a, (s[0]'i0).toNat = a := ⟨_, rfl⟩
    obtain ⟨c, hc⟩ : ∃ c, (s[8]'i8).toNat = c := ⟨_, rfl⟩
    have ha2 : a < 256 := by rw [← ha]; exact (s[0]'i0).toNat_lt
    have hc2 : c < 256 := by rw [← hc]; exact (s[8]'i8).toNat_lt
    have hga : (s.data.toList.getD 0 0).toNat = a := by rw [← ha, List.getD_eq_getElem?_getD, List.getElem?_eq_getElem (by rw [hl]; exact i0)]; rfl
    have hgc : (s.data.toList.getD 8 0).toNat = c := by rw [← hc, List.getD_eq_getElem?_getD, List.getElem?_eq_getElem (by rw [hl]; exact i8)]; rfl
    have HGA := Lib.hid hga
    have HGC := Lib.hid hgc
    have HL := Lib.hid hl
    have hfit := Lib.hid (cand_fits (show s.data.toList.length = 9 by rw [hl, h9]))
    clear hga hgc hl
    by_cases a1 : a = 1
    · subst a1
      obtain ⟨l, hl1⟩ : ∃ l, l = s.data.toList.drop 1 := ⟨_, rfl⟩
      have hcand : cand s.data.toList = (⟨1, (bev l : Int) - 9223372036854775808, ⟨#[]⟩⟩ : V) := by unfold cand; rw [if_pos HGA.out, hl1]
      have hX : Row ((w.alloc (.cells #[.int .i64 0, .int .i64 0, .string ⟨#[]⟩] 81)).alloc (.cells #[.int .i64 1, .int .i64 0, .string ⟨#[]⟩] 81)) (w.heap.size + 1) 81 [.int .i64 1, .int .i64 0, .string ⟨#[]⟩] := new_at (w := w.alloc (.cells noV.cells.toArray 81)) (by simp)
      have hR2 : Row ((w.alloc (.cells #[.int .i64 0, .int .i64 0, .string ⟨#[]⟩] 81)).alloc (.cells #[.int .i64 1, .int .i64 0, .string ⟨#[]⟩] 81)) w.heap.size 81 noV.cells := hR.alloc _
      have hb2 : Below w.heap.size w ((w.alloc (.cells #[.int .i64 0, .int .i64 0, .string ⟨#[]⟩] 81)).alloc (.cells #[.int .i64 1, .int .i64 0, .string ⟨#[]⟩] 81)) := hb.alloc hb.size _
      have hul : ug s.data.toList 9 = bev l := by unfold ug; rw [List.take_of_length_le (by rw [HL.out, h9]; omega), hl1]
      have hl8 : l.length = 8 := by rw [hl1, List.length_drop, HL.out, h9]
      have HR0 := Lib.hid hR
      have HB0 := Lib.hid hb
      have xx0 := hX.cell (i := 0) rfl
      have xx1 := hX.cell (i := 1) rfl
      have ff1 := hX.frozen 1 (by simp)
      have X3 := Lib.hid hX
      have R3 := Lib.hid hR2
      have B3 := Lib.hid hb2
      have CAND := Lib.hid hcand
      have UL := Lib.hid hul
      have HL8 := Lib.hid hl8
      clear hX hR2 hb2 hcand hR hb hul hl8 hl1
      go_enter Try.func178, Try.ntmps178
      go_wp2_with fail
      go_loop [5, 6] (fun u i => ∃ m : Nat, 1 ≤ m ∧ m ≤ 9 ∧ i = .int .i64 m ∧ u = .int .u64 (ug s.data.toList m : Int)) (fun u i => 9 - (intOf i).toNat)
      case atStart => exact ⟨1, by omega, by omega, rfl, by rw [ug_one]; rfl⟩
      case round =>
        obtain ⟨m, hm1, hm, rfl, rfl⟩ := hrel
        by_cases hlt : m < 9
        · have hms : m < s.size := by omega
          have hms' : (m : Int) < (s.size : Int) := by omega
          have hst := ug_step s.data.toList m hms hm1
          have hug := ug_lt s.data.toList m (by omega)
          have hbt := (s.data.toList[m]'hms).toNat_lt
          have ST := Lib.hid hst
          clear hst
          go_wp2_with fail
          have e8 : ((s[m]'hms).toNat : Int) = (s.data.toList[m].toNat : Int) := rfl
          exact ⟨⟨m + 1, by omega, by omega, by go_num, by rw [ST.out, wrap_u64, wrap_u64, e8]; congr 1; omega⟩, by simp [intOf]; omega⟩
        · obtain rfl : m = 9 := by omega
          rw [UL.out]
          have hbl := bev_lt l
          rw [HL8.out] at hbl
          have hdx := down_xor (show bev l < 18446744073709551616 by omega)
          have hff : V.fits (⟨1, (bev l : Int) - 9223372036854775808, ⟨#[]⟩⟩ : V) := by have := hfit.out; rwa [CAND.out] at this
          have hgood : V.good (⟨1, (bev l : Int) - 9223372036854775808, ⟨#[]⟩⟩ : V) = true := by simp [V.good]; rfl
          have X4 : Row ((w.alloc (.cells #[.int .i64 0, .int .i64 0, .string ⟨#[]⟩] 81)).alloc (.cells #[.int .i64 1, .int .i64 ((bev l : Int) - 9223372036854775808), .string ⟨#[]⟩] 81)) (w.heap.size + 1) 81 (V.cells (⟨1, (bev l : Int) - 9223372036854775808, ⟨#[]⟩⟩ : V)) := new_at (w := w.alloc (.cells noV.cells.toArray 81)) (by simp)
          have R4 : Row ((w.alloc (.cells #[.int .i64 0, .int .i64 0, .string ⟨#[]⟩] 81)).alloc (.cells #[.int .i64 1, .int .i64 ((bev l : Int) - 9223372036854775808), .string ⟨#[]⟩] 81)) w.heap.size 81 noV.cells := HR0.out.alloc _
          have B4 : Below w.heap.size w ((w.alloc (.cells #[.int .i64 0, .int .i64 0, .string ⟨#[]⟩] 81)).alloc (.cells #[.int .i64 1, .int .i64 ((bev l : Int) - 9223372036854775808), .string ⟨#[]⟩] 81)) := HB0.out.alloc HB0.out.size _
          have hcc := refcode_calls (⟨1, (bev l : Int) - 9223372036854775808, ⟨#[]⟩⟩ : V) hgood hff
          have e0 := X4.cell (i := 0) rfl
          have e1 := X4.cell (i := 1) rfl
          have e2 := X4.cell (i := 2) rfl
          have XX4 := Lib.hid X4
          have RR4 := Lib.hid R4
          have BB4 := Lib.hid B4
          have HCC := Lib.hid (hcc ((w.alloc (.cells #[.int .i64 0, .int .i64 0, .string ⟨#[]⟩] 81)).alloc (.cells #[.int .i64 1, .int .i64 ((bev l : Int) - 9223372036854775808), .string ⟨#[]⟩] 81)))
          clear X4 R4 B4 hcc hbl
          go_wp2_with (refine load_row XX4.out 81 Try.underlying81 rfl (by kernel_rfl) rfl rfl rfl ?_)
          clear e0 e1 e2 xx0 xx1 ff1 hdx
          refine (HCC.out).mono ?_
          rintro e w5 ⟨rfl, hb5⟩
          have X5 := Lib.hid (XX4.out.below hb5 XX4.out.lt)
          have R5 := Lib.hid (RR4.out.below hb5 RR4.out.lt)
          have B5 := Lib.hid (BB4.out.trans (hb5.mono BB4.out.size))
          clear hb5
          by_cases hq : V.code (⟨1, (bev l : Int) - 9223372036854775808, ⟨#[]⟩⟩ : V) = s.data.toList
          · have hss : readV s.data.toList = some (⟨1, (bev l : Int) - 9223372036854775808, ⟨#[]⟩⟩ : V) := (readV_iff _ _).2 ⟨hgood, hff, hq⟩
            have hq1 : ((bs (V.code (⟨1, (bev l : Int) - 9223372036854775808, ⟨#[]⟩⟩ : V))).toList == s.toList) = true := by rw [beq_iff_eq, hq]; rfl
            have SS := Lib.hid hss
            clear hss hq
            go_wp2_with (first
              | (refine store_row R5.out (V.cells (⟨1, (bev l : Int) - 9223372036854775808, ⟨#[]⟩⟩ : V)) 81 (by kernel_rfl) rfl (cells_one _) rfl rfl rfl rfl ?_; intro wz hRz hcz hsz)
              | (refine load_row X5.out 81 Try.underlying81 rfl (by kernel_rfl) rfl rfl rfl ?_))
            exact ret_row2 hRz Try.results178 Try.underlying81 rfl (by kernel_rfl) rfl rfl ⟨by rw [refreadOut_some SS.out]; rfl, below_one' B5.out hcz B5.out.size (Nat.le_refl _)⟩
          · have hnn : readV s.data.toList = none := readV_no (by rw [CAND.out]; exact hq)
            have hq1 : ((bs (V.code (⟨1, (bev l : Int) - 9223372036854775808, ⟨#[]⟩⟩ : V))).toList == s.toList) = false := by
              rw [beq_eq_false_iff_ne]
              intro h
              exact hq (congrArg (fun s => s.data.toList) (Bytes.toList_inj.1 h))
            have NN := Lib.hid hnn
            clear hnn hq
            go_wp2_with (refine store_row R5.out noV.cells 81 (by kernel_rfl) rfl (cells_one _) rfl rfl rfl rfl ?_; intro wz hRz hcz hsz)
            exact FIN.out _ _ NN.out hRz (below_one' B5.out hcz B5.out.size (Nat.le_refl _)) rfl rfl rfl
    · by_cases a2 : a = 2
      · subst a2
        by_cases c7 : c ≤ 7
        · obtain ⟨m, hm⟩ : ∃ m, m = (s.data.toList.drop 1).take c := ⟨_, rfl⟩
          have hcand : cand s.data.toList = ⟨2, 0, bs m⟩ := by unfold cand; rw [if_neg (by rw [HGA.out]; omega), HGA.out, HGC.out, if_pos ⟨rfl, c7⟩, hm]
          have hsl : ∀ wx : World, (Instr.slice 9 (.string s) (some (.int .i64 1)) (some (.int .i64 (1 + (c : Int)))) none).run Try.prog wx = .ok (.string (bs m)) wx := fun wx => by
            have h := run_slice_string (P := Try.prog) wx 9 s .i64 .i64 1 (1 + (c : Int)) Try.underlying9 (by omega) (by omega) (by omega)
            rw [h, show (1 + (c : Int)).toNat = 1 + c by omega]
            have e : s.extract 1 (1 + c) = bs m := by
              rw [hm, ← bs_of (s.extract 1 (1 + c))]
              congr 1
              simp [ByteArray.data_extract, List.drop_take]
            exact congrArg (fun x => Result.ok (Value.string x) wx) e
          have X4 : Row ((w.alloc (.cells #[.int .i64 0, .int .i64 0, .string ⟨#[]⟩] 81)).alloc (.cells #[.int .i64 2, .int .i64 0, .string (bs m)] 81)) (w.heap.size + 1) 81 (V.cells (⟨2, 0, bs m⟩ : V)) := new_at (w := w.alloc (.cells noV.cells.toArray 81)) (by simp)
          have R4 : Row ((w.alloc (.cells #[.int .i64 0, .int .i64 0, .string ⟨#[]⟩] 81)).alloc (.cells #[.int .i64 2, .int .i64 0, .string (bs m)] 81)) w.heap.size 81 noV.cells := hR.alloc _
          have B4 : Below w.heap.size w ((w.alloc (.cells #[.int .i64 0, .int .i64 0, .string ⟨#[]⟩] 81)).alloc (.cells #[.int .i64 2, .int .i64 0, .string (bs m)] 81)) := hb.alloc hb.size _
          have hff : V.fits (⟨2, 0, bs m⟩ : V) := by have := hfit.out; rwa [hcand] at this
          have hml : (bs m).size ≤ 7 := by rw [bs_size, hm, List.length_take]; omega
          have hgood : V.good (⟨2, 0, bs m⟩ : V) = true := by simp [V.good]; exact hml
          have hcc := refcode_calls (⟨2, 0, bs m⟩ : V) hgood hff
          have CAND := Lib.hid hcand
          have XX4 := Lib.hid X4
          have RR4 := Lib.hid R4
          have BB4 := Lib.hid B4
          have HCC := Lib.hid (hcc ((w.alloc (.cells #[.int .i64 0, .int .i64 0, .string ⟨#[]⟩] 81)).alloc (.cells #[.int .i64 2, .int .i64 0, .string (bs m)] 81)))
          have c7' : ¬ (c : Int) > 7 := by omega
          clear X4 R4 B4 hcc hm hcand hR hb hml
          go_enter Try.func178, Try.ntmps178
          go_wp2_with fail
          refine (HCC.out).mono ?_
          rintro e w5 ⟨rfl, hb5⟩
          have X5 := Lib.hid (XX4.out.below hb5 XX4.out.lt)
          have R5 := Lib.hid (RR4.out.below hb5 RR4.out.lt)
          have B5 := Lib.hid (BB4.out.trans (hb5.mono BB4.out.size))
          clear hb5
          by_cases hq : V.code (⟨2, 0, bs m⟩ : V) = s.data.toList
          · have hss : readV s.data.toList = some (⟨2, 0, bs m⟩ : V) := (readV_iff _ _).2 ⟨hgood, hff, hq⟩
            have hq1 : ((bs (V.code (⟨2, 0, bs m⟩ : V))).toList == s.toList) = true := by rw [beq_iff_eq, hq]; rfl
            have SS := Lib.hid hss
            clear hss hq
            go_wp2_with (first
              | (refine store_row R5.out (V.cells (⟨2, 0, bs m⟩ : V)) 81 (by kernel_rfl) rfl (cells_one _) rfl rfl rfl rfl ?_; intro wz hRz hcz hsz)
              | (refine load_row X5.out 81 Try.underlying81 rfl (by kernel_rfl) rfl rfl rfl ?_))
            exact ret_row2 hRz Try.results178 Try.underlying81 rfl (by kernel_rfl) rfl rfl ⟨by rw [refreadOut_some SS.out]; rfl, below_one' B5.out hcz B5.out.size (Nat.le_refl _)⟩
          · have hnn : readV s.data.toList = none := readV_no (by rw [CAND.out]; exact hq)
            have hq1 : ((bs (V.code (⟨2, 0, bs m⟩ : V))).toList == s.toList) = false := by
              rw [beq_eq_false_iff_ne]
              intro h
              exact hq (congrArg (fun s => s.data.toList) (Bytes.toList_inj.1 h))
            have NN := Lib.hid hnn
            clear hnn hq
            go_wp2_with (refine store_row R5.out noV.cells 81 (by kernel_rfl) rfl (cells_one _) rfl rfl rfl rfl ?_; intro wz hRz hcz hsz)
            exact FIN.out _ _ NN.out hRz (below_one' B5.out hcz B5.out.size (Nat.le_refl _)) rfl rfl rfl
        · have hnn : readV s.data.toList = none := by
            unfold readV
            have hcand : cand s.data.toList = ⟨2, 0, ⟨#[]⟩⟩ := by unfold cand; rw [if_neg (by rw [HGA.out]; exact a1), HGA.out, HGC.out, if_neg (fun h => c7 h.2)]; rfl
            rw [hcand, if_neg]
            rintro ⟨_, _, h3⟩
            have e8 : (s.data.toList.getD 8 0).toNat = 0 := by rw [← h3]; rfl
            rw [HGC.out] at e8
            omega
          have hR2 := hR.alloc (.cells #[.int .i64 2, .int .i64 0, .string ⟨#[]⟩] 81)
          have hb2 := hb.alloc hb.size (.cells #[.int .i64 2, .int .i64 0, .string ⟨#[]⟩] 81)
          have c7' : (7 : Int) < c := by omega
          have R5 := Lib.hid hR2
          have B5 := Lib.hid hb2
          have NN := Lib.hid hnn
          clear hR hb hR2 hb2 hnn
          go_enter Try.func178, Try.ntmps178
          go_wp2_with (refine store_row R5.out noV.cells 81 (by kernel_rfl) rfl (cells_one _) rfl rfl rfl rfl ?_; intro wz hRz hcz hsz)
          exact FIN.out _ _ NN.out hRz (below_one' B5.out hcz B5.out.size (Nat.le_refl _)) rfl rfl rfl
      · have hnn : readV s.data.toList = none := by
          unfold readV
          have hcand : cand s.data.toList = ⟨(a : Int), 0, ⟨#[]⟩⟩ := by unfold cand; rw [if_neg (by rw [HGA.out]; exact a1), HGA.out, HGC.out, if_neg (fun h => a2 h.1)]
          have hbad : V.good (⟨(a : Int), 0, ⟨#[]⟩⟩ : V) = false := by
            simp [V.good]
            omega
          rw [hcand, hbad, if_neg (by simp)]
        have hR2 := hR.alloc (.cells #[.int .i64 (a : Int), .int .i64 0, .string ⟨#[]⟩] 81)
        have hb2 := hb.alloc hb.size (.cells #[.int .i64 (a : Int), .int .i64 0, .string ⟨#[]⟩] 81)
        have a1' : ((a : Int) == 1) = false := by simp; omega
        have a2' : ((a : Int) == 2) = false := by simp; omega
        have R5 := Lib.hid hR2
        have B5 := Lib.hid hb2
        have NN := Lib.hid hnn
        clear hR hb hR2 hb2 hnn
        go_enter Try.func178, Try.ntmps178
        go_wp2_with (refine store_row R5.out noV.cells 81 (by kernel_rfl) rfl (cells_one _) rfl rfl rfl rfl ?_; intro wz hRz hcz hsz)
        exact FIN.out _ _ NN.out hRz (below_one' B5.out hcz B5.out.size (Nat.le_refl _)) rfl rfl rfl
  · have hn : readV s.data.toList = none := by unfold readV; rw [if_neg (by rw [hl]; simp [h9])]
    rw [refreadOut_none hn]
    have d9 : ((s.size : Int) != 9) = true := by simp; omega
    clear hn h9
    go_enter Try.func178, Try.ntmps178
    go_wp2_with (refine store_row hR noV.cells 81 (by kernel_rfl) rfl (cells_one _) rfl rfl rfl rfl ?_; intro wz hRz hcz hsz)
    exact ret_row2 hRz Try.results178 Try.underlying81 rfl (by kernel_rfl) rfl rfl ⟨rfl, below_one' hb hcz hb.size (Nat.le_refl _)⟩
end Go.Proofs.Ytcfjooeagfollaa.Sign
