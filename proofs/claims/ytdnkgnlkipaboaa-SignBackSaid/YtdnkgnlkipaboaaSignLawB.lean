/- The law SignBack. -/
import Derived.Test.YtdnkgnlkipaboaaSignLawR
namespace Go.Proofs.Ytdnkgnlkipaboaa.Sign
open Go.RowKit Go.Proofs.Ytdnkgnlkipaboaa.Mem Go.Proofs.Ytdnkgnlkipaboaa.Bytes Go.Proofs.Ytdnkgnlkipaboaa.Num
set_option linter.unusedSimpArgs false
set_option linter.unusedVariables false

set_option maxHeartbeats 2000000 in
theorem back_calls (l : List V) (a : Option Addr) (cap : Nat) (s : ByteArray) (w : World) (hV : Vs w a l) (hf : ∀ v ∈ l, v.fits) (hl : l.length ≤ 9223372036854775807) (hs : s.size ≤ 140737488351232) :
    Calls Try.prog 4 #[.slice a l.length cap, .string s] w fun e w' => e = .returned (.bool true) ∧ Below w.heap.size w w' := by
  have AW := Lib.hid awake_calls
  by_cases hbig : (l.length : Int) > 4
  · go_enter Try.func4, Try.ntmps4
    go_wp2_with fail
    refine (AW.out _).mono ?_
    rintro e w1 ⟨rfl, h1⟩
    go_wp2_with fail
    go_ret
    exact ⟨rfl, h1⟩
  · by_cases hbig2 : (s.size : Int) > 36
    · go_enter Try.func4, Try.ntmps4
      go_wp2_with fail
      refine (AW.out _).mono ?_
      rintro e w1 ⟨rfl, h1⟩
      go_wp2_with fail
      go_ret
      exact ⟨rfl, h1⟩
    · go_enter Try.func4, Try.ntmps4
      go_wp2_with fail
      refine (AW.out _).mono ?_
      rintro e w1 ⟨rfl, h1⟩
      go_wp2_with fail
      go_loopw [5] (fun i wr => ∃ k : Nat, k ≤ l.length ∧ i = .int .i64 k ∧ (∀ v ∈ l.take k, v.good = true) ∧ Below w.heap.size w wr) (fun i _ => l.length - (intOf i).toNat)
      case atStart => exact ⟨0, by omega, rfl, by simp, h1⟩
      case round =>
        clear h1
        obtain ⟨k, hk, rfl, hg, hb⟩ := hrel
        have HB := Lib.hid hb
        clear hb
        by_cases hlt : k < l.length
        · obtain ⟨ad, rfl, hlb, hx⟩ := hV k hlt
          have hlt' : (k : Int) < (l.length : Int) := by omega
          have hfv := hf _ (List.getElem_mem hlt)
          have htg := take_good hlt hg
          generalize l[k] = v at *
          have HX := Lib.hid hx
          have TG := Lib.hid htg
          have G := Lib.hid (good_calls v)
          have CO := Lib.hid (fun w => code_calls v w hfv)
          clear hx htg hg hV hf
          obtain ⟨x0, x1, x2⟩ := HX.out _ HB.out
          by_cases hgv : v.good = true
          · have hr : readV v.code = some v := (readV_iff _ _).2 ⟨hgv, hfv, rfl⟩
            have RD := Lib.hid (fun w => read_calls (bs v.code) w (by rw [bs_size, V.code_length hgv]; omega))
            have TG2 := Lib.hid (TG.out hgv)
            have hco : codeOut v = (v.code, 0) := by unfold codeOut; rw [if_pos hgv]
            rw [hgv] at G
            rw [hco] at CO
            rw [bs_data, readOut_some hr] at RD
            obtain ⟨B, hB⟩ : ∃ B, bs v.code = B := ⟨_, rfl⟩
            rw [hB] at RD
            obtain ⟨k0, n0, s0⟩ := v
            replace CO : RowKit.Hid (∀ w, Calls Try.prog 14 #[.agg #[.int .i64 k0, .int .i64 n0, .string s0]] w fun e w' => e = .returned (.tuple #[.string B, .int .i64 0]) ∧ Below w.heap.size w w') := by subst hB; exact CO
            replace RD : RowKit.Hid (∀ w, Calls Try.prog 15 #[.string B] w fun e w' => e = .returned (.tuple #[.agg #[.int .i64 k0, .int .i64 n0, .string s0], .int .i64 0]) ∧ Below w.heap.size w w') := RD
            clear TG hB hco hr
            try simp only at x0 x1 x2
            go_wp2_with fail
            clear x0 x1 x2
            refine (G.out _).mono ?_
            rintro e w1 ⟨rfl, h1⟩
            replace HB := Lib.hid (HB.out.trans (h1.mono HB.out.size))
            clear h1
            obtain ⟨x0, x1, x2⟩ := HX.out _ HB.out
            try simp only at x0 x1 x2
            go_wp2_with fail
            clear x0 x1 x2
            refine (CO.out _).mono ?_
            rintro e w2 ⟨rfl, h1⟩
            replace HB := Lib.hid (HB.out.trans (h1.mono HB.out.size))
            clear h1
            go_wp2_with fail
            refine (RD.out _).mono ?_
            rintro e w3 ⟨rfl, h1⟩
            replace HB := Lib.hid (HB.out.trans (h1.mono HB.out.size))
            clear h1
            have hY : Row (w3.alloc (.cells #[.int .i64 k0, .int .i64 n0, .string s0] 25)) w3.heap.size 25 [.int .i64 k0, .int .i64 n0, .string s0] := new_at rfl
            replace HB := Lib.hid (HB.out.alloc HB.out.size (.cells #[.int .i64 k0, .int .i64 n0, .string s0] 25))
            obtain ⟨x0, x1, x2⟩ := HX.out _ HB.out
            have y0 := hY.cell (i := 0) rfl
            have y1 := hY.cell (i := 1) rfl
            have y2 := hY.cell (i := 2) rfl
            try simp only at x0 x1 x2 y0 y1 y2
            go_wp2_with fail
            go_quiet (fail)
            go_wp2_with fail
            exact ⟨⟨k + 1, by omega, by go_num, TG2.out, by first | exact HB.out.drew | exact below_drewN HB.out _⟩, by simp [intOf]; omega⟩
          · rw [Bool.not_eq_true] at hgv
            rw [hgv] at G
            obtain ⟨k0, n0, s0⟩ := v
            try simp only at x0 x1 x2
            go_wp2_with fail
            refine (G.out _).mono ?_
            rintro e w1 ⟨rfl, h1⟩
            replace HB := Lib.hid (HB.out.trans (h1.mono HB.out.size))
            clear h1
            go_wp2_with fail
            go_ret
            exact ⟨rfl, HB.out⟩
        · obtain rfl : k = l.length := by omega
          rw [List.take_length] at hg
          have hgf : ∀ v ∈ l, v.good = true ∧ v.fits := fun v hv => ⟨hg v hv, hf v hv⟩
          have hrw := rowV_all (by omega) hg
          have hrd := readRow_codes hgf (by omega)
          have hcl := codes_length hg
          have R1 := Lib.hid (fun (w1 : World) (hb : Below w.heap.size w w1) => row_calls l a cap w1 (hV.keep hb) hf hl)
          rw [rowOut_some hrw] at R1
          obtain ⟨B, hB⟩ : ∃ B, bs (codes l) = B := ⟨_, rfl⟩
          have hBs : B.size = 9 * l.length := by rw [← hB, bs_size, hcl]
          have hBd : B.data.toList = codes l := by rw [← hB]; rfl
          have Q1 := Lib.hid (fun (w1 : World) => readrow_calls B w1 (by omega))
          rw [hBd, hrd] at Q1
          replace R1 : RowKit.Hid (∀ (w1 : World), Below w.heap.size w w1 → Calls Try.prog 8 #[.slice a l.length cap] w1 fun e w' => e = .returned (.tuple #[.string B, .int .i64 0]) ∧ Below w1.heap.size w1 w') := by subst hB; exact R1
          have VL := Lib.hid hV
          have Q2 := Lib.hid (fun (w1 : World) => readrow_calls s w1 (by omega))
          have LV := @readRow_is s.data.toList
          have hmul : ((B.size : Int) != 9 * (l.length : Int)) = false := by simp; omega
          have hw9 : wrap64 (9 * (l.length : Int)) = 9 * (l.length : Int) := by unfold wrap64; omega
          have HBS := Lib.hid hBs
          clear hB hBd hrd hrw hcl hgf hg hf hV hBs
          go_wp2_with fail
          refine (R1.out _ HB.out).mono ?_
          rintro e w1 ⟨rfl, h1⟩
          replace HB := Lib.hid (HB.out.trans (h1.mono HB.out.size))
          clear h1 R1
          go_wp2_with fail
          refine (Q1.out _).mono ?_
          rintro e w2 ⟨a1, c1, rfl, V1, h1⟩
          replace HB := Lib.hid (HB.out.trans (h1.mono HB.out.size))
          have VV := Lib.hid V1
          clear h1 V1 Q1
          go_wp2_with fail
          refine (same_calls l a a1 cap c1 _ (VL.out.keep HB.out) VV.out hl).mono ?_
          rintro e w3 ⟨rfl, h1⟩
          replace HB := Lib.hid (HB.out.trans (h1.mono HB.out.size))
          clear h1 VV VL
          cases hq : readRow s.data.toList with
          | none =>
            rw [hq] at Q2
            clear LV hq
            go_wp2_with fail
            refine (Q2.out _).mono ?_
            rintro e w4 ⟨rfl, h1⟩
            replace HB := Lib.hid (HB.out.trans (h1.mono HB.out.size))
            clear h1 Q2
            go_wp2_with fail
            go_ret
            exact ⟨rfl, HB.out⟩
          | some vs =>
            rw [hq] at Q2
            obtain ⟨l4, lg, lc⟩ := LV hq
            have hsb : bs (codes vs) = s := by rw [lc, bs_of]
            have hrv := rowV_all l4 (fun v hv => (lg v hv).1)
            have R3 := Lib.hid (fun (a2 : Option Addr) (c2 : Nat) (w1 : World) (hv : Vs w1 a2 vs) => row_calls vs a2 c2 w1 hv (fun v hv => (lg v hv).2) (by omega))
            rw [rowOut_some hrv] at R3
            replace R3 : RowKit.Hid (∀ (a2 : Option Addr) (c2 : Nat) (w1 : World), Vs w1 a2 vs → Calls Try.prog 8 #[.slice a2 vs.length c2] w1 fun e w' => e = .returned (.tuple #[.string s, .int .i64 0]) ∧ Below w1.heap.size w1 w') := by
              have hsb2 := hsb
              rw [← hsb]
              exact R3
            clear LV hq lg lc hsb hrv
            go_wp2_with fail
            refine (Q2.out _).mono ?_
            rintro e w4 ⟨a2, c2, rfl, V2, h1⟩
            replace HB := Lib.hid (HB.out.trans (h1.mono HB.out.size))
            have VV := Lib.hid V2
            clear h1 V2 Q2
            go_wp2_with fail
            refine (R3.out a2 c2 _ VV.out).mono ?_
            rintro e w5 ⟨rfl, h1⟩
            replace HB := Lib.hid (HB.out.trans (h1.mono HB.out.size))
            clear h1 R3
            go_wp2_with fail
            go_ret
            exact ⟨by simp, HB.out⟩
theorem back_row (a : Option Addr) (n cap : Nat) (xs : List (Int × Int × ByteArray × Unit)) (s : ByteArray) (W : World) (h : SlcIn valC W a n cap xs) (hs : s.size ≤ 140737488351232) :
    Calls Try.prog 4 #[.slice a n cap, .string s] W fun e w' => e = .returned (.bool true) ∧ Below W.heap.size W w' := by
  obtain ⟨l, rfl, h1, h2, h3⟩ := vs_of h
  exact back_calls l a cap s W h2 (fun v hv => (h3 v hv).1) h1 hs
end Go.Proofs.Ytdnkgnlkipaboaa.Sign
