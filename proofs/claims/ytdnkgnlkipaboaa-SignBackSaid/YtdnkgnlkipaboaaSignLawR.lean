/- The law SignRows. -/
import Derived.Test.YtdnkgnlkipaboaaSignRow
import Derived.Test.YtdnkgnlkipaboaaSignRS
import Derived.Test.YtdnkgnlkipaboaaSignLawO
namespace Go.Proofs.Ytdnkgnlkipaboaa.Sign
open Go.RowKit Go.Proofs.Ytdnkgnlkipaboaa.Mem Go.Proofs.Ytdnkgnlkipaboaa.Bytes Go.Proofs.Ytdnkgnlkipaboaa.Num
set_option linter.unusedSimpArgs false
set_option linter.unusedVariables false

set_option maxHeartbeats 2000000 in
theorem rows_calls (l : List V) (a : Option Addr) (cap : Nat) (s : ByteArray) (w : World) (hV : Vs w a l) (hf : ∀ v ∈ l, v.fits) (hl : l.length ≤ 9223372036854775807) (hs : s.size ≤ 140737488351232) :
    Calls Try.prog 3 #[.slice a l.length cap, .string s] w fun e w' => e = .returned (.bool true) ∧ Below w.heap.size w w' := by
  have AW := Lib.hid awake_calls
  by_cases hbig : (l.length : Int) > 10
  · go_enter Try.func3, Try.ntmps3
    go_wp2_with fail
    refine (AW.out _).mono ?_
    rintro e w1 ⟨rfl, h1⟩
    go_wp2_with fail
    go_ret
    exact ⟨rfl, h1⟩
  · by_cases hbig2 : (s.size : Int) > 100
    · go_enter Try.func3, Try.ntmps3
      go_wp2_with fail
      refine (AW.out _).mono ?_
      rintro e w1 ⟨rfl, h1⟩
      go_wp2_with fail
      go_ret
      exact ⟨rfl, h1⟩
    · have R1 := Lib.hid (fun (w1 : World) (hb : Below w.heap.size w w1) => row_calls l a cap w1 (hV.keep hb) hf hl)
      have R2 := Lib.hid (fun (w1 : World) (hb : Below w.heap.size w w1) => refrow_calls l a cap w1 (hV.keep hb) hf hl)
      have Q1 := Lib.hid (fun (w1 : World) => readrow_calls s w1 (by omega))
      have Q2 := Lib.hid (fun (w1 : World) => refreadrow_calls s w1 (by omega))
      have SM := Lib.hid (@same_calls)
      have LV : ∀ vs, readRow s.data.toList = some vs → vs.length ≤ 9223372036854775807 := fun vs h => by have := (readRow_is h).1; omega
      go_enter Try.func3, Try.ntmps3
      go_wp2_with fail
      refine (AW.out _).mono ?_
      rintro e w1 ⟨rfl, h1⟩
      go_wp2_with fail
      go_loopw [5] (fun i wr => ∃ k : Nat, k ≤ l.length ∧ i = .int .i64 k ∧ Below w.heap.size w wr) (fun i _ => l.length - (intOf i).toNat)
      case atStart => exact ⟨0, by omega, rfl, h1⟩
      case round =>
        clear h1
        obtain ⟨k, hk, rfl, hb⟩ := hrel
        have HB := Lib.hid hb
        clear hb
        by_cases hlt : k < l.length
        · obtain ⟨ad, rfl, hlb, hx⟩ := hV k hlt
          have hlt' : (k : Int) < (l.length : Int) := by omega
          obtain ⟨x0, x1, x2⟩ := hx _ HB.out
          generalize l[k] = v at *
          obtain ⟨k0, n0, s0⟩ := v
          clear hx R1 R2 Q1 Q2 SM hV
          try simp only at x0 x1 x2
          by_cases hsz : (s0.size : Int) > 100
          · go_wp2_with fail
            go_ret
            exact ⟨rfl, HB.out⟩
          · go_wp2_with fail
            exact ⟨⟨k + 1, by omega, by go_num, HB.out⟩, by simp [intOf]; omega⟩
        · obtain rfl : k = l.length := by omega
          clear hV
          cases hr : rowV l <;> cases hq : readRow s.data.toList
          · rw [rowOut_none hr] at R1
            rw [hr] at R2
            replace R1 : RowKit.Hid (∀ (w1 : World), Below w.heap.size w w1 → Calls Try.prog 8 #[.slice a l.length cap] w1 fun e w' => e = .returned (.tuple #[.string ⟨#[]⟩, .int .i64 1]) ∧ Below w1.heap.size w1 w') := R1
            replace R2 : RowKit.Hid (∀ (w1 : World), Below w.heap.size w w1 → Calls Try.prog 9 #[.slice a l.length cap] w1 fun e w' => e = .returned (.tuple #[.string ⟨#[]⟩, .bool false]) ∧ Below w1.heap.size w1 w') := R2
            rw [hq] at Q1 Q2
            clear hr hq LV
            go_wp2_with fail
            refine (R1.out _ HB.out).mono ?_
            rintro e w1 ⟨rfl, h1⟩
            replace HB := Lib.hid (HB.out.trans (h1.mono HB.out.size))
            clear h1 R1
            go_wp2_with fail
            refine (R2.out _ HB.out).mono ?_
            rintro e w2 ⟨rfl, h1⟩
            replace HB := Lib.hid (HB.out.trans (h1.mono HB.out.size))
            clear h1 R2
            go_wp2_with fail
            refine (Q1.out _).mono ?_
            rintro e w3 ⟨rfl, h1⟩
            replace HB := Lib.hid (HB.out.trans (h1.mono HB.out.size))
            clear h1 Q1
            go_wp2_with fail
            refine (Q2.out _).mono ?_
            rintro e w4 ⟨rfl, h1⟩
            replace HB := Lib.hid (HB.out.trans (h1.mono HB.out.size))
            clear h1 Q2
            go_wp2_with fail
            go_ret
            exact ⟨rfl, HB.out⟩
          · rw [rowOut_none hr] at R1
            rw [hr] at R2
            rename_i vs
            replace R1 : RowKit.Hid (∀ (w1 : World), Below w.heap.size w w1 → Calls Try.prog 8 #[.slice a l.length cap] w1 fun e w' => e = .returned (.tuple #[.string ⟨#[]⟩, .int .i64 1]) ∧ Below w1.heap.size w1 w') := R1
            replace R2 : RowKit.Hid (∀ (w1 : World), Below w.heap.size w w1 → Calls Try.prog 9 #[.slice a l.length cap] w1 fun e w' => e = .returned (.tuple #[.string ⟨#[]⟩, .bool false]) ∧ Below w1.heap.size w1 w') := R2
            rw [hq] at Q1 Q2
            have LL := LV vs hq
            clear hr hq LV
            go_wp2_with fail
            refine (R1.out _ HB.out).mono ?_
            rintro e w1 ⟨rfl, h1⟩
            replace HB := Lib.hid (HB.out.trans (h1.mono HB.out.size))
            clear h1 R1
            go_wp2_with fail
            refine (R2.out _ HB.out).mono ?_
            rintro e w2 ⟨rfl, h1⟩
            replace HB := Lib.hid (HB.out.trans (h1.mono HB.out.size))
            clear h1 R2
            go_wp2_with fail
            refine (Q1.out _).mono ?_
            rintro e w3 ⟨a1, c1, rfl, V1, h1⟩
            replace HB := Lib.hid (HB.out.trans (h1.mono HB.out.size))
            clear h1 Q1
            have VV := Lib.hid V1
            clear V1
            go_wp2_with fail
            refine (Q2.out _).mono ?_
            rintro e w4 ⟨a2, c2, rfl, V2, h1⟩
            replace HB := Lib.hid (HB.out.trans (h1.mono HB.out.size))
            replace VV := Lib.hid (VV.out.keep h1)
            have UU := Lib.hid V2
            clear h1 Q2 V2
            go_wp2_with fail
            refine (SM.out vs a1 a2 c1 c2 _ VV.out UU.out LL).mono ?_
            rintro e w5 ⟨rfl, h1⟩
            replace HB := Lib.hid (HB.out.trans (h1.mono HB.out.size))
            clear h1 SM
            go_wp2_with fail
            go_ret
            exact ⟨rfl, HB.out⟩
          · rename_i x
            rw [rowOut_some hr] at R1
            rw [hr] at R2
            obtain ⟨B, hB⟩ : ∃ B, bs x = B := ⟨_, rfl⟩
            replace R1 : RowKit.Hid (∀ (w1 : World), Below w.heap.size w w1 → Calls Try.prog 8 #[.slice a l.length cap] w1 fun e w' => e = .returned (.tuple #[.string B, .int .i64 0]) ∧ Below w1.heap.size w1 w') := by subst hB; exact R1
            replace R2 : RowKit.Hid (∀ (w1 : World), Below w.heap.size w w1 → Calls Try.prog 9 #[.slice a l.length cap] w1 fun e w' => e = .returned (.tuple #[.string B, .bool true]) ∧ Below w1.heap.size w1 w') := by subst hB; exact R2
            clear hB
            rw [hq] at Q1 Q2
            clear hr hq LV
            go_wp2_with fail
            refine (R1.out _ HB.out).mono ?_
            rintro e w1 ⟨rfl, h1⟩
            replace HB := Lib.hid (HB.out.trans (h1.mono HB.out.size))
            clear h1 R1
            go_wp2_with fail
            refine (R2.out _ HB.out).mono ?_
            rintro e w2 ⟨rfl, h1⟩
            replace HB := Lib.hid (HB.out.trans (h1.mono HB.out.size))
            clear h1 R2
            go_wp2_with fail
            refine (Q1.out _).mono ?_
            rintro e w3 ⟨rfl, h1⟩
            replace HB := Lib.hid (HB.out.trans (h1.mono HB.out.size))
            clear h1 Q1
            go_wp2_with fail
            refine (Q2.out _).mono ?_
            rintro e w4 ⟨rfl, h1⟩
            replace HB := Lib.hid (HB.out.trans (h1.mono HB.out.size))
            clear h1 Q2
            go_wp2_with fail
            go_ret
            exact ⟨rfl, HB.out⟩
          · rename_i x vs
            rw [rowOut_some hr] at R1
            rw [hr] at R2
            obtain ⟨B, hB⟩ : ∃ B, bs x = B := ⟨_, rfl⟩
            replace R1 : RowKit.Hid (∀ (w1 : World), Below w.heap.size w w1 → Calls Try.prog 8 #[.slice a l.length cap] w1 fun e w' => e = .returned (.tuple #[.string B, .int .i64 0]) ∧ Below w1.heap.size w1 w') := by subst hB; exact R1
            replace R2 : RowKit.Hid (∀ (w1 : World), Below w.heap.size w w1 → Calls Try.prog 9 #[.slice a l.length cap] w1 fun e w' => e = .returned (.tuple #[.string B, .bool true]) ∧ Below w1.heap.size w1 w') := by subst hB; exact R2
            clear hB
            rw [hq] at Q1 Q2
            have LL := LV vs hq
            clear hr hq LV
            go_wp2_with fail
            refine (R1.out _ HB.out).mono ?_
            rintro e w1 ⟨rfl, h1⟩
            replace HB := Lib.hid (HB.out.trans (h1.mono HB.out.size))
            clear h1 R1
            go_wp2_with fail
            refine (R2.out _ HB.out).mono ?_
            rintro e w2 ⟨rfl, h1⟩
            replace HB := Lib.hid (HB.out.trans (h1.mono HB.out.size))
            clear h1 R2
            go_wp2_with fail
            refine (Q1.out _).mono ?_
            rintro e w3 ⟨a1, c1, rfl, V1, h1⟩
            replace HB := Lib.hid (HB.out.trans (h1.mono HB.out.size))
            clear h1 Q1
            have VV := Lib.hid V1
            clear V1
            go_wp2_with fail
            refine (Q2.out _).mono ?_
            rintro e w4 ⟨a2, c2, rfl, V2, h1⟩
            replace HB := Lib.hid (HB.out.trans (h1.mono HB.out.size))
            replace VV := Lib.hid (VV.out.keep h1)
            have UU := Lib.hid V2
            clear h1 Q2 V2
            go_wp2_with fail
            refine (SM.out vs a1 a2 c1 c2 _ VV.out UU.out LL).mono ?_
            rintro e w5 ⟨rfl, h1⟩
            replace HB := Lib.hid (HB.out.trans (h1.mono HB.out.size))
            clear h1 SM
            go_wp2_with fail
            go_ret
            exact ⟨rfl, HB.out⟩
theorem rows_row (a : Option Addr) (n cap : Nat) (xs : List (Int × Int × ByteArray × Unit)) (s : ByteArray) (W : World) (h : SlcIn valC W a n cap xs) (hs : s.size ≤ 140737488351232) :
    Calls Try.prog 3 #[.slice a n cap, .string s] W fun e w' => e = .returned (.bool true) ∧ Below W.heap.size W w' := by
  obtain ⟨l, rfl, h1, h2, h3⟩ := vs_of h
  exact rows_calls l a cap s W h2 (fun v hv => (h3 v hv).1) h1 hs
end Go.Proofs.Ytdnkgnlkipaboaa.Sign
