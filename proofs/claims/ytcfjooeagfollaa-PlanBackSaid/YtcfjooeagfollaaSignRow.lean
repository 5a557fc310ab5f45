/- sign.Row. -/
import Derived.Test.YtcfjooeagfollaaSignVs
import Derived.Test.YtcfjooeagfollaaShelf
namespace Go.Proofs.Ytcfjooeagfollaa.Sign
open Go.RowKit Go.Proofs.Ytcfjooeagfollaa.Mem Go.Proofs.Ytcfjooeagfollaa.Bytes Go.Proofs.Ytcfjooeagfollaa.Num
set_option linter.unusedSimpArgs false
set_option linter.unusedVariables false
set_option maxRecDepth 20000

def rowOut (l : List V) : List UInt8 × Int := match rowV l with
  | some x => (x, 0)
  | none => ([], 1)
theorem rowOut_some {l : List V} {x : List UInt8} (h : rowV l = some x) : rowOut l = (x, 0) := by rw [rowOut, h]
theorem rowOut_none {l : List V} (h : rowV l = none) : rowOut l = ([], 1) := by rw [rowOut, h]
theorem lies : Bld.Lies 186 := by unfold Bld.Lies; kernel_rfl

set_option maxHeartbeats 1000000 in
theorem row_calls (l : List V) (a : Option Addr) (cap : Nat) (w : World) (hV : Vs w a l) (hf : ∀ v ∈ l, v.fits) (hl : l.length ≤ 9223372036854775807) :
    Calls Try.prog 98 #[.slice a l.length cap] w fun e w' => e = .returned (.tuple #[.string (bs (rowOut l).1), .int .i64 (rowOut l).2]) ∧ Below w.heap.size w w' := by
  by_cases h4 : l.length ≤ 4
  · have h4' : ¬ (l.length : Int) > 4 := by omega
    have hR : Row (w.alloc (.cells #[.pointer none, .slice none 0 0] 186)) w.heap.size 186 [.pointer none, .slice none 0 0] := new_at rfl
    have hI : Bld.Is (w.alloc (.cells #[.pointer none, .slice none 0 0] 186)) (fun k => w.heap.size < k) 186 w.heap.size [] := Bld.Is.fresh hR (Nat.lt_irrefl _) (fun k hk => Nat.lt_of_lt_of_le (by simp) hk)
    have hb0 : Below w.heap.size w (w.alloc (.cells #[.pointer none, .slice none 0 0] 186)) := (Below.refl _ _).alloc (Nat.le_refl _) _
    have I := Lib.hid hI
    have B0 := Lib.hid hb0
    clear hI hb0 hR
    have hE := Try.Builder_String_empty w.heap.size w.heap.size _ (Lib.fresh_isBuilder 186 5 w) (by simp)
    have E := Lib.hid hE
    clear hE
    go_enter Try.func98, Try.ntmps98
    go_wp2_with fail
    go_loopw [14] (fun i wr => ∃ k : Nat, k ≤ l.length ∧ i = .int .i64 k ∧ Bld.Is wr (fun k => w.heap.size < k) 186 w.heap.size (codes (l.take k)) ∧ (∀ v ∈ l.take k, v.good = true) ∧ Below w.heap.size w wr ∧ (k = 0 → wr = w.alloc (.cells #[.pointer none, .slice none 0 0] 186))) (fun i _ => l.length - (intOf i).toNat)
    case atStart => exact ⟨0, by omega, rfl, I.out, by simp, B0.out, fun _ => rfl⟩
    case round =>
      obtain ⟨k, hk, rfl, hi, hg, hb, hw0⟩ := hrel
      by_cases hlt : k < l.length
      · obtain ⟨ad, rfl, hlb, hx⟩ := hV k hlt
        have hlt' : (k : Int) < (l.length : Int) := by omega
        have hfv := hf _ (List.getElem_mem hlt)
        have hct := codes_take hlt
        have htg := take_good hlt hg
        have hrb := rowV_bad hlt
        have hcl := codes_length hg
        rw [List.length_take_of_le (by omega)] at hcl
        generalize l[k] = v at *
        generalize codes (l.take k) = L at *
        have CO := Lib.hid (fun w => code_calls v w hfv)
        have CL := Lib.hid (fun h => V.code_length (v := v) h)
        have hxx := hx _ hb
        have I2 := Lib.hid (hi.alloc (.cells v.cells.toArray 81))
        have X2 := Lib.hid (new_at rfl : Row (wr.alloc (.cells v.cells.toArray 81)) wr.heap.size 81 v.cells)
        have B2 := Lib.hid (hb.alloc hb.size (.cells v.cells.toArray 81))
        have CT := Lib.hid hct
        have TG := Lib.hid htg
        have RB := Lib.hid hrb
        clear hx hb hct htg hrb hg hfv hV hi I B0 E hw0
        obtain ⟨x0, x1, x2⟩ := hxx
        by_cases hgv : v.good = true
        · obtain ⟨vc, hvc⟩ : ∃ vc, v.code = vc := ⟨_, rfl⟩
          have hvl := CL.out hgv
          have hco : codeOut v = (v.code, 0) := by unfold codeOut; rw [if_pos hgv]
          rw [hco] at CO
          rw [hvc] at hvl CO CT
          have TG2 := Lib.hid (TG.out hgv)
          obtain ⟨k0, n0, s0⟩ := v
          have y0 := X2.out.cell (i := 0) rfl
          have y1 := X2.out.cell (i := 1) rfl
          have y2 := X2.out.cell (i := 2) rfl
          try simp only [V.cells] at x0 x1 x2 y0 y1 y2
          clear TG RB CL hvc hco
          go_wp2_with fail
          clear x0 x1 x2 y0 y1 y2
          refine (CO.out _).mono ?_
          rintro e w1 ⟨rfl, h1⟩
          have I3 := Lib.hid (I2.out.below h1)
          have B3 := Lib.hid (B2.out.trans (h1.mono B2.out.size))
          clear h1
          have hs2 : (bs vc).size ≤ 100000000 := by rw [bs_size, hvl]; omega
          go_wp2_with fail
          refine (Bld.string_calls _ _ lies _ _ _ _ I3.out (by omega) hs2).mono ?_
          rintro e w2 ⟨rfl, hi4, hc4⟩
          have I4 := Lib.hid hi4
          have B4 := Lib.hid (B3.out.trans (hc4.below B3.out.size (fun x hx => by rcases hx with rfl | hx <;> omega)))
          clear hi4 hc4
          go_wp2_with fail
          exact ⟨⟨k + 1, by omega, by go_num, by rw [CT.out]; exact I4.out, TG2.out, B4.out, fun h => by omega⟩, by simp [intOf]; omega⟩
        · rw [Bool.not_eq_true] at hgv
          have hn := RB.out hgv
          have hco : codeOut v = ([], 1) := by unfold codeOut; rw [hgv]; rfl
          rw [hco] at CO
          obtain ⟨k0, n0, s0⟩ := v
          have y0 := X2.out.cell (i := 0) rfl
          have y1 := X2.out.cell (i := 1) rfl
          have y2 := X2.out.cell (i := 2) rfl
          try simp only [V.cells] at x0 x1 x2 y0 y1 y2
          clear TG RB CL CT hco
          go_wp2_with fail
          refine (CO.out _).mono ?_
          rintro e w1 ⟨rfl, h1⟩
          have B3 := Lib.hid (B2.out.trans (h1.mono B2.out.size))
          clear h1
          go_wp2_with fail
          go_ret2
          exact ⟨by rw [rowOut_none hn]; rfl, B3.out⟩
      · obtain rfl : k = l.length := by omega
        rw [List.take_length] at hg hi
        have hr := rowV_all h4 hg
        by_cases hl0 : l.length = 0
        · obtain rfl := List.eq_nil_of_length_eq_zero hl0
          have hw1 := hw0 rfl
          subst hw1
          clear hi hV hb I
          go_wp2_with fail
          refine E.out.mono ?_
          rintro e w1 ⟨rfl, h1⟩
          go_wp2_with fail
          go_ret2
          exact ⟨rfl, B0.out.trans h1⟩
        have hne : codes l ≠ [] := by
          intro h
          have := codes_length hg
          rw [h] at this
          simp at this
          omega
        have hc := Bld.text_calls _ _ _ _ _ hi hne
        have C := Lib.hid hc
        have HB := Lib.hid hb
        clear hc hi hb I B0 E hw0
        go_wp2_with fail
        refine C.out.mono ?_
        rintro e w1 ⟨rfl, hc1⟩
        have hb1 := hc1.below HB.out.size (fun x hx => by rcases hx with rfl | hx <;> omega)
        go_wp2_with fail
        go_ret2
        exact ⟨by rw [rowOut_some hr]; rfl, HB.out.trans hb1⟩
  · have hn : rowV l = none := by unfold rowV; rw [if_neg (fun h => h4 h.1)]
    have h4' : (l.length : Int) > 4 := by omega
    go_enter Try.func98, Try.ntmps98
    go_wp2_with fail
    go_ret2
    exact ⟨by rw [rowOut_none hn]; rfl, Below.refl _ _⟩
end Go.Proofs.Ytcfjooeagfollaa.Sign
