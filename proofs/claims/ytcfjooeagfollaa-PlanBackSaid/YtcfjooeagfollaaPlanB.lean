/- plan.Row. -/
import Derived.Test.YtcfjooeagfollaaPlanF
import Derived.Test.YtcfjooeagfollaaSignRR
namespace Go.Proofs.Ytcfjooeagfollaa.Plan
open Go.RowKit Go.Proofs.Ytcfjooeagfollaa.Mem Go.Proofs.Ytcfjooeagfollaa.Bytes Go.Proofs.Ytcfjooeagfollaa.Num Go.Proofs.Ytcfjooeagfollaa.Sign
set_option linter.unusedSimpArgs false
set_option linter.unusedVariables false
set_option maxRecDepth 20000

theorem readRow_is {l : List UInt8} {vs : List V} (h : readRow l = some vs) : vs.length ≤ 4 ∧ l.length = 9 * vs.length ∧ (∀ v ∈ vs, v.good = true ∧ v.fits) ∧ codes vs = l := by
  unfold readRow at h
  split at h
  · obtain ⟨a, b, c⟩ := readN_is h (by omega)
    exact ⟨by omega, by omega, b, c⟩
  · cases h
/-- What plan.Row reads. -/
def Pl.read (p : Pl) (n : Int) (k v : ByteArray) : Option (List V) := match readRow (k ++ v).data.toList with
  | none => none
  | some l => if k.size = 9 ∧ p.fit n l = true then some l else none

set_option maxHeartbeats 2000000 in
theorem prow_calls (p : Pl) (n : Int) (k v : ByteArray) (d : Bool) (w : World) (h : HasP w p) (hk : k.size ≤ 60) (hv : v.size ≤ 60) :
    Calls Try.prog 36 #[.agg #[.slice p.ta p.tables.length p.tcap, .slice p.va p.views.length p.vcap], .int .i64 n, .agg #[.string k, .string v, .bool d]] w fun e w' => rrPost (.int .i64 3) (.int .i64 0) (p.read n k v) w e w' := by
  have hX : Row (w.alloc (.cells #[.slice p.ta p.tables.length p.tcap, .slice p.va p.views.length p.vcap] 67)) w.heap.size 67 [.slice p.ta p.tables.length p.tcap, .slice p.va p.views.length p.vcap] := Wide.new_at rfl
  have hb : Below w.heap.size w (w.alloc (.cells #[.slice p.ta p.tables.length p.tcap, .slice p.va p.views.length p.vcap] 67)) := (Below.refl _ _).alloc (Nat.le_refl _) _
  have X0 := hX.alloc (.cells #[.string k, .string v, .bool d] 70)
  have hb2 := hb.alloc hb.size (.cells #[.string k, .string v, .bool d] 70)
  have Y0 : Row ((w.alloc (.cells #[.slice p.ta p.tables.length p.tcap, .slice p.va p.views.length p.vcap] 67)).alloc (.cells #[.string k, .string v, .bool d] 70)) (w.heap.size + 1) 70 [.string k, .string v, .bool d] := Wide.new_at (by simp)
  have y0 := Y0.cell (i := 0) rfl
  have y1 := Y0.cell (i := 1) rfl
  have X := Lib.hid X0
  have Y := Lib.hid Y0
  have B := Lib.hid hb2
  have H := Lib.hid h
  have hkv : (k ++ v).size = k.size + v.size := ByteArray.size_append
  have RR := Lib.hid (fun wx => readrow_calls (k ++ v) wx (by omega))
  have hrd : p.read n k v = match readRow (k ++ v).data.toList with
    | none => none
    | some l => if k.size = 9 ∧ p.fit n l = true then some l else none := rfl
  obtain ⟨O, hO⟩ : ∃ O, p.read n k v = O := ⟨_, rfl⟩
  rw [hO]
  rw [hO] at hrd
  obtain ⟨R, hR⟩ : ∃ R, readRow (k ++ v).data.toList = R := ⟨_, rfl⟩
  rw [hR] at RR hrd
  have RI := Lib.hid (fun l (e : R = some l) => readRow_is (hR.trans e))
  have HO := Lib.hid hrd
  clear hX hb X0 hb2 Y0 h hrd hR hO
  go_enter Try.func36, Try.ntmps36
  go_wp2_with fail
  clear y0 y1
  refine (RR.out _).mono ?_
  rintro e w1 hrr
  cases R with
  | none =>
    obtain rfl : O = none := HO.out
    obtain ⟨rfl, k1⟩ := hrr
    have B1 := Lib.hid (B.out.trans (k1.mono B.out.size))
    clear k1
    go_wp2_with fail
    go_ret2
    exact ⟨rfl, B1.out⟩
  | some l =>
    obtain ⟨a, cap, rfl, hV, k1⟩ := hrr
    obtain ⟨l4, _, _, _⟩ := RI.out l rfl
    have X1 := Lib.hid (X.out.below k1 X.out.lt)
    have Y1 := Lib.hid (Y.out.below k1 Y.out.lt)
    have B1 := Lib.hid (B.out.trans (k1.mono B.out.size))
    clear k1 RR RI
    have y0 := Y1.out.cell (i := 0) rfl
    have x0 := X1.out.cell (i := 0) rfl
    have x1 := X1.out.cell (i := 1) rfl
    have VV := Lib.hid hV
    clear hV
    by_cases c1 : k.size = 9
    rotate_left 1
    · have c1' : ((k.size : Int) != 9) = true := by simp; omega
      obtain rfl : O = none := HO.out.trans (if_neg (fun h => c1 h.1))
      clear HO
      go_wp2_with fail
      go_ret2
      exact ⟨rfl, B1.out⟩
    · have c1' : ((k.size : Int) != 9) = false := by simp; omega
      have F1 := Lib.hid (fits_calls p n l a cap _ (H.out.keep B1.out) VV.out (by omega))
      obtain ⟨C, hC⟩ : ∃ C, p.fit n l = C := ⟨_, rfl⟩
      rw [hC] at F1
      obtain rfl : O = if C = true then some l else none := by rw [← hC]; exact HO.out.trans (by simp [c1])
      clear HO hC
      go_wp2_with fail
      refine F1.out.mono ?_
      rintro e w2 ⟨rfl, k2⟩
      have B2 := Lib.hid (B1.out.trans (k2.mono B1.out.size))
      have V2 := Lib.hid (VV.out.keep k2)
      clear k2 F1
      cases C
      · rw [show fitN false = 1 from rfl]
        go_wp2_with fail
        go_ret2
        exact ⟨rfl, B2.out⟩
      · rw [show fitN true = 0 from rfl]
        go_wp2_with fail
        go_ret2
        exact ⟨_, _, rfl, V2.out, B2.out⟩
end Go.Proofs.Ytcfjooeagfollaa.Plan
