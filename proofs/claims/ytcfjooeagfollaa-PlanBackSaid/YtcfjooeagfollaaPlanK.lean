/- awake of the statements on plans. Printed by plan_awake.py -/
import Derived.Test.YtcfjooeagfollaaPlanF
namespace Go.Proofs.Ytcfjooeagfollaa.Plan
open Go.RowKit Go.Proofs.Ytcfjooeagfollaa.Mem Go.Proofs.Ytcfjooeagfollaa.Bytes Go.Proofs.Ytcfjooeagfollaa.Num Go.Proofs.Ytcfjooeagfollaa.Sign
set_option linter.unusedSimpArgs false
set_option linter.unusedVariables false
set_option maxRecDepth 20000

/-- The plan of awake. -/
def plan0 (n : Nat) : Pl := ⟨some ⟨n + 1, 0, none⟩, 1, [⟨some ⟨n, 0, none⟩, 2, [1, 1]⟩], some ⟨n + 1 + 1 + 1, 0, none⟩, 1, [⟨0, 1, some ⟨n + 1 + 1, 0, none⟩, 1, [0]⟩]⟩
def row0 : List V := [⟨1, 0, ⟨#[]⟩⟩, ⟨1, 0, ⟨#[]⟩⟩]
theorem plan0_good (n : Nat) : (plan0 n).good = true := rfl
theorem plan0_fit (n : Nat) : (plan0 n).fit 0 row0 = true := rfl
theorem plan0_ent (n : Nat) : (plan0 n).ent 0 row0 = some row0 := by unfold Pl.ent; rw [if_pos ⟨plan0_fit n, by decide, by decide⟩]
theorem plan0_fits (n : Nat) : (plan0 n).fits := by
  intro v hv s hs
  obtain rfl := List.mem_singleton.1 hv
  obtain rfl := List.mem_singleton.1 hs
  omega
theorem row0_key : (bs (rowKey row0)).size = 9 := by rw [bs_size, rowKey, List.length_take, codes_length (by intro v hv; simp [row0] at hv; subst hv; rfl)]; rfl
theorem row0_val : (bs (rowVal row0)).size = 9 := by rw [bs_size, rowVal, List.length_drop, codes_length (by intro v hv; simp [row0] at hv; subst hv; rfl)]; rfl

theorem rt_total {t : Tot} (h : t.fits) (h2 : t.sums.length ≤ 2) : rtOut (bs t.code) (t.sums.length : Int) = (t, 0) := by
  obtain ⟨c, l⟩ := t
  have hc : Tot.code ⟨c, l⟩ = codesW (c :: l) := by simp [Tot.code, codesW]
  have hl := codesW_length (c :: l)
  simp only at h2
  unfold rtOut
  rw [if_pos ⟨by simp only; omega, by simp only; omega, by simp only; rw [bs_size, hc, hl, List.length_cons]; omega⟩, hc]
  have e : ((l.length : Int) + 1).toNat = (c :: l).length := by rw [List.length_cons]; omega
  rw [e, bs_data, readW_codes (c :: l) (fun s hs => by
    rcases List.mem_cons.1 hs with rfl | hs
    · exact h.1
    · exact h.2 s hs)]
  rfl

set_option maxHeartbeats 8000000 in
theorem awake_calls (w : World) : Calls Try.prog 13 #[] w fun e w' => e = .returned (.bool true) ∧ Below w.heap.size w w' := by
  have R0 : Row ((((((w.alloc (.cells #[.int .i64 1, .int .i64 1] 3)).alloc (.cells #[.slice (some ⟨w.heap.size, 0, none⟩) 2 2] 135)).alloc (.cells #[.int .i64 0] 3)).alloc (.cells #[.int .i64 0, .int .i64 1, .slice (some ⟨w.heap.size + 1 + 1, 0, none⟩) 1 1] 137)).alloc (.cells #[.slice (some ⟨w.heap.size + 1, 0, none⟩) 1 1, .slice (some ⟨w.heap.size + 1 + 1 + 1, 0, none⟩) 1 1] 67)).alloc (.cells #[.int .i64 1, .int .i64 0, .string ⟨#[]⟩, .int .i64 1, .int .i64 0, .string ⟨#[]⟩] 81)) (w.heap.size) 3 [.int .i64 1, .int .i64 1] := ((((((Wide.new_at (by simp) : Row (w.alloc (.cells #[.int .i64 1, .int .i64 1] 3)) (w.heap.size) 3 [.int .i64 1, .int .i64 1]).alloc _).alloc _).alloc _).alloc _).alloc _)
  have R1 : Row ((((((w.alloc (.cells #[.int .i64 1, .int .i64 1] 3)).alloc (.cells #[.slice (some ⟨w.heap.size, 0, none⟩) 2 2] 135)).alloc (.cells #[.int .i64 0] 3)).alloc (.cells #[.int .i64 0, .int .i64 1, .slice (some ⟨w.heap.size + 1 + 1, 0, none⟩) 1 1] 137)).alloc (.cells #[.slice (some ⟨w.heap.size + 1, 0, none⟩) 1 1, .slice (some ⟨w.heap.size + 1 + 1 + 1, 0, none⟩) 1 1] 67)).alloc (.cells #[.int .i64 1, .int .i64 0, .string ⟨#[]⟩, .int .i64 1, .int .i64 0, .string ⟨#[]⟩] 81)) (w.heap.size + 1) 135 [.slice (some ⟨w.heap.size, 0, none⟩) 2 2] := (((((Wide.new_at (by simp) : Row ((w.alloc (.cells #[.int .i64 1, .int .i64 1] 3)).alloc (.cells #[.slice (some ⟨w.heap.size, 0, none⟩) 2 2] 135)) (w.heap.size + 1) 135 [.slice (some ⟨w.heap.size, 0, none⟩) 2 2]).alloc _).alloc _).alloc _).alloc _)
  have R2 : Row ((((((w.alloc (.cells #[.int .i64 1, .int .i64 1] 3)).alloc (.cells #[.slice (some ⟨w.heap.size, 0, none⟩) 2 2] 135)).alloc (.cells #[.int .i64 0] 3)).alloc (.cells #[.int .i64 0, .int .i64 1, .slice (some ⟨w.heap.size + 1 + 1, 0, none⟩) 1 1] 137)).alloc (.cells #[.slice (some ⟨w.heap.size + 1, 0, none⟩) 1 1, .slice (some ⟨w.heap.size + 1 + 1 + 1, 0, none⟩) 1 1] 67)).alloc (.cells #[.int .i64 1, .int .i64 0, .string ⟨#[]⟩, .int .i64 1, .int .i64 0, .string ⟨#[]⟩] 81)) (w.heap.size + 1 + 1) 3 [.int .i64 0] := ((((Wide.new_at (by simp) : Row (((w.alloc (.cells #[.int .i64 1, .int .i64 1] 3)).alloc (.cells #[.slice (some ⟨w.heap.size, 0, none⟩) 2 2] 135)).alloc (.cells #[.int .i64 0] 3)) (w.heap.size + 1 + 1) 3 [.int .i64 0]).alloc _).alloc _).alloc _)
  have R3 : Row ((((((w.alloc (.cells #[.int .i64 1, .int .i64 1] 3)).alloc (.cells #[.slice (some ⟨w.heap.size, 0, none⟩) 2 2] 135)).alloc (.cells #[.int .i64 0] 3)).alloc (.cells #[.int .i64 0, .int .i64 1, .slice (some ⟨w.heap.size + 1 + 1, 0, none⟩) 1 1] 137)).alloc (.cells #[.slice (some ⟨w.heap.size + 1, 0, none⟩) 1 1, .slice (some ⟨w.heap.size + 1 + 1 + 1, 0, none⟩) 1 1] 67)).alloc (.cells #[.int .i64 1, .int .i64 0, .string ⟨#[]⟩, .int .i64 1, .int .i64 0, .string ⟨#[]⟩] 81)) (w.heap.size + 1 + 1 + 1) 137 [.int .i64 0, .int .i64 1, .slice (some ⟨w.heap.size + 1 + 1, 0, none⟩) 1 1] := (((Wide.new_at (by simp) : Row ((((w.alloc (.cells #[.int .i64 1, .int .i64 1] 3)).alloc (.cells #[.slice (some ⟨w.heap.size, 0, none⟩) 2 2] 135)).alloc (.cells #[.int .i64 0] 3)).alloc (.cells #[.int .i64 0, .int .i64 1, .slice (some ⟨w.heap.size + 1 + 1, 0, none⟩) 1 1] 137)) (w.heap.size + 1 + 1 + 1) 137 [.int .i64 0, .int .i64 1, .slice (some ⟨w.heap.size + 1 + 1, 0, none⟩) 1 1]).alloc _).alloc _)
  have R4 : Row ((((((w.alloc (.cells #[.int .i64 1, .int .i64 1] 3)).alloc (.cells #[.slice (some ⟨w.heap.size, 0, none⟩) 2 2] 135)).alloc (.cells #[.int .i64 0] 3)).alloc (.cells #[.int .i64 0, .int .i64 1, .slice (some ⟨w.heap.size + 1 + 1, 0, none⟩) 1 1] 137)).alloc (.cells #[.slice (some ⟨w.heap.size + 1, 0, none⟩) 1 1, .slice (some ⟨w.heap.size + 1 + 1 + 1, 0, none⟩) 1 1] 67)).alloc (.cells #[.int .i64 1, .int .i64 0, .string ⟨#[]⟩, .int .i64 1, .int .i64 0, .string ⟨#[]⟩] 81)) (w.heap.size + 1 + 1 + 1 + 1) 67 [.slice (some ⟨w.heap.size + 1, 0, none⟩) 1 1, .slice (some ⟨w.heap.size + 1 + 1 + 1, 0, none⟩) 1 1] := ((Wide.new_at (by simp) : Row (((((w.alloc (.cells #[.int .i64 1, .int .i64 1] 3)).alloc (.cells #[.slice (some ⟨w.heap.size, 0, none⟩) 2 2] 135)).alloc (.cells #[.int .i64 0] 3)).alloc (.cells #[.int .i64 0, .int .i64 1, .slice (some ⟨w.heap.size + 1 + 1, 0, none⟩) 1 1] 137)).alloc (.cells #[.slice (some ⟨w.heap.size + 1, 0, none⟩) 1 1, .slice (some ⟨w.heap.size + 1 + 1 + 1, 0, none⟩) 1 1] 67)) (w.heap.size + 1 + 1 + 1 + 1) 67 [.slice (some ⟨w.heap.size + 1, 0, none⟩) 1 1, .slice (some ⟨w.heap.size + 1 + 1 + 1, 0, none⟩) 1 1]).alloc _)
  have R5 : Row ((((((w.alloc (.cells #[.int .i64 1, .int .i64 1] 3)).alloc (.cells #[.slice (some ⟨w.heap.size, 0, none⟩) 2 2] 135)).alloc (.cells #[.int .i64 0] 3)).alloc (.cells #[.int .i64 0, .int .i64 1, .slice (some ⟨w.heap.size + 1 + 1, 0, none⟩) 1 1] 137)).alloc (.cells #[.slice (some ⟨w.heap.size + 1, 0, none⟩) 1 1, .slice (some ⟨w.heap.size + 1 + 1 + 1, 0, none⟩) 1 1] 67)).alloc (.cells #[.int .i64 1, .int .i64 0, .string ⟨#[]⟩, .int .i64 1, .int .i64 0, .string ⟨#[]⟩] 81)) (w.heap.size + 1 + 1 + 1 + 1 + 1) 81 [.int .i64 1, .int .i64 0, .string ⟨#[]⟩, .int .i64 1, .int .i64 0, .string ⟨#[]⟩] := (Wide.new_at (by simp) : Row ((((((w.alloc (.cells #[.int .i64 1, .int .i64 1] 3)).alloc (.cells #[.slice (some ⟨w.heap.size, 0, none⟩) 2 2] 135)).alloc (.cells #[.int .i64 0] 3)).alloc (.cells #[.int .i64 0, .int .i64 1, .slice (some ⟨w.heap.size + 1 + 1, 0, none⟩) 1 1] 137)).alloc (.cells #[.slice (some ⟨w.heap.size + 1, 0, none⟩) 1 1, .slice (some ⟨w.heap.size + 1 + 1 + 1, 0, none⟩) 1 1] 67)).alloc (.cells #[.int .i64 1, .int .i64 0, .string ⟨#[]⟩, .int .i64 1, .int .i64 0, .string ⟨#[]⟩] 81)) (w.heap.size + 1 + 1 + 1 + 1 + 1) 81 [.int .i64 1, .int .i64 0, .string ⟨#[]⟩, .int .i64 1, .int .i64 0, .string ⟨#[]⟩])
  have B6 : Below w.heap.size w ((((((w.alloc (.cells #[.int .i64 1, .int .i64 1] 3)).alloc (.cells #[.slice (some ⟨w.heap.size, 0, none⟩) 2 2] 135)).alloc (.cells #[.int .i64 0] 3)).alloc (.cells #[.int .i64 0, .int .i64 1, .slice (some ⟨w.heap.size + 1 + 1, 0, none⟩) 1 1] 137)).alloc (.cells #[.slice (some ⟨w.heap.size + 1, 0, none⟩) 1 1, .slice (some ⟨w.heap.size + 1 + 1 + 1, 0, none⟩) 1 1] 67)).alloc (.cells #[.int .i64 1, .int .i64 0, .string ⟨#[]⟩, .int .i64 1, .int .i64 0, .string ⟨#[]⟩] 81)) := (((((((Below.refl _ _).alloc (Nat.le_refl _) _).alloc (by simp) _).alloc (by simp; omega) _).alloc (by simp; omega) _).alloc (by simp; omega) _).alloc (by simp; omega) _)
  have HP : HasP ((((((w.alloc (.cells #[.int .i64 1, .int .i64 1] 3)).alloc (.cells #[.slice (some ⟨w.heap.size, 0, none⟩) 2 2] 135)).alloc (.cells #[.int .i64 0] 3)).alloc (.cells #[.int .i64 0, .int .i64 1, .slice (some ⟨w.heap.size + 1 + 1, 0, none⟩) 1 1] 137)).alloc (.cells #[.slice (some ⟨w.heap.size + 1, 0, none⟩) 1 1, .slice (some ⟨w.heap.size + 1 + 1 + 1, 0, none⟩) 1 1] 67)).alloc (.cells #[.int .i64 1, .int .i64 0, .string ⟨#[]⟩, .int .i64 1, .int .i64 0, .string ⟨#[]⟩] 81)) (plan0 w.heap.size) := by
    refine ⟨⟨els_row (enc := Tb.cells) (sz := 1) (pre := []) (post := []) (fun _ => rfl) R1 rfl, fun t ht => ?_, by show (1 : Nat) ≤ _; omega⟩, els_row (enc := Vw.cells) (sz := 3) (pre := []) (post := []) (fun _ => rfl) R3 rfl, fun v hv => ?_, by show (1 : Nat) ≤ _; omega⟩
    · obtain rfl := List.mem_singleton.1 ht
      exact ⟨els_row (enc := intC) (sz := 1) (pre := []) (post := []) (fun _ => rfl) R0 rfl, by show (2 : Nat) ≤ _; omega⟩
    · obtain rfl := List.mem_singleton.1 hv
      exact ⟨els_row (enc := intC) (sz := 1) (pre := []) (post := []) (fun _ => rfl) R2 rfl, by show (1 : Nat) ≤ _; omega⟩
  have HV : Vs ((((((w.alloc (.cells #[.int .i64 1, .int .i64 1] 3)).alloc (.cells #[.slice (some ⟨w.heap.size, 0, none⟩) 2 2] 135)).alloc (.cells #[.int .i64 0] 3)).alloc (.cells #[.int .i64 0, .int .i64 1, .slice (some ⟨w.heap.size + 1 + 1, 0, none⟩) 1 1] 137)).alloc (.cells #[.slice (some ⟨w.heap.size + 1, 0, none⟩) 1 1, .slice (some ⟨w.heap.size + 1 + 1 + 1, 0, none⟩) 1 1] 67)).alloc (.cells #[.int .i64 1, .int .i64 0, .string ⟨#[]⟩, .int .i64 1, .int .i64 0, .string ⟨#[]⟩] 81)) (some ⟨w.heap.size + 1 + 1 + 1 + 1 + 1, 0, none⟩) row0 := by
    intro i hi
    refine ⟨_, rfl, R5.lt, fun w' hb => ?_⟩
    have R := R5.below hb R5.lt
    match i, hi with
    | 0, _ => exact ⟨R.cell (i := 0) rfl, R.cell (i := 1) rfl, R.cell (i := 2) rfl⟩
    | 1, _ => exact ⟨R.cell (i := 3) rfl, R.cell (i := 4) rfl, R.cell (i := 5) rfl⟩
    | k + 2, h => simp [row0] at h; omega
  have EN := Lib.hid (fun (wx : World) (h : Below ((((((w.alloc (.cells #[.int .i64 1, .int .i64 1] 3)).alloc (.cells #[.slice (some ⟨w.heap.size, 0, none⟩) 2 2] 135)).alloc (.cells #[.int .i64 0] 3)).alloc (.cells #[.int .i64 0, .int .i64 1, .slice (some ⟨w.heap.size + 1 + 1, 0, none⟩) 1 1] 137)).alloc (.cells #[.slice (some ⟨w.heap.size + 1, 0, none⟩) 1 1, .slice (some ⟨w.heap.size + 1 + 1 + 1, 0, none⟩) 1 1] 67)).alloc (.cells #[.int .i64 1, .int .i64 0, .string ⟨#[]⟩, .int .i64 1, .int .i64 0, .string ⟨#[]⟩] 81)).heap.size ((((((w.alloc (.cells #[.int .i64 1, .int .i64 1] 3)).alloc (.cells #[.slice (some ⟨w.heap.size, 0, none⟩) 2 2] 135)).alloc (.cells #[.int .i64 0] 3)).alloc (.cells #[.int .i64 0, .int .i64 1, .slice (some ⟨w.heap.size + 1 + 1, 0, none⟩) 1 1] 137)).alloc (.cells #[.slice (some ⟨w.heap.size + 1, 0, none⟩) 1 1, .slice (some ⟨w.heap.size + 1 + 1 + 1, 0, none⟩) 1 1] 67)).alloc (.cells #[.int .i64 1, .int .i64 0, .string ⟨#[]⟩, .int .i64 1, .int .i64 0, .string ⟨#[]⟩] 81)) wx) => entry_calls (plan0 w.heap.size) 0 row0 (some ⟨w.heap.size + 1 + 1 + 1 + 1 + 1, 0, none⟩) 2 wx (HP.keep h) (HV.keep h) (by intro v hv; simp [row0] at hv; subst hv; unfold V.fits; decide) (by decide) (.inl (by decide)))
  have GD := Lib.hid (fun (wx : World) (h : Below ((((((w.alloc (.cells #[.int .i64 1, .int .i64 1] 3)).alloc (.cells #[.slice (some ⟨w.heap.size, 0, none⟩) 2 2] 135)).alloc (.cells #[.int .i64 0] 3)).alloc (.cells #[.int .i64 0, .int .i64 1, .slice (some ⟨w.heap.size + 1 + 1, 0, none⟩) 1 1] 137)).alloc (.cells #[.slice (some ⟨w.heap.size + 1, 0, none⟩) 1 1, .slice (some ⟨w.heap.size + 1 + 1 + 1, 0, none⟩) 1 1] 67)).alloc (.cells #[.int .i64 1, .int .i64 0, .string ⟨#[]⟩, .int .i64 1, .int .i64 0, .string ⟨#[]⟩] 81)).heap.size ((((((w.alloc (.cells #[.int .i64 1, .int .i64 1] 3)).alloc (.cells #[.slice (some ⟨w.heap.size, 0, none⟩) 2 2] 135)).alloc (.cells #[.int .i64 0] 3)).alloc (.cells #[.int .i64 0, .int .i64 1, .slice (some ⟨w.heap.size + 1 + 1, 0, none⟩) 1 1] 137)).alloc (.cells #[.slice (some ⟨w.heap.size + 1, 0, none⟩) 1 1, .slice (some ⟨w.heap.size + 1 + 1 + 1, 0, none⟩) 1 1] 67)).alloc (.cells #[.int .i64 1, .int .i64 0, .string ⟨#[]⟩, .int .i64 1, .int .i64 0, .string ⟨#[]⟩] 81)) wx) => good_calls (plan0 w.heap.size) wx (HP.keep h) (plan0_fits _))
  rw [plan0_ent] at EN
  rw [plan0_good] at GD
  have TR := Lib.hid (fun wx => trees_calls (plan0 w.heap.size) wx (by show (1 : Nat) ≤ _; omega) (by show (1 : Nat) ≤ _; omega))
  have VT := Lib.hid (fun wx => viewT_calls (plan0 w.heap.size) 0 wx (by show (1 : Nat) ≤ _; omega) (by decide) (by decide))
  have FR := Lib.hid (fun wx => free_calls (plan0 w.heap.size) wx (by show (1 : Nat) ≤ _; omega) (by show (1 : Nat) ≤ _; omega))
  have RT := Lib.hid (fun wx => root_calls 1 wx (by decide) (by decide))
  have P := Lib.hid R4
  have B := Lib.hid B6
  clear R0 R1 R2 R3 R4 R5 B6 HP HV
  obtain ⟨K, hK⟩ : ∃ K, bs (rowKey row0) = K := ⟨_, rfl⟩
  obtain ⟨U, hU⟩ : ∃ U, bs (rowVal row0) = U := ⟨_, rfl⟩
  have hKs : K.size = 9 := by rw [← hK]; exact row0_key
  have hUs : U.size = 9 := by rw [← hU]; exact row0_val
  have PV : (.agg #[.slice (plan0 w.heap.size).ta (plan0 w.heap.size).tables.length (plan0 w.heap.size).tcap, .slice (plan0 w.heap.size).va (plan0 w.heap.size).views.length (plan0 w.heap.size).vcap] : Value) = .agg #[.slice (some ⟨w.heap.size + 1, 0, none⟩) 1 1, .slice (some ⟨w.heap.size + 1 + 1 + 1, 0, none⟩) 1 1] := rfl
  rw [PV] at EN GD TR VT FR
  replace EN : RowKit.Hid (∀ wx, Below ((((((w.alloc (.cells #[.int .i64 1, .int .i64 1] 3)).alloc (.cells #[.slice (some ⟨w.heap.size, 0, none⟩) 2 2] 135)).alloc (.cells #[.int .i64 0] 3)).alloc (.cells #[.int .i64 0, .int .i64 1, .slice (some ⟨w.heap.size + 1 + 1, 0, none⟩) 1 1] 137)).alloc (.cells #[.slice (some ⟨w.heap.size + 1, 0, none⟩) 1 1, .slice (some ⟨w.heap.size + 1 + 1 + 1, 0, none⟩) 1 1] 67)).alloc (.cells #[.int .i64 1, .int .i64 0, .string ⟨#[]⟩, .int .i64 1, .int .i64 0, .string ⟨#[]⟩] 81)).heap.size ((((((w.alloc (.cells #[.int .i64 1, .int .i64 1] 3)).alloc (.cells #[.slice (some ⟨w.heap.size, 0, none⟩) 2 2] 135)).alloc (.cells #[.int .i64 0] 3)).alloc (.cells #[.int .i64 0, .int .i64 1, .slice (some ⟨w.heap.size + 1 + 1, 0, none⟩) 1 1] 137)).alloc (.cells #[.slice (some ⟨w.heap.size + 1, 0, none⟩) 1 1, .slice (some ⟨w.heap.size + 1 + 1 + 1, 0, none⟩) 1 1] 67)).alloc (.cells #[.int .i64 1, .int .i64 0, .string ⟨#[]⟩, .int .i64 1, .int .i64 0, .string ⟨#[]⟩] 81)) wx → Calls Try.prog 37 #[.agg #[.slice (some ⟨w.heap.size + 1, 0, none⟩) 1 1, .slice (some ⟨w.heap.size + 1 + 1 + 1, 0, none⟩) 1 1], .int .i64 0, .slice (some ⟨w.heap.size + 1 + 1 + 1 + 1 + 1, 0, none⟩) 2 2] wx fun e w' => e = .returned (.tuple #[.agg #[.string K, .string U, .bool false], .int .i64 0]) ∧ Below wx.heap.size wx w') := by rw [← hK, ← hU]; exact EN
  clear hK hU PV
  replace TR : RowKit.Hid (∀ wx, Calls Try.prog 69 #[.agg #[.slice (some ⟨w.heap.size + 1, 0, none⟩) 1 1, .slice (some ⟨w.heap.size + 1 + 1 + 1, 0, none⟩) 1 1]] wx fun e w' => e = .returned (.int .i64 2) ∧ Below wx.heap.size wx w') := TR
  replace VT : RowKit.Hid (∀ wx, Calls Try.prog 70 #[.agg #[.slice (some ⟨w.heap.size + 1, 0, none⟩) 1 1, .slice (some ⟨w.heap.size + 1 + 1 + 1, 0, none⟩) 1 1], .int .i64 0] wx fun e w' => e = .returned (.int .i64 1) ∧ Below wx.heap.size wx w') := VT
  replace FR : RowKit.Hid (∀ wx, Calls Try.prog 71 #[.agg #[.slice (some ⟨w.heap.size + 1, 0, none⟩) 1 1, .slice (some ⟨w.heap.size + 1 + 1 + 1, 0, none⟩) 1 1]] wx fun e w' => e = .returned (.int .i64 3) ∧ Below wx.heap.size wx w') := FR
  replace RT : RowKit.Hid (∀ wx, Calls Try.prog 72 #[.int .i64 1] wx fun e w' => e = .returned (.int .i64 2) ∧ Below wx.heap.size wx w') := RT
  have p0 := P.out.cell (i := 0) rfl
  have p1 := P.out.cell (i := 1) rfl
  go_enter Try.func13, Try.ntmps13
  go_wp2_with fail
  clear p0 p1
  refine (EN.out _ (Below.refl _ _)).mono ?_
  rintro e w1 ⟨rfl, k1⟩
  have G1 := Lib.hid k1
  have P1 := P.out.below k1 P.out.lt
  have B1 := B.out.trans (k1.mono B.out.size)
  have E1 : Row (w1.alloc (.cells #[.string K, .string U, .bool false] 70)) w1.heap.size 70 [.string K, .string U, .bool false] := Wide.new_at rfl
  have P2 := Lib.hid (P1.alloc (.cells #[.string K, .string U, .bool false] 70))
  have B2 := Lib.hid (B1.alloc B1.size (.cells #[.string K, .string U, .bool false] 70))
  have G2 := Lib.hid (G1.out.alloc G1.out.size (.cells #[.string K, .string U, .bool false] 70))
  have E2 := Lib.hid E1
  clear k1 P1 B1 E1 P B EN G1
  go_wp2_with fail
  generalize (w1.alloc (.cells #[.string K, .string U, .bool false] 70)) = w2 at *
  generalize w1.heap.size = eb at *
  refine (nothing_calls 1 _).mono ?_
  rintro e w3 ⟨⟨v3, rfl, hT3⟩, k⟩
  have P3 := Lib.hid (P2.out.below k P2.out.lt)
  have B3 := Lib.hid (B2.out.trans (k.mono B2.out.size))
  have G3 := Lib.hid (G2.out.trans (k.mono G2.out.size))
  have E3 := Lib.hid (E2.out.below k E2.out.lt)
  clear k P2 B2 G2 E2
  have TC := Lib.hid (total_calls (nothing 1) v3 w3 hT3 (by decide))
  have RC := Lib.hid (fun wx => readTotal_calls (bs (nothing 1).code) 1 (by decide) (by decide) wx)
  have hro : rtOut (bs (nothing 1).code) 1 = (nothing 1, 0) := rt_total (nothing_fits 1) (by decide)
  rw [hro] at RC
  clear hT3 hro
  generalize bs (nothing 1).code = S at *
  go_wp2_with fail
  refine TC.out.mono ?_
  rintro e w4 ⟨rfl, k⟩
  have P4 := Lib.hid (P3.out.below k P3.out.lt)
  have B4 := Lib.hid (B3.out.trans (k.mono B3.out.size))
  have G4 := Lib.hid (G3.out.trans (k.mono G3.out.size))
  have E4 := Lib.hid (E3.out.below k E3.out.lt)
  clear k P3 B3 G3 E3
  go_wp2_with fail
  refine (RC.out _).mono ?_
  rintro e w5 ⟨⟨v5, rfl, ⟨a5, c5, rfl, hW5⟩, hF5, hL5⟩, k⟩
  have hv5 : (Value.agg ((nothing 1).cells (.slice a5 (nothing 1).sums.length c5)).toArray) = .agg #[.int .i64 0, .int .u64 0, .slice a5 1 c5] := rfl
  have T6 : Row (w5.alloc (.cells #[.int .i64 0, .int .u64 0, .slice a5 1 c5] 27)) w5.heap.size 27 [.int .i64 0, .int .u64 0, .slice a5 1 c5] := Wide.new_at rfl
  have N6 := Lib.hid ((show HasT w5 (.agg #[.int .i64 0, .int .u64 0, .slice a5 1 c5]) (nothing 1) from ⟨⟨a5, c5, rfl, hW5⟩, hF5, hL5⟩).keep ((Below.refl _ _).alloc (Nat.le_refl _) (.cells #[.int .i64 0, .int .u64 0, .slice a5 1 c5] 27)))
  have P5 := P4.out.below k P4.out.lt
  have B5 := B4.out.trans (k.mono B4.out.size)
  have G5 := G4.out.trans (k.mono G4.out.size)
  have E5 := E4.out.below k E4.out.lt
  have P6 := Lib.hid (P5.alloc (.cells #[.int .i64 0, .int .u64 0, .slice a5 1 c5] 27))
  have E6 := Lib.hid (E5.alloc (.cells #[.int .i64 0, .int .u64 0, .slice a5 1 c5] 27))
  have B6 := Lib.hid (B5.alloc B5.size (.cells #[.int .i64 0, .int .u64 0, .slice a5 1 c5] 27))
  have G6 := Lib.hid (G5.alloc G5.size (.cells #[.int .i64 0, .int .u64 0, .slice a5 1 c5] 27))
  have T6 := Lib.hid T6
  rw [hv5]
  clear k P4 B4 G4 E4 P5 B5 G5 E5 hW5 hF5 hL5 hv5 TC RC
  have p0 := P6.out.cell (i := 0) rfl
  have p1 := P6.out.cell (i := 1) rfl
  go_wp2_with fail
  clear p0 p1
  generalize (w5.alloc (.cells #[.int .i64 0, .int .u64 0, .slice a5 1 c5] 27)) = w6 at *
  generalize w5.heap.size = tb at *
  refine (GD.out _ G6.out).mono ?_
  rintro e w7 ⟨rfl, k⟩
  have P7 := Lib.hid (P6.out.below k P6.out.lt)
  have B7 := Lib.hid (B6.out.trans (k.mono B6.out.size))
  have G7 := Lib.hid (G6.out.trans (k.mono G6.out.size))
  have E7 := Lib.hid (E6.out.below k E6.out.lt)
  have T7 := Lib.hid (T6.out.below k T6.out.lt)
  have N7 := Lib.hid (N6.out.keep k)
  clear k P6 B6 G6 E6 T6 N6
  have p0 := P7.out.cell (i := 0) rfl
  have p1 := P7.out.cell (i := 1) rfl
  go_wp2_with fail
  clear p0 p1
  refine (TR.out _).mono ?_
  rintro e w8 ⟨rfl, k⟩
  have P8 := Lib.hid (P7.out.below k P7.out.lt)
  have B8 := Lib.hid (B7.out.trans (k.mono B7.out.size))
  have G8 := Lib.hid (G7.out.trans (k.mono G7.out.size))
  have E8 := Lib.hid (E7.out.below k E7.out.lt)
  have T8 := Lib.hid (T7.out.below k T7.out.lt)
  have N8 := Lib.hid (N7.out.keep k)
  clear k P7 B7 G7 E7 T7 N7
  have p0 := P8.out.cell (i := 0) rfl
  have p1 := P8.out.cell (i := 1) rfl
  go_wp2_with fail
  clear p0 p1
  refine (VT.out _).mono ?_
  rintro e w9 ⟨rfl, k⟩
  have P9 := Lib.hid (P8.out.below k P8.out.lt)
  have B9 := Lib.hid (B8.out.trans (k.mono B8.out.size))
  have G9 := Lib.hid (G8.out.trans (k.mono G8.out.size))
  have E9 := Lib.hid (E8.out.below k E8.out.lt)
  have T9 := Lib.hid (T8.out.below k T8.out.lt)
  have N9 := Lib.hid (N8.out.keep k)
  clear k P8 B8 G8 E8 T8 N8
  have p0 := P9.out.cell (i := 0) rfl
  have p1 := P9.out.cell (i := 1) rfl
  go_wp2_with fail
  clear p0 p1
  refine (FR.out _).mono ?_
  rintro e w10 ⟨rfl, k⟩
  have P10 := Lib.hid (P9.out.below k P9.out.lt)
  have B10 := Lib.hid (B9.out.trans (k.mono B9.out.size))
  have G10 := Lib.hid (G9.out.trans (k.mono G9.out.size))
  have E10 := Lib.hid (E9.out.below k E9.out.lt)
  have T10 := Lib.hid (T9.out.below k T9.out.lt)
  have N10 := Lib.hid (N9.out.keep k)
  clear k P9 B9 G9 E9 T9 N9
  go_wp2_with fail
  refine (RT.out _).mono ?_
  rintro e w11 ⟨rfl, k⟩
  have P11 := Lib.hid (P10.out.below k P10.out.lt)
  have B11 := Lib.hid (B10.out.trans (k.mono B10.out.size))
  have G11 := Lib.hid (G10.out.trans (k.mono G10.out.size))
  have E11 := Lib.hid (E10.out.below k E10.out.lt)
  have T11 := Lib.hid (T10.out.below k T10.out.lt)
  have N11 := Lib.hid (N10.out.keep k)
  clear k P10 B10 G10 E10 T10 N10
  have q0 := E11.out.cell (i := 0) rfl
  have q1 := E11.out.cell (i := 1) rfl
  have t0 := T11.out.cell (i := 0) rfl
  have t1 := T11.out.cell (i := 1) rfl
  have t2 := T11.out.cell (i := 2) rfl
  have NC := Lib.hid (isNothing_calls (nothing 1) _ w11 N11.out)
  have hno : (nothing 1).isNo = true := rfl
  rw [hno] at NC
  clear hno
  go_wp2_with fail
  refine NC.out.mono ?_
  rintro e w12 ⟨rfl, k⟩
  have B12 := Lib.hid (B11.out.trans (k.mono B11.out.size))
  clear k q0 q1 t0 t1 t2
  go_wp2_with fail
  go_ret
  exact ⟨rfl, B12.out⟩
end Go.Proofs.Ytcfjooeagfollaa.Plan
