/- Contracts of wide: Code, Read, Add. -/
import Derived.Test.YtcfjooeagfollaaWide
import Derived.Test.YtcfjooeagfollaaLex
namespace Go.Proofs.Ytcfjooeagfollaa.Wide
open Go.RowKit Go.Proofs.Ytcfjooeagfollaa.Mem Go.Proofs.Ytcfjooeagfollaa.Bytes Go.Proofs.Ytcfjooeagfollaa.Num
set_option linter.unusedSimpArgs false
set_option linter.unusedVariables false
set_option maxRecDepth 20000

theorem conv_top (a : Wd) : IntKind.u64.wrap a.hi = (a.top : Int) := by rw [wrap_u64, Wd.top]; omega

set_option maxHeartbeats 1000000 in
theorem code_calls (a : Wd) (hf : a.fits) (w : World) : Calls Try.prog 73 #[a.val] w fun e w' => e = .returned (.string (bs a.code)) ∧ Below w.heap.size w w' := by
  have ht := a.top_lt
  have hcv := conv_top a
  have hcat : bs (be a.top 8) ++ bs (be a.lo.toNat 8) = bs a.code := bs_append _ _
  obtain ⟨hi, lo⟩ := a
  obtain ⟨f1, f2, f3, f4⟩ := hf
  simp only at f1 f2 f3 f4 hcv
  obtain ⟨m, rfl⟩ := Int.eq_ofNat_of_zero_le f3
  have hX : Row (w.alloc (.cells #[.int .i64 hi, .int .u64 m] 24)) w.heap.size 24 [.int .i64 hi, .int .u64 m] := new_at rfl
  have hb : Below w.heap.size w (w.alloc (.cells #[.int .i64 hi, .int .u64 m] 24)) := (Below.refl _ _).alloc (Nat.le_refl _) _
  show Calls Try.prog 73 #[.agg #[.int .i64 hi, .int .u64 m]] w _
  simp only [Int.toNat_natCast] at hcat
  generalize Wd.top ⟨hi, (m : Int)⟩ = T at *
  have P1 := Lib.hid (fun w => put_calls T w (by omega))
  have P2 := Lib.hid (fun w => put_calls m w (by omega))
  have z1 : (bs (be T 8)).size = 8 := be_length _ _
  have z2 : (bs (be m 8)).size = 8 := be_length _ _
  have HC := Lib.hid hcat
  have B := Lib.hid hb
  have X := Lib.hid hX
  clear hcat hb hX
  go_enter Try.func73, Try.ntmps73
  go_wp2_with fail
  obtain ⟨Z, f, hfb, ⟨z0, hz0⟩, hcl⟩ := Lex.class_of Try.prog (w.alloc (.cells #[.int .i64 hi, .int .u64 m] 24))
  haveI : Nonempty Z := ⟨z0⟩
  have x0 := fun z => (X.out.below (hfb z) X.out.lt).cell (i := 0) rfl
  have x1 := fun z => (X.out.below (hfb z) X.out.lt).cell (i := 1) rfl
  have C1 := Lib.hid (hcl _ _ _ P1.out)
  have C2 := Lib.hid (hcl _ _ _ P2.out)
  have HFB := Lib.hid hfb
  clear hfb hcl P1 P2
  refine Lex.region_class hz0 (by kernel_rfl) (by kernel_rfl) ?_
  repeat (go_big_quiet_step (first | (go_at_call 126; with_reducible exact C1.out _) | (go_at_call 126; with_reducible exact C2.out _)))
  refine wpQuiet_nil ?_
  rintro w5 ⟨z, rfl⟩
  have h1 := HFB.out z
  clear x0 x1
  go_wp2_with fail
  go_ret
  exact ⟨congrArg (fun x => Ending.returned (.string x)) HC.out, B.out.trans (h1.mono B.out.size)⟩

set_option maxHeartbeats 1000000 in
theorem read_no (s : ByteArray) (h : s.size ≠ 16) (w : World) : Calls Try.prog 79 #[.string s] w fun e w' => e = .returned (.tuple #[noW.val, .int .i64 3]) ∧ Below w.heap.size w w' := by
  have hX : Row (w.alloc (.cells #[.int .i64 0, .int .u64 0] 24)) w.heap.size 24 [.int .i64 0, .int .u64 0] := new_at rfl
  have hb : Below w.heap.size w (w.alloc (.cells #[.int .i64 0, .int .u64 0] 24)) := (Below.refl _ _).alloc (Nat.le_refl _) _
  have hd : ((s.size : Int) != 16) = true := by simp; omega
  go_enter Try.func79, Try.ntmps79
  go_wp2_with fail
  refine ret_row2 hX Try.results79 Try.underlying24 rfl (by kernel_rfl) rfl rfl ⟨rfl, hb⟩

set_option maxHeartbeats 1000000 in
theorem read_yes (l : List UInt8) (h : l.length = 16) (w : World) : Calls Try.prog 79 #[.string (bs l)] w fun e w' => e = .returned (.tuple #[(unW l).val, .int .i64 0]) ∧ Below w.heap.size w w' := by
  have hX : Row (w.alloc (.cells #[.int .i64 0, .int .u64 0] 24)) w.heap.size 24 [.int .i64 0, .int .u64 0] := new_at rfl
  have hb : Below w.heap.size w (w.alloc (.cells #[.int .i64 0, .int .u64 0] 24)) := (Below.refl _ _).alloc (Nat.le_refl _) _
  have hs : (bs l).size = 16 := h
  have x8 : (bs l).extract 0 8 = bs (l.take 8) := by rw [extract_take, bs_data]
  have xd : (bs l).extract 8 16 = bs (l.drop 8) := by rw [← hs, extract_drop, bs_data]
  have hu : (unW l).val = .agg #[.int .i64 (wrap64 (bev (l.take 8) : Int)), .int .u64 (bev (l.drop 8) : Int)] := rfl
  rw [hu]
  have G1 := Lib.hid (fun w => get_calls (l.take 8) w (by rw [List.length_take]; omega))
  have G2 := Lib.hid (fun w => get_calls (l.drop 8) w (by rw [List.length_drop]; omega))
  have l1 := bev_lt (l.take 8)
  have l2 := bev_lt (l.drop 8)
  clear hu h l1 l2
  generalize l.take 8 = p at *
  generalize l.drop 8 = q at *
  have hw : IntKind.i64.wrap (bev p : Int) = wrap64 (bev p : Int) := by rw [IntKind.wrap_i64]; unfold wrap64; omega
  rw [← hw]
  have X := Lib.hid hX
  have B := Lib.hid hb
  clear hX hb hw
  go_enter Try.func79, Try.ntmps79
  go_wp2_with fail
  have X1 := Lib.hid X.out.drew
  have B1 := Lib.hid B.out.drew
  clear X B
  generalize (w.alloc (.cells #[.int .i64 0, .int .u64 0] 24)) = w0 at *
  go_region_with ((first
    | (go_at_call 132; (with_reducible refine (G1.out _).mono ?_); rintro e w1 ⟨rfl, h1⟩; have X2 := Lib.hid (X1.out.below h1 X1.out.lt); have B2 := Lib.hid (B1.out.trans (h1.mono B1.out.size)); clear h1 X1 B1)
    | (go_at_call 132; (with_reducible refine (G2.out _).mono ?_); rintro e w2 ⟨rfl, h2⟩; have X3 := X2.out.below h2 X2.out.lt; have B3 := Lib.hid (B2.out.trans (h2.mono B2.out.size)); have c0 := X3.cell (i := 0) rfl; have c1 := X3.cell (i := 1) rfl; have f0 := X3.frozen 0 (by simp); have f1 := X3.frozen 1 (by simp); clear h2 X2 B2)))
  have R5 := (X3.set 0 (.int .i64 (IntKind.i64.wrap (bev p : Int)))).set 1 (.int .u64 (bev q : Int))
  have B5 := (B3.out.setCell (Nat.le_refl _) (p := ⟨w.heap.size, 0, none⟩) (.int .i64 (IntKind.i64.wrap (bev p : Int)))).setCell (Nat.le_refl _) (p := ⟨w.heap.size, 1, none⟩) (.int .u64 (bev q : Int))
  go_wp2_with fail
  exact ret_row2 (R5.cast rfl) Try.results79 Try.underlying24 rfl (by kernel_rfl) rfl rfl ⟨rfl, B5⟩

theorem readOut (s : ByteArray) (w : World) : Calls Try.prog 79 #[.string s] w fun e w' => e = .returned (.tuple #[(if s.size = 16 then unW s.data.toList else noW).val, .int .i64 (if s.size = 16 then 0 else 3)]) ∧ Below w.heap.size w w' := by
  by_cases h : s.size = 16
  · rw [if_pos h, if_pos h]
    have := read_yes s.data.toList h w
    rwa [bs_of] at this
  · rw [if_neg h, if_neg h]
    exact read_no s h w

theorem add_run (x y : Int) (hx : 0 ≤ x) (hx2 : x ≤ 18446744073709551615) (hy : 0 ≤ y) (hy2 : y ≤ 18446744073709551615) (w : World) :
    (callFunc 127 #[.int .u64 x, .int .u64 y, .int .u64 0]).run Try.prog w = .ok (.value (.tuple #[.int .u64 ((x + y) % 18446744073709551616), .int .u64 ((x + y) / 18446744073709551616)])) w := by
  rw [run_callFunc_extern Try.func127 (by kernel_rfl) (by kernel_rfl) (by kernel_rfl) (e := add64Entry) (by kernel_rfl), run_add64 x y 0 hx hy (by omega) (by omega)]
  simp only [Result.andThen, Int.add_zero]

set_option maxHeartbeats 1000000 in
theorem add_calls (a b : Wd) (ha : a.fits) (hb : b.fits) (w : World) : Calls Try.prog 75 #[a.val, b.val] w fun e w' => e = .returned (a.add b).val ∧ Below w.heap.size w w' := by
  obtain ⟨h1, l1⟩ := a
  obtain ⟨h2, l2⟩ := b
  obtain ⟨a1, a2, a3, a4⟩ := ha
  obtain ⟨b1, b2, b3, b4⟩ := hb
  simp only at a1 a2 a3 a4 b1 b2 b3 b4
  have hv : (Wd.add ⟨h1, l1⟩ ⟨h2, l2⟩).val = .agg #[.int .i64 (wrap64 (h1 + h2 + (l1 + l2) / 18446744073709551616)), .int .u64 ((l1 + l2) % 18446744073709551616)] := rfl
  rw [hv]
  have hrun := add_run l1 l2 a3 a4 b3 b4
  show Calls Try.prog 75 #[.agg #[.int .i64 h1, .int .u64 l1], .agg #[.int .i64 h2, .int .u64 l2]] w _
  have hd1 : 0 ≤ (l1 + l2) / 18446744073709551616 := by omega
  have hd2 : (l1 + l2) / 18446744073709551616 ≤ 1 := by omega
  clear hv a3 a4 b3 b4
  go_enter Try.func75, Try.ntmps75
  go_wp2_with fail
  have R5 : Row (((w.alloc (.cells #[.int .i64 h1, .int .u64 l1] 24)).alloc (.cells #[.int .i64 h2, .int .u64 l2] 24)).alloc (.cells #[.int .i64 (wrap64 (wrap64 (h1 + h2) + (l1 + l2) / 18446744073709551616)), .int .u64 ((l1 + l2) % 18446744073709551616)] 24)) (w.heap.size + 1 + 1) 24 [.int .i64 (wrap64 (wrap64 (h1 + h2) + (l1 + l2) / 18446744073709551616)), .int .u64 ((l1 + l2) % 18446744073709551616)] := new_at (by simp)
  refine ret_row R5 Try.results75 Try.underlying24 rfl (by kernel_rfl) rfl rfl ⟨?_, (((Below.refl _ _).alloc (Nat.le_refl _) _).alloc (by simp) _).alloc (by simp; omega) _⟩
  have e : wrap64 (wrap64 (h1 + h2) + (l1 + l2) / 18446744073709551616) = wrap64 (h1 + h2 + (l1 + l2) / 18446744073709551616) := by unfold wrap64; omega
  rw [e]
end Go.Proofs.Ytcfjooeagfollaa.Wide
