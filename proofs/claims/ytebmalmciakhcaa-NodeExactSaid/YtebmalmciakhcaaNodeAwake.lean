/- What the document fixes by number: gaugerlaw08.awake; great. -/
import Derived.Test.YtebmalmciakhcaaNodeChild
import Derived.Test.YtebmalmciakhcaaLexH
namespace Go.Proofs.Ytebmalmciakhcaa.Node
open Go.RowKit Go.Proofs.Ytebmalmciakhcaa.Mem Go.Proofs.Ytebmalmciakhcaa.Bytes Go.Proofs.Ytebmalmciakhcaa.Ord
set_option linter.unusedSimpArgs false
set_option linter.unusedVariables false

theorem noN_fits : noN.fits = true := by kernel_rfl
theorem noN_page : noN.page = List.replicate 252 0 := by kernel_rfl
theorem no_read : nRead [] = none := by
  unfold nRead
  rw [show Crc.opened [] = none from rfl]

set_option maxHeartbeats 400000 in
theorem awake_calls (w : World) : Calls Try.prog 8 #[] w fun e w' => e = .returned (.bool true) ∧ Below w.heap.size w w' := by
  have hab := fun w => bytes_calls noN none 0 w (Es.nil w none) (by show 0 ≤ _; omega)
  rw [bytesOut_ok noN_fits] at hab
  have hrs := fun w => read_calls (bs noN.bytes) w (by rw [bs_size, bytes_length noN_fits]; omega)
  rw [bs_data, (nRead_iff noN.bytes noN).2 ⟨noN_fits, rfl⟩] at hrs
  have hre := fun w => read_calls ⟨#[]⟩ w (by decide)
  rw [show (⟨#[]⟩ : ByteArray).data.toList = [] from rfl, no_read] at hre
  have hsz : (bs noN.bytes).size = 256 := by rw [bs_size, bytes_length noN_fits]
  have hpre : (bs noN.bytes).extract 0 252 = bs (List.replicate 252 0) := by
    rw [extract_take, bs_data]
    unfold Nd.bytes Crc.sealed
    rw [List.take_append_of_le_length (by rw [page_length noN_fits]; omega), List.take_of_length_le (by rw [page_length noN_fits]; omega), noN_page]
  generalize bs noN.bytes = S at *
  have AB : RowKit.Hid (∀ w, Calls Try.prog 12 #[.agg #[.int .i64 0, .int .i64 0, .int .i64 0, .bool false, .string ⟨#[]⟩, .int .i64 0, .slice none 0 0]] w fun e w' => e = .returned (.tuple #[.string S, .int .i64 0]) ∧ Below w.heap.size w w') := Lib.hid hab
  have RS := Lib.hid hrs
  have RE := Lib.hid hre
  have i256 : (252 : Int) ≤ (S.size : Int) := by omega
  have z256 : (S.size : Int) = 256 := by omega
  clear hab hrs hre hsz
  go_enter Try.func8, Try.ntmps8
  go_wp2_with fail
  refine (AB.out _).mono ?_
  rintro e w1 ⟨rfl, h1⟩
  go_wp2_with fail
  refine (RS.out _).mono ?_
  rintro e w2 ⟨a, cap, rfl, hes, h2⟩
  have B2 := Lib.hid (h1.trans (h2.mono h1.size))
  clear h1 h2 hes
  have hX : Row (w2.alloc (.cells #[.int .i64 0, .int .i64 0, .int .i64 0, .bool false, .string ⟨#[]⟩, .int .i64 0, .slice a 0 cap] 24)) w2.heap.size 24 [.int .i64 0, .int .i64 0, .int .i64 0, .bool false, .string ⟨#[]⟩, .int .i64 0, .slice a 0 cap] := new_at rfl
  replace B2 := Lib.hid (B2.out.alloc B2.out.size (.cells #[.int .i64 0, .int .i64 0, .int .i64 0, .bool false, .string ⟨#[]⟩, .int .i64 0, .slice a 0 cap] 24))
  have X := Lib.hid hX
  clear hX
  have hag : (.agg (noN.cells (.slice a noN.list.length cap)).toArray : Value) = .agg #[.int .i64 0, .int .i64 0, .int .i64 0, .bool false, .string ⟨#[]⟩, .int .i64 0, .slice a 0 cap] := rfl
  rw [hag]
  clear hag
  go_wp2_with fail
  refine (RE.out _).mono ?_
  rintro e w3 ⟨rfl, h3⟩
  replace B2 := Lib.hid ((B2.out.trans (h3.mono B2.out.size)).alloc (B2.out.trans (h3.mono B2.out.size)).size (.cells #[.int .i64 0, .int .i64 0, .int .i64 0, .bool false, .string ⟨#[]⟩, .int .i64 0, .slice none 0 0] 24))
  replace X := Lib.hid ((X.out.below h3 X.out.lt).alloc (.cells #[.int .i64 0, .int .i64 0, .int .i64 0, .bool false, .string ⟨#[]⟩, .int .i64 0, .slice none 0 0] 24))
  clear h3
  go_wp2_with fail
  generalize w3.alloc (.cells #[.int .i64 0, .int .i64 0, .int .i64 0, .bool false, .string ⟨#[]⟩, .int .i64 0, .slice none 0 0] 24) = w5 at *
  have hlx := X.out.lt
  have hbb := Below.refl w5.heap.size w5
  have hle : w5.heap.size ≤ w5.heap.size := Nat.le_refl _
  have hrow : Row (w5.alloc (.cells (Array.replicate 252 (.int .u8 0)) 5)).drew w5.heap.size 5 ((List.replicate 252 (0 : UInt8)).map bv ++ []) := by
    have h0 := Row.new' w5 5 (Array.replicate 252 (.int .u8 0))
    refine h0.drew.cast ?_
    rw [List.append_nil, List.map_replicate, Array.toList_replicate]
    rfl
  have hcv := run_string_row (P := Try.prog) hrow Try.underlying41 Try.underlying5 Try.underlying9 252
  rw [List.length_replicate] at hcv
  have hmk : ∀ wx : World, (Instr.makeSlice 41 (.int .i64 252) (.int .i64 252)).run Try.prog wx = .ok (.slice (some ⟨wx.heap.size, 0, none⟩) 252 252) (wx.alloc (.cells (Array.replicate 252 (.int .u8 0)) 5)) := fun _ => by kernel_rfl
  generalize bs (List.replicate 252 0) = T at *
  generalize Array.replicate 252 (Value.int .u8 0) = Z at *
  have heq : (T.toList == T.toList) = true := beq_self_eq_true _
  have SM := Lib.hid (fun w => refsame_calls noN noN a none cap 0 w)
  clear hrow
  replace hbb : Below w5.heap.size w5 w5.drew := hbb.drew
  refine LexH.start (S := fun w' => w'.cell? ⟨w2.heap.size, 0, none⟩ = some (.int .i64 0) ∧ w'.cell? ⟨w2.heap.size, 1, none⟩ = some (.int .i64 0) ∧ w'.cell? ⟨w2.heap.size, 2, none⟩ = some (.int .i64 0) ∧ w'.cell? ⟨w2.heap.size, 3, none⟩ = some (.bool false) ∧ w'.cell? ⟨w2.heap.size, 4, none⟩ = some (.string ⟨#[]⟩) ∧ w'.cell? ⟨w2.heap.size, 5, none⟩ = some (.int .i64 0) ∧ w'.cell? ⟨w2.heap.size, 6, none⟩ = some (.slice a 0 cap)) (by kernel_rfl) ?_ (fun hHeld => ?_)
  · exact ⟨(X.out.below hbb hlx).cell rfl, (X.out.below hbb hlx).cell rfl, (X.out.below hbb hlx).cell rfl, (X.out.below hbb hlx).cell rfl, (X.out.below hbb hlx).cell rfl, (X.out.below hbb hlx).cell rfl, (X.out.below hbb hlx).cell rfl⟩
  iterate 10
      (refine LexH.take (v := ?_) (by kernel_rfl) (by kernel_rfl) (by kernel_rfl) (by kernel_rfl) (fun _ _ _ h => h) (by rfl) ?_ (by assumption) ?_
       rotate_left 1
       · (intro w hSw; (try dsimp only at hSw); go_simp; try with_reducible rfl)
       try simp only [Act.put, List.setIfInBounds_toArray, List.set_cons_zero, List.set_cons_succ])
  refine LexH.call (by kernel_rfl) (by kernel_rfl) (by rfl) (fun K hK => ?_)
  go_simp
  replace hbb : Below w5.heap.size w5 (w5.alloc (.cells Z 5)).drew := (Below.refl w5.heap.size w5 |>.alloc hle _).drew
  clear hHeld
  refine hK.out _ _ ?_ (fun hHeld => ?_)
  · exact ⟨(X.out.below hbb hlx).cell rfl, (X.out.below hbb hlx).cell rfl, (X.out.below hbb hlx).cell rfl, (X.out.below hbb hlx).cell rfl, (X.out.below hbb hlx).cell rfl, (X.out.below hbb hlx).cell rfl, (X.out.below hbb hlx).cell rfl⟩
  clear hK K
  try simp only [Act.put, List.setIfInBounds_toArray, List.set_cons_zero, List.set_cons_succ]
  refine LexH.call (by kernel_rfl) (by kernel_rfl) (by rfl) (fun K hK => ?_)
  go_simp
  refine hK.out _ _ ?_ (fun hHeld => ?_)
  · exact ⟨(X.out.below hbb hlx).cell rfl, (X.out.below hbb hlx).cell rfl, (X.out.below hbb hlx).cell rfl, (X.out.below hbb hlx).cell rfl, (X.out.below hbb hlx).cell rfl, (X.out.below hbb hlx).cell rfl, (X.out.below hbb hlx).cell rfl⟩
  clear hK K
  try simp only [Act.put, List.setIfInBounds_toArray, List.set_cons_zero, List.set_cons_succ]
  iterate 9
      (refine LexH.take (v := ?_) (by kernel_rfl) (by kernel_rfl) (by kernel_rfl) (by kernel_rfl) (fun _ _ _ h => h) (by rfl) ?_ (by assumption) ?_
       rotate_left 1
       · (intro w hSw; (try dsimp only at hSw); go_simp; try with_reducible rfl)
       try simp only [Act.put, List.setIfInBounds_toArray, List.set_cons_zero, List.set_cons_succ])
  refine LexH.call (by kernel_rfl) (by kernel_rfl) (by rfl) (fun K hK => ?_)
  go_simp
  go_at_call 19
  refine (SM.out _ (Es.nil _ _) (Es.nil _ _) (by decide) (by decide)).mono ?_
  rw [same_self]
  rintro e wy ⟨rfl, hb1⟩
  replace hbb := below_step hbb hb1 hle
  clear hb1 hHeld
  try go_wp2_with fail
  refine hK.out _ _ ?_ (fun hHeld => ?_)
  · exact ⟨(X.out.below hbb hlx).cell rfl, (X.out.below hbb hlx).cell rfl, (X.out.below hbb hlx).cell rfl, (X.out.below hbb hlx).cell rfl, (X.out.below hbb hlx).cell rfl, (X.out.below hbb hlx).cell rfl, (X.out.below hbb hlx).cell rfl⟩
  clear hK K
  try simp only [Act.put, List.setIfInBounds_toArray, List.set_cons_zero, List.set_cons_succ]
  iterate 6
      (refine LexH.take (v := ?_) (by kernel_rfl) (by kernel_rfl) (by kernel_rfl) (by kernel_rfl) (fun _ _ _ h => h) (by rfl) ?_ (by assumption) ?_
       rotate_left 1
       · (intro w hSw; (try dsimp only at hSw); go_simp; try with_reducible rfl)
       try simp only [Act.put, List.setIfInBounds_toArray, List.set_cons_zero, List.set_cons_succ])
  refine LexH.call (by kernel_rfl) (by kernel_rfl) (by rfl) (fun K hK => ?_)
  go_simp
  go_at_call 20
  refine (lead_calls _ _ _).mono ?_
  rintro e wy ⟨rfl, hb1⟩
  replace hbb := below_step hbb hb1 hle
  clear hb1 hHeld
  try go_wp2_with fail
  refine hK.out _ _ ?_ (fun hHeld => ?_)
  · exact ⟨(X.out.below hbb hlx).cell rfl, (X.out.below hbb hlx).cell rfl, (X.out.below hbb hlx).cell rfl, (X.out.below hbb hlx).cell rfl, (X.out.below hbb hlx).cell rfl, (X.out.below hbb hlx).cell rfl, (X.out.below hbb hlx).cell rfl⟩
  clear hK K
  try simp only [Act.put, List.setIfInBounds_toArray, List.set_cons_zero, List.set_cons_succ]
  refine LexH.call (by kernel_rfl) (by kernel_rfl) (by rfl) (fun K hK => ?_)
  go_simp
  go_at_call 21
  refine (child_calls ⟨⟨#[0, 0, 0, 0, 0, 0, 0, 0, 0]⟩, bs (leadV 300), false⟩ _ (by rw [bs_size]; decide)).mono ?_
  rw [lead_child]
  rintro e wy ⟨rfl, hb1⟩
  replace hbb := below_step hbb hb1 hle
  clear hb1 hHeld
  try go_wp2_with fail
  refine hK.out _ _ ?_ (fun hHeld => ?_)
  · exact ⟨(X.out.below hbb hlx).cell rfl, (X.out.below hbb hlx).cell rfl, (X.out.below hbb hlx).cell rfl, (X.out.below hbb hlx).cell rfl, (X.out.below hbb hlx).cell rfl, (X.out.below hbb hlx).cell rfl, (X.out.below hbb hlx).cell rfl⟩
  clear hK K
  try simp only [Act.put, List.setIfInBounds_toArray, List.set_cons_zero, List.set_cons_succ]
  iterate 4
      (refine LexH.take (v := ?_) (by kernel_rfl) (by kernel_rfl) (by kernel_rfl) (by kernel_rfl) (fun _ _ _ h => h) (by rfl) ?_ (by assumption) ?_
       rotate_left 1
       · (intro w hSw; (try dsimp only at hSw); go_simp; try with_reducible rfl)
       try simp only [Act.put, List.setIfInBounds_toArray, List.set_cons_zero, List.set_cons_succ])
  refine LexH.call (by kernel_rfl) (by kernel_rfl) (by rfl) (fun K hK => ?_)
  go_simp
  go_at_call 15
  refine (size_calls noN none 0 _ (Es.nil _ _) (by decide) (by simp [noN])).mono ?_
  rintro e wy ⟨rfl, hb1⟩
  replace hbb := below_step hbb hb1 hle
  clear hb1 hHeld
  try go_wp2_with fail
  refine hK.out _ _ ?_ (fun hHeld => ?_)
  · exact ⟨(X.out.below hbb hlx).cell rfl, (X.out.below hbb hlx).cell rfl, (X.out.below hbb hlx).cell rfl, (X.out.below hbb hlx).cell rfl, (X.out.below hbb hlx).cell rfl, (X.out.below hbb hlx).cell rfl, (X.out.below hbb hlx).cell rfl⟩
  clear hK K
  try simp only [Act.put, List.setIfInBounds_toArray, List.set_cons_zero, List.set_cons_succ]
  iterate 3
      (refine LexH.take (v := ?_) (by kernel_rfl) (by kernel_rfl) (by kernel_rfl) (by kernel_rfl) (fun _ _ _ h => h) (by rfl) ?_ (by assumption) ?_
       rotate_left 1
       · (intro w hSw; (try dsimp only at hSw); go_simp; try with_reducible rfl)
       try simp only [Act.put, List.setIfInBounds_toArray, List.set_cons_zero, List.set_cons_succ])
  refine LexH.done (by kernel_rfl) ?_
  all_goals
    go_wp2_with fail
    go_ret
    exact ⟨by rfl, B2.out.trans (hbb.mono B2.out.size)⟩
end Go.Proofs.Ytebmalmciakhcaa.Node
