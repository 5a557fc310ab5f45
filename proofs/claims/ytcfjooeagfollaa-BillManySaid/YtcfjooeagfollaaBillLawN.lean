/- The law BillMany: a script has at most so many moves. -/
import Derived.Test.YtcfjooeagfollaaBillA
namespace Go.Proofs.Ytcfjooeagfollaa.Bill
open Go.RowKit Go.Proofs.Ytcfjooeagfollaa.Mem Go.Proofs.Ytcfjooeagfollaa.Bytes Go.Proofs.Ytcfjooeagfollaa.Num Go.Proofs.Ytcfjooeagfollaa.Sign
set_option linter.unusedSimpArgs false
set_option linter.unusedVariables false
set_option maxRecDepth 20000

theorem only_good {k : Int} (h0 : 5 ≤ k) (h1 : k ≤ 7) : (Mv.only k).good = true ∧ (Mv.only k).bytes = [oneB k] ∧ (Mv.only k).fits := by
  have hk : k = 5 ∨ k = 6 ∨ k = 7 := by omega
  rcases hk with rfl | rfl | rfl
  all_goals exact ⟨(good_iff _).2 ⟨by decide, rfl, rfl, rfl, ⟨rfl, rfl, rfl, rfl, rfl, rfl, rfl, rfl⟩, rfl, rfl⟩, by decide, noW_fits, i64_zero, i64_zero⟩
theorem many_flat {k : Int} (h0 : 5 ≤ k) (h1 : k ≤ 7) : ∀ n, (List.replicate n (Mv.only k)).flatMap Mv.bytes = List.replicate n (oneB k)
  | 0 => rfl
  | n + 1 => by rw [List.replicate_succ, List.flatMap_cons, many_flat h0 h1 n, (only_good h0 h1).2.1]; rfl
theorem many_out {k : Int} (h0 : 5 ≤ k) (h1 : k ≤ 7) (n : Nat) : bytesOut (List.replicate n (Mv.only k)) = if n ≤ 400 then (List.replicate n (oneB k), 0) else ([], 1) := by
  unfold bytesOut
  rw [many_flat h0 h1, List.length_replicate]
  by_cases c : n ≤ 400
  · rw [if_pos c, if_pos ⟨c, fun m hm => by rw [(List.mem_replicate.1 hm).2]; exact (only_good h0 h1).1⟩]
  · rw [if_neg c, if_neg (fun h => c h.1)]
theorem many_read {k : Int} (h0 : 5 ≤ k) (h1 : k ≤ 7) (n : Nat) : (rd 400 (List.replicate n (oneB k))).1.length = min n 400 ∧ (rd 400 (List.replicate n (oneB k))).2.length + min n 400 = n := by
  have e : List.replicate n (oneB k) = (List.replicate (min n 400) (Mv.only k)).flatMap Mv.bytes ++ List.replicate (n - min n 400) (oneB k) := by
    rw [many_flat h0 h1, List.replicate_append_replicate]
    congr 1
    omega
  have hz : rd (400 - min n 400) (List.replicate (n - min n 400) (oneB k)) = ([], List.replicate (n - min n 400) (oneB k)) := by
    by_cases c : n ≤ 400
    · rw [show n - min n 400 = 0 by omega]
      exact rd_nil _
    · rw [show 400 - min n 400 = 0 by omega]
      rfl
  rw [e, rd_app _ 400 _ (fun m hm => by rw [(List.mem_replicate.1 hm).2]; exact ⟨(only_good h0 h1).1, (only_good h0 h1).2.2⟩) (by rw [List.length_replicate]; omega), List.length_replicate, hz]
  exact ⟨by simp, by simp; omega⟩
set_option maxHeartbeats 8000000 in
theorem many_calls (n kind : Int) (w : World) : Calls Try.prog 9 #[.int .i64 n, .int .i64 kind] w fun e w' => e = .returned (.bool true) ∧ Below w.heap.size w w' := by
  obtain ⟨k, hk, hlt⟩ := idx_mod n 410 (by omega) (by omega)
  obtain ⟨j, hj, hjl⟩ := idx_mod kind 3 (by omega) (by omega)
  obtain ⟨c, hc⟩ : ∃ c : Int, 5 + (j : Int) = c := ⟨_, rfl⟩
  have c5 : 5 ≤ c := by omega
  have c7 : c ≤ 7 := by omega
  have hob : ((oneB c).toNat : Int) = c := by rw [← oneB_mod]; simp only [IntKind.wrap, IntKind.bits, IntKind.signed]; simp; omega
  have hby : IntKind.u8.wrap c = c := by rw [oneB_mod, hob]
  have hby2 : c % 256 = c := by omega
  have HOB := Lib.hid hob
  clear hob
  have AW := Lib.hid awake_calls
  have MO := Lib.hid (many_out c5 c7 k)
  have MR := Lib.hid (many_read c5 c7 k)
  have hmin : ∀ W, (Builtin.min_ #[3, 3] 3 #[.int .i64 (k : Int), .int .i64 400]).run Try.prog W = .ok (.int .i64 ((min k 400 : Nat) : Int)) W := fun W => run_min2 _ _ k 400 W
  go_enter Try.func9, Try.ntmps9
  go_wp2_with fail
  refine (AW.out _).mono ?_
  rintro e w1 ⟨rfl, k1⟩
  have B := Lib.hid k1
  clear k1 AW
  have X0 := Lib.hid (Row.new w1 94 [.int .i64 0, .int .i64 0, .int .i64 0, .int .i64 0, .int .i64 0, .int .i64 0, .int .i64 0, .string ⟨#[]⟩, .int .i64 0, .int .i64 0, .string ⟨#[]⟩, .slice none 0 0, .int .i64 0, .int .i64 0, .int .i64 0, .string ⟨#[]⟩, .int .i64 0, .int .i64 0, .int .i64 0])
  have BA := Lib.hid (B.out.alloc B.out.size (.cells #[.int .i64 0, .int .i64 0, .int .i64 0, .int .i64 0, .int .i64 0, .int .i64 0, .int .i64 0, .string ⟨#[]⟩, .int .i64 0, .int .i64 0, .string ⟨#[]⟩, .slice none 0 0, .int .i64 0, .int .i64 0, .int .i64 0, .string ⟨#[]⟩, .int .i64 0, .int .i64 0, .int .i64 0] 94))
  go_wp2_with (refine store_row X0.out (Mv.only c).cells 94 (by kernel_rfl) rfl (mcells_one _) rfl rfl rfl rfl ?_; intro w2 h2 k2 z2; have X := Lib.hid h2; have B2 := Lib.hid (BA.out.trans (k2.below (B := w.heap.size) BA.out.size (fun k e => by have e : k = w1.heap.size := e; have := B.out.size; omega))); clear h2 k2 z2)
  have XL := Lib.hid X.out.lt
  have hO : (w2.alloc (.cells #[] 94)).ownsRow (w1.heap.size + 1) 94 19 (.slice (some ⟨w2.heap.size, 0, none⟩) 0 0) 0 ((List.replicate 0 (Mv.only c)).flatMap Mv.cells) :=
    ⟨rfl, .inr ⟨w2.heap.size, 0, #[], rfl, XL.out, by show (w2.heap.push _)[w2.heap.size]? = _; rw [Array.getElem?_push, if_pos rfl], Nat.le_refl _, by decide, rfl, rfl⟩⟩
  have O := Lib.hid hO
  have X3 := Lib.hid (X.out.alloc (.cells #[] 94))
  have B3 := Lib.hid (B2.out.alloc B2.out.size (.cells #[] 94))
  have HW := Lib.hid B.out.size
  clear hO X X0 BA B B2 XL hk hj hc
  generalize w1.heap.size = xb at *
  go_loopw [7, 8, 9] (fun l s i wr => ∃ a : Nat, a ≤ k ∧ i = .int .i64 (a : Int) ∧ s = .string (bs (List.replicate a (oneB c))) ∧ Row wr xb 94 (Mv.only c).cells ∧ wr.ownsRow (xb + 1) 94 19 l a ((List.replicate a (Mv.only c)).flatMap Mv.cells) ∧ Below w.heap.size w wr) (fun l s i _ => k - (intOf i).toNat)
  case atStart => exact ⟨0, by omega, rfl, rfl, X3.out, O.out, B3.out⟩
  case round =>
    clear O X3 B3
    obtain ⟨a, hak, rfl, rfl, hX, hO, hB⟩ := hrel
    have X := Lib.hid hX
    have O := Lib.hid hO
    have B := Lib.hid hB
    clear hX hO hB
    obtain ⟨oa, ocap, rfl, _⟩ := Reel.own_shape O.out
    have hbsz : (bs (List.replicate a (oneB c))).size ≤ 410 := by rw [bs_size, List.length_replicate]; omega
    by_cases hlt2 : a < k
    · have hlt3 : (a : Int) < (k : Int) := by omega
      have hq : ¬ 9223372036854775807 < (bs (List.replicate a (oneB c))).size + (bs [oneB c]).size := by rw [bs_size [oneB c]]; simp; omega
      have XL := Lib.hid X.out.lt
      have CV := Lib.hid (fun (w5 : World) => show (convert 112 9 (.slice (some ⟨w5.heap.size, 0, none⟩) 1 1)).run Try.prog (w5.alloc (.cells #[.int .u8 c] 5)) = .ok (.string (bs [oneB c])) (w5.alloc (.cells #[.int .u8 c] 5)) from run_string_row (P := Try.prog) (l := [oneB c]) (r := []) (w := w5.alloc (.cells #[.int .u8 c] 5)) (b := w5.heap.size) (e' := 5) ((Row.new w5 5 [.int .u8 c]).cast (by simp [bv, HOB.out])) Try.underlying112 Try.underlying5 Try.underlying9 1)
      go_wp2_with (first | (refine load_row X.out 94 Try.underlying94 rfl (by kernel_rfl) rfl rfl rfl ?_) | (refine build_mv (Mv.only c) rfl _ rfl rfl ?_) | (refine app1_at (news := (Mv.only c).cells) O.out XL.out 87 Try.underlying87 info_mv mv_size (by decide) (by decide) (by omega) rfl (mcells_one _) rfl rfl rfl rfl ?_; intro v' w5 O5 G5 A5; have C5 := Lib.hid (chg_grown (S := fun k => (Value.slice oa a ocap).ownBlock = some k) G5 (fun k h => h)); have X5 := Lib.hid (X.out.chg C5.out (fun e => by have := (O.out.lt xb e).1; omega)); have B5 := Lib.hid (B.out.trans (C5.out.below (B := w.heap.size) B.out.size (fun k e => by have := (O.out.lt k e).1; have := HW.out; omega))); have O5' := Lib.hid O5; clear O5 G5 A5; have x0 : w5.cell? ⟨xb, 0, none⟩ = some (.int .i64 c) := X5.out.cell (i := 0) rfl; have cv := CV.out w5))
      clear x0 cv
      have OF := Lib.hid (own_below O5'.out (((Below.refl _ _).alloc (Nat.le_refl _) (.cells #[.int .u8 c] 5))))
      refine ⟨⟨a + 1, by omega, by go_num, ?_, X5.out.alloc _, ?_, B5.out.alloc B5.out.size _⟩, by simp [intOf]; omega⟩
      · rw [bs_append, List.replicate_succ']
      · rw [List.replicate_succ', List.flatMap_append]
        simpa using OF.out
    · obtain rfl : a = k := by omega
      obtain ⟨ea, ecap, he, _, hEls, _⟩ := els_own (enc := Mv.cells) (fun x => rfl) O.out (by rw [List.length_replicate])
      cases he
      have BC := bytes_calls (List.replicate a (Mv.only c)) oa ocap wr hEls (fun m hm => by rw [(List.mem_replicate.1 hm).2]; exact ⟨Vs.nil _ _, noW_fits, Nat.zero_le _⟩) (by rw [List.length_replicate]; omega)
      rw [MO.out, List.length_replicate] at BC
      have RC := Lib.hid (fun wx => read_calls (bs (List.replicate a (oneB c))) wx (by omega))
      have hd : (bs (List.replicate a (oneB c))).data.toList = List.replicate a (oneB c) := rfl
      rw [hd, show (bs (List.replicate a (oneB c))).size = a from by rw [bs_size, List.length_replicate]] at RC
      obtain ⟨R, hR⟩ : ∃ R, rd 400 (List.replicate a (oneB c)) = R := ⟨_, rfl⟩
      rw [hR] at RC MR
      clear hd hR hEls O X
      obtain ⟨m1, m2⟩ := MR.out
      by_cases c4 : a ≤ 400
      · rw [if_pos c4] at BC
        have BCH := Lib.hid BC
        clear BC
        go_wp2_with fail
        refine BCH.out.mono ?_
        rintro e w6 ⟨rfl, k6⟩
        have B6 := Lib.hid (B.out.trans (k6.mono B.out.size))
        clear k6 BCH
        go_wp2_with fail
        refine (RC.out _).mono ?_
        rintro e w7 ⟨⟨ls, la, lcap, rfl, _, _, hst, hn7⟩, k7⟩
        have B7 := Lib.hid (B6.out.trans (k7.mono B6.out.size))
        have hll : ls.length = min a 400 := by rw [← m1, ← hst, List.length_map]
        have d1 : ((ls.length : Int) != ((min a 400 : Nat) : Int)) = false := by rw [hll]; simp
        have d2 : (((a : Int) - (R.2.length : Int)) != (ls.length : Int)) = false := by rw [hll]; simp; omega
        have d4 : ((ls.length : Int) != (a : Int)) = false := by rw [hll]; simp; omega
        have d5 : ls.length = a := by rw [hll]; omega
        have d6 : ((ls.length : Int) = (a : Int)) := by omega
        have d3 : decide ((400 : Int) < (a : Int)) = false := by simp; omega
        have D6 := Lib.hid d6
        clear hst hn7 k7 hll RC m1 m2 d5 d6
        go_wp2_with fail
        all_goals first | (go_ret; exact ⟨rfl, B7.out⟩) | exact absurd D6.out (by assumption)
      · rw [if_neg c4] at BC
        have BCH := Lib.hid BC
        clear BC
        go_wp2_with fail
        refine BCH.out.mono ?_
        rintro e w6 ⟨rfl, k6⟩
        have B6 := Lib.hid (B.out.trans (k6.mono B.out.size))
        clear k6 BCH
        go_wp2_with fail
        refine (RC.out _).mono ?_
        rintro e w7 ⟨⟨ls, la, lcap, rfl, _, _, hst, hn7⟩, k7⟩
        have B7 := Lib.hid (B6.out.trans (k7.mono B6.out.size))
        have hll : ls.length = min a 400 := by rw [← m1, ← hst, List.length_map]
        have d1 : ((ls.length : Int) != ((min a 400 : Nat) : Int)) = false := by rw [hll]; simp
        have d2 : (((a : Int) - (R.2.length : Int)) != (ls.length : Int)) = false := by rw [hll]; simp; omega
        have d4 : ((ls.length : Int) != (400 : Int)) = false := by rw [hll]; simp; omega
        have d6 : ((ls.length : Int) = (400 : Int)) := by omega
        have d3 : (400 : Int) < (a : Int) := by omega
        have e0 : (bs ([] : List UInt8)).toList = [] := bs_toList []
        have D6 := Lib.hid d6
        clear hst hn7 k7 hll RC m1 m2 d6
        go_wp2_with fail
        all_goals first | (go_ret; exact ⟨rfl, B7.out⟩) | exact absurd D6.out (by assumption)
theorem many_row (n kind : Int) (W : World) (hn : (Lit.int .i64 n).wf = true) (hk : (Lit.int .i64 kind).wf = true) :
    Calls Try.prog 9 #[.int .i64 n, .int .i64 kind] W fun e w' => e = .returned (.bool true) ∧ Below W.heap.size W w' := many_calls n kind W
end Go.Proofs.Ytcfjooeagfollaa.Bill
