/- The document's modes, and the walk of ModeExact. -/
import Derived.Test.YtlcjiofdbalplaaModeLaw
import Derived.Test.YtlcjiofdbalplaaChg
import Derived.LoopTactic
namespace Go.Proofs.Ytlcjiofdbalplaa.Mode
open Go.RowKit Go.Proofs.Ytlcjiofdbalplaa.Mem
set_option linter.unusedSimpArgs false
set_option linter.unusedVariables false

def flat (l : List (Int × Int)) : List Value := l.flatMap fun p => [.int .i64 p.1, .int .i64 p.2]
theorem flat_length (l : List (Int × Int)) : (flat l).length = 2 * l.length := by
  induction l with
  | nil => rfl
  | cons p l ih => simp only [flat, List.flatMap_cons, List.length_append, List.length_cons, List.length_nil] at ih ⊢; omega
theorem flat_at (l : List (Int × Int)) : ∀ (k : Nat) (p : Int × Int), l[k]? = some p → (flat l)[k * 2]? = some (.int .i64 p.1) ∧ (flat l)[k * 2 + 1]? = some (.int .i64 p.2) := by
  induction l with
  | nil => intro k p h; simp at h
  | cons q l ih =>
    intro k p h
    rcases k with _ | k
    · simp at h
      subst h
      exact ⟨rfl, rfl⟩
    · have := ih k p (by simpa using h)
      rw [show (k + 1) * 2 = k * 2 + 1 + 1 from by omega]
      simpa [flat] using this

set_option maxHeartbeats 800000 in
theorem in_calls (l : List (Int × Int)) (B c : Nat) (e : TypeId) (a b : Int) (w : World) (h : Row w B e (flat l)) (hl : l.length ≤ 1000) :
    Calls Try.prog 41 #[.slice (some ⟨B, 0, none⟩) l.length c, .int .i64 a, .int .i64 b] w fun e w' => e = .returned (.bool (hasPair l a b)) ∧ w' = w := by
  go_enter Try.func41, Try.ntmps41
  go_wp2
  go_loop [7] (fun i => ∃ k : Nat, k ≤ l.length ∧ i = .int .i64 k ∧ hasPair (l.take k) a b = false) (fun i => l.length - (intOf i).toNat)
  case atStart => exact ⟨0, by omega, rfl, rfl⟩
  case round =>
    obtain ⟨k, hk, rfl, hn⟩ := hrel
    by_cases hlt : k < l.length
    · have hp : l[k]? = some l[k] := List.getElem?_eq_getElem hlt
      have hf := flat_at l k _ hp
      have c1 := h.cell hf.1
      have c2 := h.cell hf.2
      have hs : hasPair (l.take (k + 1)) a b = (l[k].1 == a && l[k].2 == b) := by
        rw [List.take_succ_eq_append_getElem hlt]
        unfold hasPair at hn ⊢
        rw [List.any_append, hn]
        simp
      have hall : (l[k].1 == a && l[k].2 == b) = true → hasPair l a b = true := by
        intro hq
        unfold hasPair
        rw [List.any_eq_true]
        exact ⟨l[k], List.getElem_mem hlt, hq⟩
      have HS := Lib.hid hs
      have HA := Lib.hid hall
      clear hs hf hp hn hall
      generalize l[k] = p at c1 c2 HS HA
      by_cases q1 : p.1 = a
      · have p1 := case_eq q1
        by_cases q2 : p.2 = b
        · have p2 := case_eq q2
          have ht : hasPair l a b = true := HA.out (by rw [p1, p2]; rfl)
          have HT := Lib.hid ht
          clear q1 q2 ht HS HA
          go_wp2
          go_ret
          exact ⟨ret_bool HT.out.symm, rfl⟩
        · have p2 := case_ne q2
          clear q1 q2
          go_wp2
          go_round
          case rel => exact ⟨k + 1, by omega, by go_num, by rw [HS.out, p1, p2]; rfl⟩
          case measure => simp [intOf]; omega
      · have p1 := case_ne q1
        clear q1
        go_wp2
        go_round
        case rel => exact ⟨k + 1, by omega, by go_num, by rw [HS.out, p1]; rfl⟩
        case measure => simp [intOf]; omega
    · obtain rfl : k = l.length := by omega
      rw [List.take_length] at hn
      have HN := Lib.hid hn
      clear hn
      go_wp2
      go_ret
      exact ⟨ret_bool HN.out.symm, rfl⟩

set_option maxHeartbeats 400000 in
theorem refgood_calls (a : Int) (w : World) : Calls Try.prog 31 #[.int .i64 a] w fun e w' => e = .returned (.bool (good a)) ∧ w' = w := by
  by_cases h : 1 ≤ a
  · go_enter Try.func31, Try.ntmps31
    go_wp2
    go_ret
    exact ⟨ret_bool (by simp [good, h]), rfl⟩
  · have h' : a < 1 := by omega
    have hg : good a = false := by simp [good, h]
    rw [hg]
    clear hg
    go_enter Try.func31, Try.ntmps31
    go_wp2
    go_ret
    exact ⟨rfl, rfl⟩

set_option maxHeartbeats 800000 in
theorem refgoes_calls (a b : Int) (w : World) : Calls Try.prog 33 #[.int .i64 a, .int .i64 b] w fun e w' => e = .returned (.bool (goes a b)) ∧ Below w.heap.size w w' := by
  have hr : Row (w.alloc (.cells (flat goesL).toArray 55)) w.heap.size 55 (flat goesL) := Row.new _ _ _
  have hb : Below w.heap.size w (w.alloc (.cells (flat goesL).toArray 55)) := (Below.refl _ _).alloc (Nat.le_refl _) _
  unfold goes
  cases ha : hasPair goesL a b with
  | true =>
    go_enter Try.func33, Try.ntmps33
    go_wp2_with fail
    refine (in_calls goesL _ 10 _ a b _ hr (by decide)).mono ?_
    rintro e w' ⟨rfl, rfl⟩
    go_wp2
    go_ret
    exact ⟨rfl, hb⟩
  | false =>
    go_enter Try.func33, Try.ntmps33
    go_wp2_with fail
    refine (in_calls goesL _ 10 _ a b _ hr (by decide)).mono ?_
    rintro e w' ⟨rfl, rfl⟩
    go_wp2_with fail
    refine (in_calls goesL _ 10 _ b a _ hr (by decide)).mono ?_
    rintro e w' ⟨rfl, rfl⟩
    go_wp2
    go_ret
    exact ⟨rfl, hb⟩

set_option maxHeartbeats 800000 in
theorem refcovers_calls (a b : Int) (w : World) : Calls Try.prog 35 #[.int .i64 a, .int .i64 b] w fun e w' => e = .returned (.bool (covers a b)) ∧ Below w.heap.size w w' := by
  have hr : Row (w.alloc (.cells (flat coversL).toArray 55)) w.heap.size 55 (flat coversL) := Row.new _ _ _
  have hb : Below w.heap.size w (w.alloc (.cells (flat coversL).toArray 55)) := (Below.refl _ _).alloc (Nat.le_refl _) _
  unfold covers
  cases hg : good a with
  | true =>
    by_cases hq : a = b
    · have he := case_eq hq
      rw [he]
      clear hq
      go_enter Try.func35, Try.ntmps35
      go_wp2_with fail
      refine (refgood_calls _ _).mono ?_
      rintro e w' ⟨rfl, rfl⟩
      go_wp2
      go_ret
      exact ⟨rfl, hb⟩
    · have he := case_ne hq
      rw [he]
      clear hq
      go_enter Try.func35, Try.ntmps35
      go_wp2_with fail
      refine (refgood_calls _ _).mono ?_
      rintro e w' ⟨rfl, rfl⟩
      go_wp2_with fail
      refine (in_calls coversL _ 11 _ a b _ hr (by decide)).mono ?_
      rintro e w' ⟨rfl, rfl⟩
      go_wp2
      go_ret
      exact ⟨rfl, hb⟩
  | false =>
    rw [Bool.false_and, Bool.false_or]
    go_enter Try.func35, Try.ntmps35
    go_wp2_with fail
    refine (refgood_calls _ _).mono ?_
    rintro e w' ⟨rfl, rfl⟩
    go_wp2_with fail
    refine (in_calls coversL _ 11 _ a b _ hr (by decide)).mono ?_
    rintro e w' ⟨rfl, rfl⟩
    go_wp2
    go_ret
    exact ⟨rfl, hb⟩

/-- The document's way to join: the first c that is least. -/
def findFrom (a b : Int) (l : List Int) : Int := (l.find? fun c => covers c a && covers c b && isLeast a b c).getD 0
/-- c is below d, or d isn't above both. -/
def okAt (a b c d : Int) : Bool := !(covers d a && covers d b && !covers d c)
def leastTo (a b c : Int) (q : Nat) : Bool := (nine.take q).all (okAt a b c)
theorem least_nine (a b c : Int) : leastTo a b c 9 = isLeast a b c := rfl
theorem least_snoc (a b c : Int) (q : Nat) (h : q < 9) : leastTo a b c (q + 1) = (leastTo a b c q && okAt a b c ((q : Int) + 1)) := by
  rcases (by omega : q = 0 ∨ q = 1 ∨ q = 2 ∨ q = 3 ∨ q = 4 ∨ q = 5 ∨ q = 6 ∨ q = 7 ∨ q = 8) with rfl | rfl | rfl | rfl | rfl | rfl | rfl | rfl | rfl <;> (simp only [leastTo, nine, List.take, List.all_cons, List.all_nil, Bool.and_true, Bool.and_assoc]; rfl)
theorem nine_at (k : Nat) (h : k < 9) : nine.drop k = ((k : Int) + 1) :: nine.drop (k + 1) := by
  rcases (by omega : k = 0 ∨ k = 1 ∨ k = 2 ∨ k = 3 ∨ k = 4 ∨ k = 5 ∨ k = 6 ∨ k = 7 ∨ k = 8) with rfl | rfl | rfl | rfl | rfl | rfl | rfl | rfl | rfl <;> rfl

set_option maxHeartbeats 3200000 in
theorem refjoin_calls (a b : Int) (w : World) : Calls Try.prog 37 #[.int .i64 a, .int .i64 b] w fun e w' => e = .returned (.int .i64 (join a b)) ∧ Below w.heap.size w w' := by
  go_enter Try.func37, Try.ntmps37
  go_wp2
  go_loopw [5] (fun i wr => ∃ k : Nat, k ≤ 9 ∧ i = .int .i64 ((k : Int) + 1) ∧ join a b = findFrom a b (nine.drop k) ∧ Below w.heap.size w wr) (fun i _ => 10 - (intOf i).toNat)
  case atStart => exact ⟨0, by omega, rfl, rfl, Below.refl _ _⟩
  case round =>
    obtain ⟨k, hk, rfl, hj, hb⟩ := hrel
    have HJ := Lib.hid hj
    clear hj
    by_cases hlt : k < 9
    · have hstep : findFrom a b (nine.drop k) = if covers ((k : Int) + 1) a && covers ((k : Int) + 1) b && isLeast a b ((k : Int) + 1) then (k : Int) + 1 else findFrom a b (nine.drop (k + 1)) := by
        rw [nine_at k hlt]
        unfold findFrom
        rw [List.find?_cons]
        split <;> simp_all
      have HST := Lib.hid hstep
      clear hstep
      cases ca : covers ((k : Int) + 1) a with
      | false =>
        have HCA := Lib.hid ca
        go_wp2_with (go_at_call 35; refine (refcovers_calls _ _ _).mono ?_; rintro e w' ⟨rfl, hb2⟩; replace hb := below_next hb hb2 (Nat.le_refl _); clear hb2)
        go_roundw
        case rel => exact ⟨k + 1, by omega, by go_num, by rw [HJ.out, HST.out, HCA.out]; rfl, hb⟩
        case measure => simp [intOf]; omega
      | true =>
        cases cb : covers ((k : Int) + 1) b with
        | false =>
          have HCA := Lib.hid ca
          have HCB := Lib.hid cb
          go_wp2_with (go_at_call 35; refine (refcovers_calls _ _ _).mono ?_; rintro e w' ⟨rfl, hb2⟩; replace hb := below_next hb hb2 (Nat.le_refl _); clear hb2)
          go_roundw
          case rel => exact ⟨k + 1, by omega, by go_num, by rw [HJ.out, HST.out, HCA.out, HCB.out]; rfl, hb⟩
          case measure => simp [intOf]; omega
        | true =>
          have HCA := Lib.hid ca
          have HCB := Lib.hid cb
          go_wp2_with (go_at_call 35; refine (refcovers_calls _ _ _).mono ?_; rintro e w' ⟨rfl, hb2⟩; replace hb := below_next hb hb2 (Nat.le_refl _); clear hb2)
          go_loopw [6, 7] (fun v i wr => ∃ q : Nat, q ≤ 9 ∧ i = .int .i64 ((q : Int) + 1) ∧ v = .bool (leastTo a b ((k : Int) + 1) q) ∧ Below w.heap.size w wr) (fun _ i _ => 10 - (intOf i).toNat)
          case atStart => exact ⟨0, by omega, rfl, rfl, hb⟩
          case round =>
            clear hb
            obtain ⟨q, hq, rfl, rfl, hb⟩ := hrel
            by_cases hlq : q < 9
            · have HSN := Lib.hid (least_snoc a b ((k : Int) + 1) q hlq)
              cases da : covers ((q : Int) + 1) a with
              | false =>
                go_wp2_with (go_at_call 35; refine (refcovers_calls _ _ _).mono ?_; rintro e w' ⟨rfl, hb2⟩; replace hb := below_next hb hb2 (Nat.le_refl _); clear hb2)
                go_roundw
                case rel => exact ⟨q + 1, by omega, by go_num, by rw [HSN.out]; simp only [okAt, da, Bool.true_and, Bool.false_and, Bool.and_true, Bool.and_false, Bool.not_true, Bool.not_false], hb⟩
                case measure => simp [intOf]; omega
              | true =>
                cases db : covers ((q : Int) + 1) b with
                | false =>
                  go_wp2_with (go_at_call 35; refine (refcovers_calls _ _ _).mono ?_; rintro e w' ⟨rfl, hb2⟩; replace hb := below_next hb hb2 (Nat.le_refl _); clear hb2)
                  go_roundw
                  case rel => exact ⟨q + 1, by omega, by go_num, by rw [HSN.out]; simp only [okAt, da, db, Bool.true_and, Bool.false_and, Bool.and_true, Bool.and_false, Bool.not_true, Bool.not_false], hb⟩
                  case measure => simp [intOf]; omega
                | true =>
                  cases dc : covers ((q : Int) + 1) ((k : Int) + 1) with
                  | false =>
                    go_wp2_with (go_at_call 35; refine (refcovers_calls _ _ _).mono ?_; rintro e w' ⟨rfl, hb2⟩; replace hb := below_next hb hb2 (Nat.le_refl _); clear hb2)
                    go_roundw
                    case rel => exact ⟨q + 1, by omega, by go_num, by rw [HSN.out]; simp only [okAt, da, db, dc, Bool.true_and, Bool.false_and, Bool.and_true, Bool.and_false, Bool.not_true, Bool.not_false], hb⟩
                    case measure => simp [intOf]; omega
                  | true =>
                    go_wp2_with (go_at_call 35; refine (refcovers_calls _ _ _).mono ?_; rintro e w' ⟨rfl, hb2⟩; replace hb := below_next hb hb2 (Nat.le_refl _); clear hb2)
                    go_roundw
                    case rel => exact ⟨q + 1, by omega, by go_num, by rw [HSN.out]; simp only [okAt, da, db, dc, Bool.true_and, Bool.false_and, Bool.and_true, Bool.and_false, Bool.not_true, Bool.not_false], hb⟩
                    case measure => simp [intOf]; omega
            · obtain rfl : q = 9 := by omega
              have HL := Lib.hid (least_nine a b ((k : Int) + 1))
              go_wp2
              all_goals first
                | (go_ret; exact ⟨ret_int (by rw [HJ.out, HST.out, HCA.out, HCB.out, ← HL.out, (by assumption : leastTo a b ((k : Int) + 1) 9 = true)]; rfl), hb⟩)
                | exact ⟨⟨k + 1, by omega, by go_num, by rw [HJ.out, HST.out, HCA.out, HCB.out, ← HL.out, (by assumption : leastTo a b ((k : Int) + 1) 9 = false)]; rfl, hb⟩, by simp [intOf]; omega⟩
    · obtain rfl : k = 9 := by omega
      go_wp2
      go_ret
      exact ⟨ret_int (by rw [HJ.out]; rfl), hb⟩

set_option maxHeartbeats 1600000 in
theorem modeexact_row (a b : Int) (w : World) (_ : (Lit.int .i64 a).wf = true) (_ : (Lit.int .i64 b).wf = true) :
    Calls Try.prog 9 #[.int .i64 a, .int .i64 b] w fun e w' => e = .returned (.bool true) ∧ Below w.heap.size w w' := by
  have hb := Below.refl w.heap.size w
  go_enter Try.func9, Try.ntmps9
  go_wp2_with (first | (go_at_call 29; refine (awake_calls _).mono ?_; rintro e w' ⟨rfl, rfl⟩) | (go_at_call 30; refine (good_calls _ _).mono ?_; rintro e w' ⟨rfl, rfl⟩) | (go_at_call 32; refine (goes_calls _ _ _).mono ?_; rintro e w' ⟨rfl, rfl⟩) | (go_at_call 34; refine (covers_calls _ _ _).mono ?_; rintro e w' ⟨rfl, rfl⟩) | (go_at_call 36; refine (join_calls _ _ _).mono ?_; rintro e w' ⟨rfl, rfl⟩) | (go_at_call 31; refine (refgood_calls _ _).mono ?_; rintro e w' ⟨rfl, rfl⟩) | (go_at_call 33; refine (refgoes_calls _ _ _).mono ?_; rintro e w' ⟨rfl, hb2⟩; replace hb := below_next hb hb2 (Nat.le_refl _); clear hb2) | (go_at_call 35; refine (refcovers_calls _ _ _).mono ?_; rintro e w' ⟨rfl, hb2⟩; replace hb := below_next hb hb2 (Nat.le_refl _); clear hb2) | (go_at_call 37; refine (refjoin_calls _ _ _).mono ?_; rintro e w' ⟨rfl, hb2⟩; replace hb := below_next hb hb2 (Nat.le_refl _); clear hb2))
  go_ret
  exact ⟨rfl, hb⟩
end Go.Proofs.Ytlcjiofdbalplaa.Mode
