/- gaugerref17.Total, IsNothing, Add. -/
import Derived.Test.YtcfjooeagfollaaBitR
import Derived.Test.YtcfjooeagfollaaPlanR
import Derived.Test.YtcfjooeagfollaaPlanA
namespace Go.Proofs.Ytcfjooeagfollaa.Plan
open Go.RowKit Go.Proofs.Ytcfjooeagfollaa.Mem Go.Proofs.Ytcfjooeagfollaa.Bytes Go.Proofs.Ytcfjooeagfollaa.Num Go.Proofs.Ytcfjooeagfollaa.Wide
set_option linter.unusedSimpArgs false
set_option linter.unusedVariables false
set_option maxRecDepth 20000

set_option maxHeartbeats 1000000 in
theorem rtotal_calls (t : Tot) (v : Value) (w : World) (h : HasT w v t) (h10 : t.sums.length ≤ 1000) : Calls Try.prog 15 #[v] w fun e w' => e = .returned (.string (bs t.code)) ∧ Below w.heap.size w w' := by
  obtain ⟨⟨a, cap, rfl, hE⟩, ⟨hf, hfs⟩, hl⟩ := h
  obtain ⟨⟨hi, lo⟩, l⟩ := t
  simp only at hE hf hfs hl h10
  have hX : Row (w.alloc (.cells #[.int .i64 hi, .int .u64 lo, .slice a l.length cap] 27)) w.heap.size 27 [.int .i64 hi, .int .u64 lo, .slice a l.length cap] := new_at rfl
  have hb : Below w.heap.size w (w.alloc (.cells #[.int .i64 hi, .int .u64 lo, .slice a l.length cap] 27)) := (Below.refl _ _).alloc (Nat.le_refl _) _
  show Calls Try.prog 15 #[.agg #[.int .i64 hi, .int .u64 lo, .slice a l.length cap]] w _
  have CO := Lib.hid (fun w => rcode_calls ⟨hi, lo⟩ hf w)
  have hcl := Wd.code_length ⟨hi, lo⟩
  have htc : Tot.code ⟨⟨hi, lo⟩, l⟩ = Wd.code ⟨hi, lo⟩ ++ codesW l := rfl
  rw [htc]
  generalize Wd.code ⟨hi, lo⟩ = C at *
  replace CO : RowKit.Hid (∀ w, Calls Try.prog 74 #[.agg #[.int .i64 hi, .int .u64 lo]] w fun e w' => e = .returned (.string (bs C)) ∧ Below w.heap.size w w') := CO
  have x0 := hX.cell (i := 0) rfl
  have x1 := hX.cell (i := 1) rfl
  have x2 := hX.cell (i := 2) rfl
  have X := Lib.hid hX
  have B := Lib.hid hb
  have CL := Lib.hid hcl
  have ES := Lib.hid hE
  clear htc hX hb hf hcl hE
  go_enter Try.func15, Try.ntmps15
  go_wp2_with fail
  refine (CO.out _).mono ?_
  rintro e w1 ⟨rfl, h1⟩
  clear x0 x1 x2
  have X1 := Lib.hid (X.out.below h1 X.out.lt)
  have B1 := Lib.hid (B.out.trans (h1.mono B.out.size))
  clear h1 X B
  have x2 := X1.out.cell (i := 2) rfl
  go_wp2_with fail
  go_loopw [3, 4] (fun s i wr => ∃ k : Nat, k ≤ l.length ∧ i = .int .i64 k ∧ s = .string (bs (C ++ codesW (l.take k))) ∧ Row wr w.heap.size 27 [.int .i64 hi, .int .u64 lo, .slice a l.length cap] ∧ Below w.heap.size w wr) (fun _ i _ => l.length - (intOf i).toNat)
  case atStart => exact ⟨0, by omega, rfl, by simp [codesW], X1.out, B1.out⟩
  case round =>
    clear x2 B1 X1
    obtain ⟨k, hk, rfl, rfl, hx, hb⟩ := hrel
    have x2 := hx.cell (i := 2) rfl
    have XX := Lib.hid hx
    clear hx
    by_cases hlt : k < l.length
    · obtain ⟨ad, rfl, hlb, hz0, hz1⟩ := ES.out.at hlt hb
      have hlt' : (k : Int) < (l.length : Int) := by omega
      have hff := hfs _ (List.getElem_mem hlt)
      have hct := codesW_take hlt
      have hcl := codesW_length (l.take k)
      rw [List.length_take_of_le (by omega)] at hcl
      have CO2 := Lib.hid (fun w => rcode_calls l[k] hff w)
      have hcl2 := Wd.code_length l[k]
      have hz2 := hz1 0
      generalize l[k] = x at *
      obtain ⟨h2, l2⟩ := x
      have z0 := hz0 _ rfl
      have z1 := hz2 _ rfl
      generalize Wd.code ⟨h2, l2⟩ = D at *
      generalize codesW (l.take k) = L at *
      replace CO2 : RowKit.Hid (∀ w, Calls Try.prog 74 #[.agg #[.int .i64 h2, .int .u64 l2]] w fun e w' => e = .returned (.string (bs D)) ∧ Below w.heap.size w w') := CO2
      have CT := Lib.hid hct
      have HB := Lib.hid hb
      have s1 : (bs (C ++ L)).size = 16 + k * 16 := by rw [bs_size, List.length_append, CL.out, hcl]
      have s2 : (bs D).size = 16 := hcl2
      clear hz0 hz1 hz2 hct hb hcl hcl2 hff hfs CO
      go_wp2_with fail
      clear z0 z1
      refine (CO2.out _).mono ?_
      rintro e w2 ⟨rfl, h2⟩
      have HB2 := Lib.hid (HB.out.trans (h2.mono HB.out.size))
      have XX2 := Lib.hid (XX.out.below h2 XX.out.lt)
      clear h2
      go_wp2_with fail
      exact ⟨⟨k + 1, by omega, by go_num, by rw [CT.out, bs_append, List.append_assoc], XX2.out, HB2.out⟩, by simp [intOf]; omega⟩
    · obtain rfl : k = l.length := by omega
      rw [List.take_length]
      go_wp2_with fail
      go_ret
      exact ⟨rfl, hb⟩

theorem any_take {l : List Wd} {k : Nat} (h : k < l.length) : (l.take (k + 1)).any someW = ((l.take k).any someW || someW l[k]) := by
  rw [List.take_succ_eq_append_getElem h, List.any_append]
  simp
theorem no3 (hi lo : Int) (B : Bool) (h : isNo ⟨hi, lo⟩ = B) : (hi = 0 ∧ lo = 0 ∧ B = true) ∨ (hi = 0 ∧ lo ≠ 0 ∧ B = false) ∨ (hi ≠ 0 ∧ B = false) := by
  subst h
  unfold isNo
  by_cases c1 : hi = 0 <;> by_cases c2 : lo = 0 <;> simp [c1, c2]
set_option maxHeartbeats 2000000 in
theorem risNothing_calls (t : Tot) (v : Value) (w : World) (h : HasT w v t) : Calls Try.prog 20 #[v] w fun e w' => e = .returned (.bool t.isNo) ∧ Below w.heap.size w w' := by
  obtain ⟨⟨a, cap, rfl, hE⟩, _, hl⟩ := h
  obtain ⟨⟨hi, lo⟩, l⟩ := t
  simp only at hE hl
  have hX : Row (w.alloc (.cells #[.int .i64 hi, .int .u64 lo, .slice a l.length cap] 27)) w.heap.size 27 [.int .i64 hi, .int .u64 lo, .slice a l.length cap] := new_at rfl
  have hb : Below w.heap.size w (w.alloc (.cells #[.int .i64 hi, .int .u64 lo, .slice a l.length cap] 27)) := (Below.refl _ _).alloc (Nat.le_refl _) _
  show Calls Try.prog 20 #[.agg #[.int .i64 hi, .int .u64 lo, .slice a l.length cap]] w _
  have hno : Tot.isNo ⟨⟨hi, lo⟩, l⟩ = (isNo ⟨hi, lo⟩ && !l.any someW) := rfl
  rw [hno]
  clear hno
  obtain ⟨B, hB⟩ : ∃ B, isNo ⟨hi, lo⟩ = B := ⟨_, rfl⟩
  rw [hB]
  have h3 := no3 hi lo B hB
  clear hB
  obtain ⟨R, hR⟩ : ∃ R, [Value.int .i64 hi, .int .u64 lo, .slice a l.length cap] = R := ⟨_, rfl⟩
  have R2 : R[2]? = some (.slice a l.length cap) := by rw [← hR]; rfl
  have x0 := hX.cell (i := 0) rfl
  have x1 := hX.cell (i := 1) rfl
  have X0 : Row (w.alloc (.cells #[.int .i64 hi, .int .u64 lo, .slice a l.length cap] 27)) w.heap.size 27 R := by rw [← hR]; exact hX
  have X := Lib.hid X0
  have HB := Lib.hid hb
  have HE := Lib.hid hE
  have HR2 := Lib.hid R2
  rename_i hfits
  clear hX hb hE X0 hR R2 hfits
  rcases h3 with ⟨rfl, rfl, rfl⟩ | ⟨rfl, h2, rfl⟩ | ⟨h1, rfl⟩
  · go_enter Try.func20, Try.ntmps20
    go_wp2_with fail
    clear x0 x1
    go_loopw [3, 4] (fun c i wr => ∃ (k : Nat) (b : Bool), k ≤ l.length ∧ i = .int .i64 k ∧ c = .bool b ∧ (b && !(l.drop k).any someW) = (true && !l.any someW) ∧ Row wr w.heap.size 27 R ∧ Below w.heap.size w wr) (fun _ i _ => l.length - (intOf i).toNat)
    case atStart => exact ⟨0, _, by omega, rfl, rfl, rfl, X.out, HB.out⟩
    case round =>
      clear X HB
      obtain ⟨k, b, hk, rfl, rfl, hI, hx, hb⟩ := hrel
      have x2 := hx.cell (i := 2) HR2.out
      have XX := Lib.hid hx
      have BB := Lib.hid hb
      have II := Lib.hid hI
      clear hx hb hI
      by_cases hlt : k < l.length
      · obtain ⟨ad, rfl, hlb, hz0, hz1⟩ := HE.out.at hlt BB.out
        have hlt' : (k : Int) < (l.length : Int) := by omega
        have hat : (l.drop k).any someW = (someW l[k] || (l.drop (k + 1)).any someW) := by rw [List.drop_eq_getElem_cons hlt]; rfl
        have hz2 := hz1 0
        generalize l[k] = x at *
        obtain ⟨h2, l2⟩ := x
        have z0 := hz0 _ rfl
        have z1 := hz2 _ rfl
        rw [show someW ⟨h2, l2⟩ = !isNo ⟨h2, l2⟩ from rfl] at hat
        obtain ⟨S, hS⟩ : ∃ S, isNo ⟨h2, l2⟩ = S := ⟨_, rfl⟩
        rw [hS] at hat
        have h4 := no3 h2 l2 S hS
        have HAT := Lib.hid hat
        clear hz0 hz1 hz2 hat hS
        cases b
        · clear h4 z0 z1
          go_wp2_with fail
          exact ⟨⟨k + 1, _, by omega, by go_num, rfl, by rw [← II.out]; rfl, XX.out, BB.out⟩, by simp [intOf]; omega⟩
        · rcases h4 with ⟨rfl, rfl, rfl⟩ | ⟨rfl, g2, rfl⟩ | ⟨g1, rfl⟩
          all_goals
            go_wp2_with fail
            exact ⟨⟨k + 1, _, by omega, by go_num, rfl, by rw [← II.out, HAT.out]; first | rfl | simp, XX.out, BB.out⟩, by simp [intOf]; omega⟩
      · obtain rfl : k = l.length := by omega
        have hI := II.out
        rw [List.drop_length] at hI
        simp only [List.any_nil, Bool.not_false, Bool.and_true] at hI
        subst hI
        go_wp2_with fail
        go_ret
        exact ⟨rfl, BB.out⟩
  · go_enter Try.func20, Try.ntmps20
    go_wp2_with fail
    clear x0 x1
    go_loopw [3, 4] (fun c i wr => ∃ (k : Nat) (b : Bool), k ≤ l.length ∧ i = .int .i64 k ∧ c = .bool b ∧ (b && !(l.drop k).any someW) = (false && !l.any someW) ∧ Row wr w.heap.size 27 R ∧ Below w.heap.size w wr) (fun _ i _ => l.length - (intOf i).toNat)
    case atStart => exact ⟨0, _, by omega, rfl, rfl, rfl, X.out, HB.out⟩
    case round =>
      clear X HB
      obtain ⟨k, b, hk, rfl, rfl, hI, hx, hb⟩ := hrel
      have x2 := hx.cell (i := 2) HR2.out
      have XX := Lib.hid hx
      have BB := Lib.hid hb
      have II := Lib.hid hI
      clear hx hb hI
      by_cases hlt : k < l.length
      · obtain ⟨ad, rfl, hlb, hz0, hz1⟩ := HE.out.at hlt BB.out
        have hlt' : (k : Int) < (l.length : Int) := by omega
        have hat : (l.drop k).any someW = (someW l[k] || (l.drop (k + 1)).any someW) := by rw [List.drop_eq_getElem_cons hlt]; rfl
        have hz2 := hz1 0
        generalize l[k] = x at *
        obtain ⟨h2, l2⟩ := x
        have z0 := hz0 _ rfl
        have z1 := hz2 _ rfl
        rw [show someW ⟨h2, l2⟩ = !isNo ⟨h2, l2⟩ from rfl] at hat
        obtain ⟨S, hS⟩ : ∃ S, isNo ⟨h2, l2⟩ = S := ⟨_, rfl⟩
        rw [hS] at hat
        have h4 := no3 h2 l2 S hS
        have HAT := Lib.hid hat
        clear hz0 hz1 hz2 hat hS
        cases b
        · clear h4 z0 z1
          go_wp2_with fail
          exact ⟨⟨k + 1, _, by omega, by go_num, rfl, by rw [← II.out]; rfl, XX.out, BB.out⟩, by simp [intOf]; omega⟩
        · rcases h4 with ⟨rfl, rfl, rfl⟩ | ⟨rfl, g2, rfl⟩ | ⟨g1, rfl⟩
          all_goals
            go_wp2_with fail
            exact ⟨⟨k + 1, _, by omega, by go_num, rfl, by rw [← II.out, HAT.out]; first | rfl | simp, XX.out, BB.out⟩, by simp [intOf]; omega⟩
      · obtain rfl : k = l.length := by omega
        have hI := II.out
        rw [List.drop_length] at hI
        simp only [List.any_nil, Bool.not_false, Bool.and_true] at hI
        subst hI
        go_wp2_with fail
        go_ret
        exact ⟨rfl, BB.out⟩
  · go_enter Try.func20, Try.ntmps20
    go_wp2_with fail
    clear x0 x1
    go_loopw [3, 4] (fun c i wr => ∃ (k : Nat) (b : Bool), k ≤ l.length ∧ i = .int .i64 k ∧ c = .bool b ∧ (b && !(l.drop k).any someW) = (false && !l.any someW) ∧ Row wr w.heap.size 27 R ∧ Below w.heap.size w wr) (fun _ i _ => l.length - (intOf i).toNat)
    case atStart => exact ⟨0, _, by omega, rfl, rfl, rfl, X.out, HB.out⟩
    case round =>
      clear X HB
      obtain ⟨k, b, hk, rfl, rfl, hI, hx, hb⟩ := hrel
      have x2 := hx.cell (i := 2) HR2.out
      have XX := Lib.hid hx
      have BB := Lib.hid hb
      have II := Lib.hid hI
      clear hx hb hI
      by_cases hlt : k < l.length
      · obtain ⟨ad, rfl, hlb, hz0, hz1⟩ := HE.out.at hlt BB.out
        have hlt' : (k : Int) < (l.length : Int) := by omega
        have hat : (l.drop k).any someW = (someW l[k] || (l.drop (k + 1)).any someW) := by rw [List.drop_eq_getElem_cons hlt]; rfl
        have hz2 := hz1 0
        generalize l[k] = x at *
        obtain ⟨h2, l2⟩ := x
        have z0 := hz0 _ rfl
        have z1 := hz2 _ rfl
        rw [show someW ⟨h2, l2⟩ = !isNo ⟨h2, l2⟩ from rfl] at hat
        obtain ⟨S, hS⟩ : ∃ S, isNo ⟨h2, l2⟩ = S := ⟨_, rfl⟩
        rw [hS] at hat
        have h4 := no3 h2 l2 S hS
        have HAT := Lib.hid hat
        clear hz0 hz1 hz2 hat hS
        cases b
        · clear h4 z0 z1
          go_wp2_with fail
          exact ⟨⟨k + 1, _, by omega, by go_num, rfl, by rw [← II.out]; rfl, XX.out, BB.out⟩, by simp [intOf]; omega⟩
        · rcases h4 with ⟨rfl, rfl, rfl⟩ | ⟨rfl, g2, rfl⟩ | ⟨g1, rfl⟩
          all_goals
            go_wp2_with fail
            exact ⟨⟨k + 1, _, by omega, by go_num, rfl, by rw [← II.out, HAT.out]; first | rfl | simp, XX.out, BB.out⟩, by simp [intOf]; omega⟩
      · obtain rfl : k = l.length := by omega
        have hI := II.out
        rw [List.drop_length] at hI
        simp only [List.any_nil, Bool.not_false, Bool.and_true] at hI
        subst hI
        go_wp2_with fail
        go_ret
        exact ⟨rfl, BB.out⟩
end Go.Proofs.Ytcfjooeagfollaa.Plan
