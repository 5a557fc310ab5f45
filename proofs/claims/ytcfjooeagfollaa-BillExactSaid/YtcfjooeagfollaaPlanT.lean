/- Totals: plain laws; plan.Total, Nothing, IsNothing, gaugerref17.Same. -/
import Derived.Test.YtcfjooeagfollaaWideC
import Derived.Test.YtcfjooeagfollaaEls
namespace Go.Proofs.Ytcfjooeagfollaa.Plan
open Go.RowKit Go.Proofs.Ytcfjooeagfollaa.Mem Go.Proofs.Ytcfjooeagfollaa.Bytes Go.Proofs.Ytcfjooeagfollaa.Num Go.Proofs.Ytcfjooeagfollaa.Wide
set_option linter.unusedSimpArgs false
set_option linter.unusedVariables false
set_option maxRecDepth 20000

structure Tot where
  count : Wd
  sums : List Wd
def Tot.cells (t : Tot) (p : Value) : List Value := [.int .i64 t.count.hi, .int .u64 t.count.lo, p]
def noT : Tot := ⟨noW, []⟩
def codesW (l : List Wd) : List UInt8 := l.flatMap Wd.code
def Tot.code (t : Tot) : List UInt8 := t.count.code ++ codesW t.sums
abbrev Ws (w : World) (a : Option Addr) (l : List Wd) : Prop := Els Wd.cells 2 w a l
theorem wcells_len (x : Wd) : x.cells.length = 2 := rfl
def Tot.fits (t : Tot) : Prop := t.count.fits ∧ ∀ s ∈ t.sums, s.fits
/-- A value that is a total. -/
def HasT (w : World) (v : Value) (t : Tot) : Prop := (∃ a cap, v = .agg (t.cells (.slice a t.sums.length cap)).toArray ∧ Ws w a t.sums) ∧ t.fits ∧ t.sums.length ≤ 9223372036854775807
theorem HasT.keep {w w' : World} {v : Value} {t : Tot} (h : HasT w v t) (hb : Below w.heap.size w w') : HasT w' v t :=
  ⟨let ⟨a, cap, e, k⟩ := h.1; ⟨a, cap, e, k.keep hb⟩, h.2⟩
theorem codesW_take {l : List Wd} {k : Nat} (h : k < l.length) : codesW (l.take (k + 1)) = codesW (l.take k) ++ l[k].code := by
  unfold codesW
  rw [List.take_succ_eq_append_getElem h, List.flatMap_append]
  simp
theorem codesW_length (l : List Wd) : (codesW l).length = l.length * 16 := by
  unfold codesW
  exact els_flat_len (α := Wd) (enc := fun x => x.code.map bv) (sz := 16) (fun x => by rw [List.length_map, Wd.code_length]) l ▸ by
    induction l with
    | nil => rfl
    | cons a l ih => rw [List.flatMap_cons, List.flatMap_cons, List.length_append, List.length_append, ih, List.length_map]

set_option maxHeartbeats 1000000 in
theorem total_calls (t : Tot) (v : Value) (w : World) (h : HasT w v t) (h10 : t.sums.length ≤ 1000) : Calls Try.prog 14 #[v] w fun e w' => e = .returned (.string (bs t.code)) ∧ Below w.heap.size w w' := by
  obtain ⟨⟨a, cap, rfl, hE⟩, ⟨hf, hfs⟩, hl⟩ := h
  obtain ⟨⟨hi, lo⟩, l⟩ := t
  simp only at hE hf hfs hl h10
  have hX : Row (w.alloc (.cells #[.int .i64 hi, .int .u64 lo, .slice a l.length cap] 27)) w.heap.size 27 [.int .i64 hi, .int .u64 lo, .slice a l.length cap] := new_at rfl
  have hb : Below w.heap.size w (w.alloc (.cells #[.int .i64 hi, .int .u64 lo, .slice a l.length cap] 27)) := (Below.refl _ _).alloc (Nat.le_refl _) _
  show Calls Try.prog 14 #[.agg #[.int .i64 hi, .int .u64 lo, .slice a l.length cap]] w _
  have CO := Lib.hid (fun w => code_calls ⟨hi, lo⟩ hf w)
  have hcl := Wd.code_length ⟨hi, lo⟩
  have htc : Tot.code ⟨⟨hi, lo⟩, l⟩ = Wd.code ⟨hi, lo⟩ ++ codesW l := rfl
  rw [htc]
  generalize Wd.code ⟨hi, lo⟩ = C at *
  replace CO : RowKit.Hid (∀ w, Calls Try.prog 73 #[.agg #[.int .i64 hi, .int .u64 lo]] w fun e w' => e = .returned (.string (bs C)) ∧ Below w.heap.size w w') := CO
  have x0 := hX.cell (i := 0) rfl
  have x1 := hX.cell (i := 1) rfl
  have x2 := hX.cell (i := 2) rfl
  have X := Lib.hid hX
  have B := Lib.hid hb
  have CL := Lib.hid hcl
  have ES := Lib.hid hE
  clear htc hX hb hf hcl hE
  go_enter Try.func14, Try.ntmps14
  go_wp2_with fail
  refine (CO.out _).mono ?_
  rintro e w1 ⟨rfl, h1⟩
  clear x0 x1 x2
  have X1 := Lib.hid (X.out.below h1 X.out.lt)
  have B1 := Lib.hid (B.out.trans (h1.mono B.out.size))
  clear h1 X B
  have x2 := X1.out.cell (i := 2) rfl
  go_wp2_with fail
  go_loopw [3, 12] (fun s i wr => ∃ k : Nat, k ≤ l.length ∧ i = .int .i64 k ∧ s = .string (bs (C ++ codesW (l.take k))) ∧ Below w.heap.size w wr) (fun _ i _ => l.length - (intOf i).toNat)
  case atStart => exact ⟨0, by omega, rfl, by simp [codesW], B1.out⟩
  case round =>
    clear x2 B1
    obtain ⟨k, hk, rfl, rfl, hb⟩ := hrel
    by_cases hlt : k < l.length
    · obtain ⟨ad, rfl, hlb, hz0, hz1⟩ := ES.out.at hlt hb
      have hlt' : (k : Int) < (l.length : Int) := by omega
      have hff := hfs _ (List.getElem_mem hlt)
      have hct := codesW_take hlt
      have hcl := codesW_length (l.take k)
      rw [List.length_take_of_le (by omega)] at hcl
      have CO2 := Lib.hid (fun w => code_calls l[k] hff w)
      have hcl2 := Wd.code_length l[k]
      have hz2 := hz1 0
      generalize l[k] = x at *
      obtain ⟨h2, l2⟩ := x
      have z0 := hz0 _ rfl
      have z1 := hz2 _ rfl
      generalize Wd.code ⟨h2, l2⟩ = D at *
      generalize codesW (l.take k) = L at *
      replace CO2 : RowKit.Hid (∀ w, Calls Try.prog 73 #[.agg #[.int .i64 h2, .int .u64 l2]] w fun e w' => e = .returned (.string (bs D)) ∧ Below w.heap.size w w') := CO2
      have CT := Lib.hid hct
      have hbx := (Below.refl wr.heap.size wr).alloc (Nat.le_refl _) (.cells #[.int .i64 h2, .int .u64 l2] 24)
      have HB := Lib.hid (hb.trans (hbx.mono hb.size))
      have s1 : (bs (C ++ L)).size = 16 + k * 16 := by rw [bs_size, List.length_append, CL.out, hcl]
      have s2 : (bs D).size = 16 := hcl2
      clear hz0 hz1 hz2 hct hb hbx hcl hcl2 hff hfs CO
      go_wp2_with fail
      clear z0 z1
      refine (CO2.out _).mono ?_
      rintro e w2 ⟨rfl, h2⟩
      have HB2 := Lib.hid (HB.out.trans (h2.mono HB.out.size))
      clear h2
      go_wp2_with fail
      exact ⟨⟨k + 1, by omega, by go_num, by rw [CT.out, bs_append, List.append_assoc], HB2.out⟩, by simp [intOf]; omega⟩
    · obtain rfl : k = l.length := by omega
      rw [List.take_length]
      go_wp2_with fail
      go_ret
      exact ⟨rfl, hb⟩

def isNo (x : Wd) : Bool := decide (x.hi = 0) && decide (x.lo = 0)
def someW (x : Wd) : Bool := !isNo x
def Tot.isNo (t : Tot) : Bool := Plan.isNo t.count && !t.sums.any someW
set_option maxHeartbeats 1000000 in
theorem some_calls (x : Wd) (w : World) : Calls Try.prog 77 #[x.val] w fun e w' => e = .returned (.bool (someW x)) ∧ Below w.heap.size w w' := by
  obtain ⟨hi, lo⟩ := x
  have hb : Below w.heap.size w (w.alloc (.cells #[.int .i64 hi, .int .u64 lo] 24)) := (Below.refl _ _).alloc (Nat.le_refl _) _
  show Calls Try.prog 77 #[.agg #[.int .i64 hi, .int .u64 lo]] w _
  by_cases c1 : hi = 0
  · by_cases c2 : lo = 0
    · subst c1 c2
      go_enter Try.func77, Try.ntmps77
      go_wp2_with fail
      go_ret
      exact ⟨rfl, hb⟩
    · subst c1
      go_enter Try.func77, Try.ntmps77
      go_wp2_with fail
      go_ret
      exact ⟨by simp [someW, isNo, c2], hb⟩
  · go_enter Try.func77, Try.ntmps77
    go_wp2_with fail
    go_ret
    exact ⟨by simp [someW, isNo, c1], hb⟩

set_option maxHeartbeats 800000 in
theorem wideIndex_calls (a : Option Addr) (n c : Nat) (xs : List Wd) (w : World) (h : Els Wd.cells 2 w a xs) (hl : xs.length = n) (hn : n ≤ 9223372036854775807) :
    Calls Try.prog 131 #[.slice a n c, .func (.func 77) #[] #[]] w fun e w' => (∃ k : Int, e = .returned (.int .i64 k) ∧ decide (0 ≤ k) = xs.any (someW)) ∧ Below w.heap.size w w' := by
  have ES := Lib.hid h
  clear h
  go_enter Try.func131, Try.ntmps131
  go_wp2_with fail
  go_loopw [8] (fun i wr => ∃ j : Nat, j ≤ n ∧ i = .int .i64 j ∧ (xs.take j).any (someW) = false ∧ Below w.heap.size w wr) (fun i _ => n - (intOf i).toNat)
  case atStart => exact ⟨0, by omega, rfl, rfl, Below.refl _ _⟩
  case round =>
    obtain ⟨j, hj, rfl, hany, hb⟩ := hrel
    by_cases hlt : j < n
    · have hlt2 : j < xs.length := by omega
      obtain ⟨ad, rfl, hlb, hz0, hz1⟩ := ES.out.at hlt2 hb
      have hlt' : (j : Int) < (n : Int) := by omega
      have hnext : (xs.take (j + 1)).any (someW) = someW xs[j] := by rw [List.take_add_one, List.getElem?_eq_getElem hlt2, List.any_append, hany]; simp
      have hall : someW xs[j] = true → xs.any (someW) = true := fun hb => List.any_eq_true.2 ⟨_, List.getElem_mem hlt2, hb⟩
      have hmem := List.getElem_mem hlt2
      generalize xs[j] = x at *
      obtain ⟨h1, l1⟩ := x
      have y0 := hz0 _ rfl
      try rw [Nat.mul_one] at y0
      have y1 := hz1 0 _ rfl
      have CL := Lib.hid (fun (wz : World) (hbz : Below w.heap.size w wz) => some_calls ⟨h1, l1⟩ wz)
      have HN := Lib.hid hnext
      have HA := Lib.hid hall
      have HB := Lib.hid hb
      clear hnext hall hany hz0 hz1 hb hmem
      go_wp2_with fail
      refine (CL.out _ HB.out).mono ?_
      rintro e w2 ⟨rfl, hb2⟩
      have HB2 := Lib.hid (below_next HB.out hb2 (Nat.le_refl _))
      cases hbad : someW ⟨h1, l1⟩
      · rw [hbad] at HN
        have hbad' : (!someW ⟨h1, l1⟩) = true := by rw [hbad]; rfl
        have HBAD := Lib.hid hbad
        clear hb2 hbad hbad' HA
        go_wp2_with fail
        first
        | exact ⟨⟨j + 1, by omega, by go_num, HN.out, HB2.out⟩, by simp [intOf]; omega⟩
        | (go_roundw
           case rel => exact ⟨j + 1, by omega, by go_num, HN.out, HB2.out⟩
           case measure => simp [intOf]; omega)
      · have HF := Lib.hid (HA.out hbad)
        clear hb2 HA
        go_wp2_with fail
        go_ret
        exact ⟨⟨j, rfl, by rw [HF.out]; simp⟩, HB2.out⟩
    · obtain rfl : j = n := by omega
      have hx : xs.any (someW) = false := by rw [← List.take_of_length_le (Nat.le_of_eq hl)]; exact hany
      have HF := Lib.hid hx
      clear hx hany
      go_wp2_with fail
      go_ret
      exact ⟨⟨-1, rfl, by rw [HF.out]; simp⟩, hb⟩

set_option maxHeartbeats 800000 in
theorem wideContains_calls (a : Option Addr) (n c : Nat) (xs : List Wd) (w : World) (h : Els Wd.cells 2 w a xs) (hl : xs.length = n) (hn : n ≤ 9223372036854775807) :
    Calls Try.prog 78 #[.slice a n c, .func (.func 77) #[] #[]] w fun e w' => e = .returned (.bool (xs.any (someW))) ∧ Below w.heap.size w w' := by
  go_enter Try.func78, Try.ntmps78
  go_wp2_with fail
  refine (wideIndex_calls a n c xs _ h hl hn ).mono ?_
  rintro e w2 ⟨⟨k, rfl, hk⟩, hb⟩
  have HK := Lib.hid hk
  clear hk
  go_wp2_with fail
  go_ret
  refine ⟨?_, hb⟩
  show Ending.returned (.bool (decide (0 ≤ k))) = _
  rw [HK.out]
end Go.Proofs.Ytcfjooeagfollaa.Plan
