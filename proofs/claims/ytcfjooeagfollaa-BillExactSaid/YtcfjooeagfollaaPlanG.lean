/- Plans as plain values; plan.Good. -/
import Derived.Test.YtcfjooeagfollaaPlanR
namespace Go.Proofs.Ytcfjooeagfollaa.Plan
open Go.RowKit Go.Proofs.Ytcfjooeagfollaa.Mem Go.Proofs.Ytcfjooeagfollaa.Bytes Go.Proofs.Ytcfjooeagfollaa.Num Go.Proofs.Ytcfjooeagfollaa.Wide
set_option linter.unusedSimpArgs false
set_option linter.unusedVariables false
set_option maxRecDepth 20000

def intC (n : Int) : List Value := [.int .i64 n]
/-- A table, and where its columns lie. -/
structure Tb where
  a : Option Addr
  cap : Nat
  cols : List Int
def Tb.cells (t : Tb) : List Value := [.slice t.a t.cols.length t.cap]
/-- A view, and where its sums lie. -/
structure Vw where
  table : Int
  by_ : Int
  a : Option Addr
  cap : Nat
  sums : List Int
def Vw.cells (v : Vw) : List Value := [.int .i64 v.table, .int .i64 v.by_, .slice v.a v.sums.length v.cap]
structure Pl where
  ta : Option Addr
  tcap : Nat
  tables : List Tb
  va : Option Addr
  vcap : Nat
  views : List Vw
def Pl.cells (p : Pl) : List Value := [.slice p.ta p.tables.length p.tcap, .slice p.va p.views.length p.vcap]
abbrev Is (w : World) (a : Option Addr) (l : List Int) : Prop := Els intC 1 w a l
structure Ts (w : World) (a : Option Addr) (l : List Tb) : Prop where
  row : Els Tb.cells 1 w a l
  cols : ∀ t ∈ l, Is w t.a t.cols ∧ t.cols.length ≤ 9223372036854775807
  len : l.length ≤ 9223372036854775807
structure HasP (w : World) (p : Pl) : Prop where
  tabs : Ts w p.ta p.tables
  row : Els Vw.cells 3 w p.va p.views
  sums : ∀ v ∈ p.views, Is w v.a v.sums ∧ v.sums.length ≤ 9223372036854775807
  len : p.views.length ≤ 9223372036854775807
theorem Ts.keep {w w' : World} {a : Option Addr} {l : List Tb} (h : Ts w a l) (hb : Below w.heap.size w w') : Ts w' a l := ⟨h.row.keep hb, fun t ht => ⟨(h.cols t ht).1.keep hb, (h.cols t ht).2⟩, h.len⟩
theorem HasP.keep {w w' : World} {p : Pl} (h : HasP w p) (hb : Below w.heap.size w w') : HasP w' p := ⟨h.tabs.keep hb, h.row.keep hb, fun v hv => ⟨(h.sums v hv).1.keep hb, (h.sums v hv).2⟩, h.len⟩

def badK (k : Int) : Bool := decide (k ≠ 1) && decide (k ≠ 2)
set_option maxHeartbeats 1000000 in
theorem bad_calls (k : Int) (w : World) : Calls Try.prog 139 #[.int .i64 k] w fun e w' => e = .returned (.bool (badK k)) ∧ Below w.heap.size w w' := by
  by_cases c1 : k = 1
  · subst c1
    go_enter Try.func139, Try.ntmps139
    go_wp2_with fail
    go_ret
    exact ⟨rfl, Below.refl _ _⟩
  · have d1 : (k != 1) = true := by simpa using c1
    go_enter Try.func139, Try.ntmps139
    go_wp2_with fail
    go_ret
    exact ⟨by simp [badK, c1]; rfl, Below.refl _ _⟩
set_option maxHeartbeats 800000 in
theorem intIndex_calls (a : Option Addr) (n c : Nat) (xs : List Int) (w : World) (h : Els intC 1 w a xs) (hl : xs.length = n) (hn : n ≤ 9223372036854775807) :
    Calls Try.prog 169 #[.slice a n c, .func (.func 139) #[] #[]] w fun e w' => (∃ k : Int, e = .returned (.int .i64 k) ∧ decide (0 ≤ k) = xs.any (badK)) ∧ Below w.heap.size w w' := by
  have ES := Lib.hid h
  clear h
  go_enter Try.func169, Try.ntmps169
  go_wp2_with fail
  go_loopw [8] (fun i wr => ∃ j : Nat, j ≤ n ∧ i = .int .i64 j ∧ (xs.take j).any (badK) = false ∧ Below w.heap.size w wr) (fun i _ => n - (intOf i).toNat)
  case atStart => exact ⟨0, by omega, rfl, rfl, Below.refl _ _⟩
  case round =>
    obtain ⟨j, hj, rfl, hany, hb⟩ := hrel
    by_cases hlt : j < n
    · have hlt2 : j < xs.length := by omega
      obtain ⟨ad, rfl, hlb, hz0, hz1⟩ := ES.out.at hlt2 hb
      have hlt' : (j : Int) < (n : Int) := by omega
      have hnext : (xs.take (j + 1)).any (badK) = badK xs[j] := by rw [List.take_add_one, List.getElem?_eq_getElem hlt2, List.any_append, hany]; simp
      have hall : badK xs[j] = true → xs.any (badK) = true := fun hb => List.any_eq_true.2 ⟨_, List.getElem_mem hlt2, hb⟩
      have hmem := List.getElem_mem hlt2
      generalize xs[j] = x at *
      skip
      have y0 := hz0 _ rfl
      try rw [Nat.mul_one] at y0

      have CL := Lib.hid (fun (wz : World) (hbz : Below w.heap.size w wz) => bad_calls x wz)
      have HN := Lib.hid hnext
      have HA := Lib.hid hall
      have HB := Lib.hid hb
      clear hnext hall hany hz0 hz1 hb hmem
      go_wp2_with fail
      refine (CL.out _ HB.out).mono ?_
      rintro e w2 ⟨rfl, hb2⟩
      have HB2 := Lib.hid (below_next HB.out hb2 (Nat.le_refl _))
      cases hbad : badK (x)
      · rw [hbad] at HN
        have hbad' : (!badK (x)) = true := by rw [hbad]; rfl
        have HBAD := Lib.hid hbad
        clear hb2 hbad hbad' HA
        go_wp2_with fail
        first
        | exact ⟨⟨j + 1, by omega, by go_num, HN.out, HB2.out⟩, by simp [intOf]; omega⟩
        | (go_roundw
           case rel => exact ⟨j + 1, by omega, by go_num, HN.out, HB2.out⟩
           case measure => simp [intOf]; omega)
      · have HF := Lib.hid (HA.out hbad)
        clear hb2 HA
        go_wp2_with fail
        go_ret
        exact ⟨⟨j, rfl, by rw [HF.out]; simp⟩, HB2.out⟩
    · obtain rfl : j = n := by omega
      have hx : xs.any (badK) = false := by rw [← List.take_of_length_le (Nat.le_of_eq hl)]; exact hany
      have HF := Lib.hid hx
      clear hx hany
      go_wp2_with fail
      go_ret
      exact ⟨⟨-1, rfl, by rw [HF.out]; simp⟩, hb⟩

set_option maxHeartbeats 800000 in
theorem intContains_calls (a : Option Addr) (n c : Nat) (xs : List Int) (w : World) (h : Els intC 1 w a xs) (hl : xs.length = n) (hn : n ≤ 9223372036854775807) :
    Calls Try.prog 140 #[.slice a n c, .func (.func 139) #[] #[]] w fun e w' => e = .returned (.bool (xs.any (badK))) ∧ Below w.heap.size w w' := by
  go_enter Try.func140, Try.ntmps140
  go_wp2_with fail
  refine (intIndex_calls a n c xs _ h hl hn ).mono ?_
  rintro e w2 ⟨⟨k, rfl, hk⟩, hb⟩
  have HK := Lib.hid hk
  clear hk
  go_wp2_with fail
  go_ret
  refine ⟨?_, hb⟩
  show Ending.returned (.bool (decide (0 ≤ k))) = _
  rw [HK.out]

def okCols (l : List Int) : Bool := decide (1 ≤ l.length) && (decide (l.length ≤ 4) && !l.any badK)
def badTb (t : Tb) : Bool := !okCols t.cols
set_option maxHeartbeats 1000000 in
theorem isTable_calls (t : Tb) (w : World) (h : Is w t.a t.cols) (hl : t.cols.length ≤ 9223372036854775807) : Calls Try.prog 91 #[.agg #[.slice t.a t.cols.length t.cap]] w fun e w' => e = .returned (.bool (okCols t.cols)) ∧ Below w.heap.size w w' := by
  obtain ⟨a, cap, l⟩ := t
  simp only at h hl ⊢
  have hX : Row (w.alloc (.cells #[.slice a l.length cap] 135)) w.heap.size 135 [.slice a l.length cap] := new_at rfl
  have hb : Below w.heap.size w (w.alloc (.cells #[.slice a l.length cap] 135)) := (Below.refl _ _).alloc (Nat.le_refl _) _
  have x0 := hX.cell (i := 0) rfl
  have E1 := Lib.hid (intContains_calls a l.length cap l _ (h.keep hb) rfl hl)
  have HB := Lib.hid hb
  clear hX hb
  by_cases c1 : 1 ≤ l.length
  · have d1 : (1 : Int) ≤ (l.length : Int) := by omega
    by_cases c2 : l.length ≤ 4
    · have d2 : (l.length : Int) ≤ 4 := by omega
      have hk : okCols l = !l.any badK := by simp [okCols, c1, c2]
      rw [hk]
      obtain ⟨C, hC⟩ : ∃ C, l.any badK = C := ⟨_, rfl⟩
      rw [hC] at E1 ⊢
      clear hk c1 c2 hC
      go_enter Try.func91, Try.ntmps91
      go_wp2_with fail
      refine E1.out.mono ?_
      rintro e w1 ⟨rfl, k1⟩
      have B1 := Lib.hid (HB.out.trans (k1.mono HB.out.size))
      go_wp2_with fail
      go_ret
      exact ⟨rfl, B1.out⟩
    · have d2 : decide ((l.length : Int) ≤ 4) = false := by simp; omega
      have hk : okCols l = false := by simp [okCols, c1, c2]
      rw [hk]
      clear hk c1 c2
      go_enter Try.func91, Try.ntmps91
      go_wp2_with fail
      go_ret
      exact ⟨rfl, HB.out⟩
  · have d1 : decide ((1 : Int) ≤ (l.length : Int)) = false := by simp; omega
    have hk : okCols l = false := by simp only [okCols, c1, decide_false, Bool.false_and]
    rw [hk]
    clear hk c1
    go_enter Try.func91, Try.ntmps91
    go_wp2_with fail
    go_ret
    exact ⟨rfl, HB.out⟩

set_option maxHeartbeats 1000000 in
theorem badTb_calls (t : Tb) (w : World) (h : Is w t.a t.cols) (hl : t.cols.length ≤ 9223372036854775807) : Calls Try.prog 90 #[.agg #[.slice t.a t.cols.length t.cap]] w fun e w' => e = .returned (.bool (badTb t)) ∧ Below w.heap.size w w' := by
  have hX : Row (w.alloc (.cells #[.slice t.a t.cols.length t.cap] 135)) w.heap.size 135 [.slice t.a t.cols.length t.cap] := new_at rfl
  have hb : Below w.heap.size w (w.alloc (.cells #[.slice t.a t.cols.length t.cap] 135)) := (Below.refl _ _).alloc (Nat.le_refl _) _
  have x0 := hX.cell (i := 0) rfl
  have E1 := Lib.hid (isTable_calls t _ (h.keep hb) hl)
  have HB := Lib.hid hb
  have hk : badTb t = !okCols t.cols := rfl
  rw [hk]
  generalize okCols t.cols = C at *
  clear hX hb hk
  go_enter Try.func90, Try.ntmps90
  go_wp2_with fail
  refine E1.out.mono ?_
  rintro e w1 ⟨rfl, k1⟩
  have B1 := Lib.hid (HB.out.trans (k1.mono HB.out.size))
  go_wp2_with fail
  go_ret
  exact ⟨rfl, B1.out⟩
set_option maxHeartbeats 800000 in
theorem tableIndex_calls (a : Option Addr) (n c : Nat) (xs : List Tb) (w : World) (h : Els Tb.cells 1 w a xs) (hl : xs.length = n) (hn : n ≤ 9223372036854775807) (HT : RowKit.Hid (∀ t ∈ xs, Is w t.a t.cols ∧ t.cols.length ≤ 9223372036854775807)):
    Calls Try.prog 141 #[.slice a n c, .func (.func 90) #[] #[]] w fun e w' => (∃ k : Int, e = .returned (.int .i64 k) ∧ decide (0 ≤ k) = xs.any (badTb)) ∧ Below w.heap.size w w' := by
  have ES := Lib.hid h
  clear h
  go_enter Try.func141, Try.ntmps141
  go_wp2_with fail
  go_loopw [8] (fun i wr => ∃ j : Nat, j ≤ n ∧ i = .int .i64 j ∧ (xs.take j).any (badTb) = false ∧ Below w.heap.size w wr) (fun i _ => n - (intOf i).toNat)
  case atStart => exact ⟨0, by omega, rfl, rfl, Below.refl _ _⟩
  case round =>
    obtain ⟨j, hj, rfl, hany, hb⟩ := hrel
    by_cases hlt : j < n
    · have hlt2 : j < xs.length := by omega
      obtain ⟨ad, rfl, hlb, hz0, hz1⟩ := ES.out.at hlt2 hb
      have hlt' : (j : Int) < (n : Int) := by omega
      have hnext : (xs.take (j + 1)).any (badTb) = badTb xs[j] := by rw [List.take_add_one, List.getElem?_eq_getElem hlt2, List.any_append, hany]; simp
      have hall : badTb xs[j] = true → xs.any (badTb) = true := fun hb => List.any_eq_true.2 ⟨_, List.getElem_mem hlt2, hb⟩
      have hmem := List.getElem_mem hlt2
      generalize xs[j] = x at *
      skip
      have y0 := hz0 _ rfl
      try rw [Nat.mul_one] at y0

      have CL := Lib.hid (fun (wz : World) (hbz : Below w.heap.size w wz) => badTb_calls x wz ((HT.out x hmem).1.keep hbz) (HT.out x hmem).2)
      have HN := Lib.hid hnext
      have HA := Lib.hid hall
      have HB := Lib.hid hb
      clear hnext hall hany hz0 hz1 hb hmem
      go_wp2_with fail
      refine (CL.out _ HB.out).mono ?_
      rintro e w2 ⟨rfl, hb2⟩
      have HB2 := Lib.hid (below_next HB.out hb2 (Nat.le_refl _))
      cases hbad : badTb (x)
      · rw [hbad] at HN
        have hbad' : (!badTb (x)) = true := by rw [hbad]; rfl
        have HBAD := Lib.hid hbad
        clear hb2 hbad hbad' HA
        go_wp2_with fail
        first
        | exact ⟨⟨j + 1, by omega, by go_num, HN.out, HB2.out⟩, by simp [intOf]; omega⟩
        | (go_roundw
           case rel => exact ⟨j + 1, by omega, by go_num, HN.out, HB2.out⟩
           case measure => simp [intOf]; omega)
      · have HF := Lib.hid (HA.out hbad)
        clear hb2 HA
        go_wp2_with fail
        go_ret
        exact ⟨⟨j, rfl, by rw [HF.out]; simp⟩, HB2.out⟩
    · obtain rfl : j = n := by omega
      have hx : xs.any (badTb) = false := by rw [← List.take_of_length_le (Nat.le_of_eq hl)]; exact hany
      have HF := Lib.hid hx
      clear hx hany
      go_wp2_with fail
      go_ret
      exact ⟨⟨-1, rfl, by rw [HF.out]; simp⟩, hb⟩

set_option maxHeartbeats 800000 in
theorem tableContains_calls (a : Option Addr) (n c : Nat) (xs : List Tb) (w : World) (h : Els Tb.cells 1 w a xs) (hl : xs.length = n) (hn : n ≤ 9223372036854775807) (HT : RowKit.Hid (∀ t ∈ xs, Is w t.a t.cols ∧ t.cols.length ≤ 9223372036854775807)):
    Calls Try.prog 94 #[.slice a n c, .func (.func 90) #[] #[]] w fun e w' => e = .returned (.bool (xs.any (badTb))) ∧ Below w.heap.size w w' := by
  go_enter Try.func94, Try.ntmps94
  go_wp2_with fail
  refine (tableIndex_calls a n c xs _ h hl hn HT).mono ?_
  rintro e w2 ⟨⟨k, rfl, hk⟩, hb⟩
  have HK := Lib.hid hk
  clear hk
  go_wp2_with fail
  go_ret
  refine ⟨?_, hb⟩
  show Ending.returned (.bool (decide (0 ≤ k))) = _
  rw [HK.out]
end Go.Proofs.Ytcfjooeagfollaa.Plan
