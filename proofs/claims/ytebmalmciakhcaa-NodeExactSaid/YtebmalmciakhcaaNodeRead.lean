/- node.Read. Printed by node_read.py -/
import Derived.Test.YtebmalmciakhcaaNodeMath
import Derived.Deep.RegionLaw
namespace Go.Proofs.Ytebmalmciakhcaa.Node
open Go.RowKit Go.Proofs.Ytebmalmciakhcaa.Mem Go.Proofs.Ytebmalmciakhcaa.Bytes Go.Proofs.Ytebmalmciakhcaa.Ord
set_option linter.unusedSimpArgs false
set_option linter.unusedVariables false

theorem below_one' {B b : Nat} {w w1 w2 : World} (h : Below B w w1) (k : Chg (One b) w1 w2) (hB : B ≤ w1.heap.size) (hb : B ≤ b) : Below B w w2 := h.trans (k.below hB (fun x hx => by rw [show x = b from hx]; exact hb))
theorem own_len {w : World} {base : Nat} {e : TypeId} {sz : Nat} {v : Value} {n m : Nat} {xs : List Value} (h : w.ownsRow base e sz v n xs) (e' : n = m) : w.ownsRow base e sz v m xs := e' ▸ h
theorem take_of {b : Nat} {s s' : St} {n : Nat} {l : List UInt8} (q : eTake s n = (l, s')) (w : World) (h : Eye w b s) (hn : n ≤ 9223372036854775807) (hs : s.1.length ≤ 9223372036854775807) :
    Calls Try.prog 41 #[.pointer (some ⟨b, 0, none⟩), .int .i64 (n : Int)] w fun e w' => e = .returned (.string (bs l)) ∧ Eye w' b s' ∧ Chg (One b) w w' := by
  have h := take_calls b s n w h hn hs
  rw [q] at h
  exact h
theorem enum_of {b : Nat} {s s' : St} {k n : Nat} (q : eNum s k = (n, s')) (w : World) (h : Eye w b s) (hk : k ≤ 4) (hs : s.1.length ≤ 9223372036854775807) :
    Calls Try.prog 40 #[.pointer (some ⟨b, 0, none⟩), .int .i64 (k : Int)] w fun e w' => e = .returned (.int .i64 (n : Int)) ∧ Eye w' b s' ∧ Chg (One b) w w' := by
  have h := enum_calls b s k w h hk hs
  rw [q] at h
  exact h
theorem eTake_at (t : List UInt8) (i k : Nat) (h : i + k ≤ t.length) : eTake (t.drop i, false) k = ((t.drop i).take k, (t.drop (i + k), false)) := by
  unfold eTake
  simp only [List.length_drop]
  rw [if_neg (by omega), List.drop_drop]
theorem eNum_at (t : List UInt8) (i k : Nat) (h : i + k ≤ t.length) : eNum (t.drop i, false) k = (num t i k, (t.drop (i + k), false)) := by
  unfold eNum num
  rw [eTake_at t i k h]
theorem eTake_bad (s : St) (n : Nat) (h : s.2 = true) : (eTake s n).2.2 = true := by
  unfold eTake
  split
  · rfl
  · exact h
/-- One entry, by the eye. -/
theorem step_fits {D : List UInt8} (h : entFits D = true) : eTake (D, false) 9 = (D.take 9, (D.drop 9, false)) ∧ eNum (D.drop 9, false) 1 = (num D 9 1, (D.drop 10, false)) ∧ eNum (D.drop 10, false) 1 = (num D 10 1, (D.drop 11, false)) ∧ eTake (D.drop 11, false) (num D 10 1) = ((D.drop 11).take (num D 10 1), (D.drop (entLen D), false)) := by
  simp only [entFits, Bool.and_eq_true, decide_eq_true_eq] at h
  have h2 : 11 + num D 10 1 ≤ D.length := h.2
  exact ⟨eTake_at D 0 9 (by omega), eNum_at D 9 1 (by omega), eNum_at D 10 1 (by omega), eTake_at D 11 _ h2⟩
theorem step_bad {D l1 l4 : List UInt8} {s1 s2 s3 s4 : St} {n2 n3 : Nat} (h : entFits D = false) (q1 : eTake (D, false) 9 = (l1, s1)) (q2 : eNum s1 1 = (n2, s2)) (q3 : eNum s2 1 = (n3, s3)) (q4 : eTake s3 n3 = (l4, s4)) : s4.2 = true := by
  have e2 : s2 = (eTake s1 1).2 := by have := congrArg Prod.snd q2; exact this.symm
  have e3 : s3 = (eTake s2 1).2 := by have := congrArg Prod.snd q3; exact this.symm
  have e4 : s4 = (eTake s3 n3).2 := by rw [q4]
  have e1 : s1 = (eTake (D, false) 9).2 := by rw [q1]
  have b4 : s3.2 = true → s4.2 = true := fun h => by rw [e4]; exact eTake_bad _ _ h
  have b3 : s2.2 = true → s3.2 = true := fun h => by rw [e3]; exact eTake_bad _ _ h
  have b2 : s1.2 = true → s2.2 = true := fun h => by rw [e2]; exact eTake_bad _ _ h
  by_cases h9 : D.length < 9
  · exact b4 (b3 (b2 (by rw [e1]; unfold eTake; rw [if_pos h9])))
  · rw [show eTake (D, false) 9 = (D.take 9, (D.drop 9, false)) from eTake_at D 0 9 (by omega)] at e1
    simp only at e1
    subst e1
    by_cases h10 : D.length < 10
    · exact b4 (b3 (by rw [e2]; unfold eTake; simp only [List.length_drop]; rw [if_pos (by omega)]))
    · rw [show eTake (D.drop 9, false) 1 = ((D.drop 9).take 1, (D.drop 10, false)) from eTake_at D 9 1 (by omega)] at e2
      simp only at e2
      subst e2
      by_cases h11 : D.length < 11
      · exact b4 (by rw [e3]; unfold eTake; simp only [List.length_drop]; rw [if_pos (by omega)])
      · have e10 := eNum_at D 10 1 (by omega)
        rw [q3] at e10
        cases e10
        rw [e4]
        unfold eTake
        simp only [List.length_drop]
        rw [if_pos]
        unfold entFits at h
        rw [Bool.and_eq_false_iff, decide_eq_false_iff_not, decide_eq_false_iff_not] at h
        unfold entLen at h
        omega
def readPost (f0 f1 : Value) (r : Option Nd) (w : World) (e : Ending) (w' : World) : Prop := match r with
  | none => e = .returned (.tuple #[.agg #[.int .i64 0, .int .i64 0, .int .i64 0, .bool false, .string ⟨#[]⟩, .int .i64 0, .slice none 0 0], f0]) ∧ Below w.heap.size w w'
  | some n => ∃ a cap, e = .returned (.tuple #[.agg (n.cells (.slice a n.list.length cap)).toArray, f1]) ∧ Es w' a n.list ∧ Below w.heap.size w w'
theorem info_ent : (Try.prog.info? 44).map (fun i => (i.zero, i.size, i.bytes)) = some (some (.agg #[.string ⟨#[]⟩, .string ⟨#[]⟩, .bool false]), 3, 40) := by kernel_rfl
theorem ent_size : (Value.agg #[.string ⟨#[]⟩, .string ⟨#[]⟩, .bool false]).cells.size = 3 := by rfl
theorem zero_one : ∀ x ∈ ([.int .i64 0, .int .i64 0, .int .i64 0, .bool false, .string ⟨#[]⟩, .int .i64 0, .slice none 0 0] : List Value), x.oneCell' = true := by simp [Value.oneCell']
theorem cells_one (n : Nd) (a : Option Addr) (k cap : Nat) : ∀ x ∈ n.cells (.slice a k cap), x.oneCell' = true := by simp [Nd.cells, Value.oneCell']
theorem num_one (t : List UInt8) (i : Nat) : num t i 1 < 256 := by
  unfold num
  have := lev_lt ((t.drop i).take 1)
  have h2 : ((t.drop i).take 1).length ≤ 1 := by rw [List.length_take]; omega
  have h3 := Nat.pow_le_pow_right (show 0 < 256 by omega) h2
  omega
theorem num_two (t : List UInt8) (i : Nat) : num t i 2 < 65536 := by
  unfold num
  have := lev_lt ((t.drop i).take 2)
  have h2 : ((t.drop i).take 2).length ≤ 2 := by rw [List.length_take]; omega
  have h3 := Nat.pow_le_pow_right (show 0 < 256 by omega) h2
  omega

set_option maxHeartbeats 8000000 in
set_option maxRecDepth 8000 in
theorem read_calls (s : ByteArray) (w : World) (hs : s.size ≤ 100000) : Calls Try.prog 17 #[.string s] w fun e w' => readPost (.int .i64 3) (.int .i64 0) (nRead s.data.toList) w e w' := by
  have hR : Row (w.alloc (.cells #[.int .i64 0, .int .i64 0, .int .i64 0, .bool false, .string ⟨#[]⟩, .int .i64 0, .slice none 0 0] 24)) w.heap.size 24 [.int .i64 0, .int .i64 0, .int .i64 0, .bool false, .string ⟨#[]⟩, .int .i64 0, .slice none 0 0] := new_at rfl
  have hb : Below w.heap.size w (w.alloc (.cells #[.int .i64 0, .int .i64 0, .int .i64 0, .bool false, .string ⟨#[]⟩, .int .i64 0, .slice none 0 0] 24)) := (Below.refl _ _).alloc (Nat.le_refl _) _
  have fin : ∀ (w' : World) (a : Act), nRead s.data.toList = none → Row w' w.heap.size 24 [.int .i64 0, .int .i64 0, .int .i64 0, .bool false, .string ⟨#[]⟩, .int .i64 0, .slice none 0 0] → Below w.heap.size w w' → a.tmps.getD 2 undef = .pointer (some ⟨w.heap.size, 0, none⟩) → a.tmps.getD 3 undef = .int .i64 3 → a.defers = [] →
      bodyPost Try.prog Try.f17 (fun e w' => readPost (.int .i64 3) (.int .i64 0) (nRead s.data.toList) w e w') .ret a w' := fun w' a hnn hr hbb h2 h3 hd =>
    ret_row2 hr Try.results17 Try.underlying24 rfl (by kernel_rfl) h2 hd (by rw [hnn, h3]; exact ⟨rfl, hbb⟩)
  have FIN := Lib.hid fin
  have hopen := Crc.open_calls s (w.alloc (.cells #[.int .i64 0, .int .i64 0, .int .i64 0, .bool false, .string ⟨#[]⟩, .int .i64 0, .slice none 0 0] 24)) (by omega)
  have R := Lib.hid hR
  have B := Lib.hid hb
  clear hR hb fin
  cases hop : Crc.opened s.data.toList with
  | none =>
    have hnn : nRead s.data.toList = none := by unfold nRead; rw [hop]
    rw [Crc.openedV, hop] at hopen
    have OP := Lib.hid hopen
    clear hopen hop
    go_enter Try.func17, Try.ntmps17
    go_wp2_with fail
    refine OP.out.mono ?_
    rintro e w1 ⟨rfl, h1⟩
    have R1 := Lib.hid (R.out.below h1 R.out.lt)
    have B1 := Lib.hid (B.out.trans (h1.mono B.out.size))
    clear h1
    go_wp2_with (refine store_row R1.out [.int .i64 0, .int .i64 0, .int .i64 0, .bool false, .string ⟨#[]⟩, .int .i64 0, .slice none 0 0] 24 (by kernel_rfl) rfl zero_one rfl rfl rfl rfl ?_; intro wz hRz hcz hsz)
    exact FIN.out _ _ hnn hRz (below_one' B1.out hcz B1.out.size (Nat.le_refl _)) rfl rfl rfl
  | some t =>
    rw [Crc.openedV, hop] at hopen
    by_cases h252 : t.length = 252
    rotate_left
    · have hnn : nRead s.data.toList = none := by unfold nRead; rw [hop]; simp only; rw [if_neg h252]
      have d252 : (((bs t).size : Int) != 252) = true := by rw [bs_size]; simp; omega
      have OP := Lib.hid hopen
      clear hopen hop
      go_enter Try.func17, Try.ntmps17
      go_wp2_with fail
      refine OP.out.mono ?_
      rintro e w1 ⟨rfl, h1⟩
      have R1 := Lib.hid (R.out.below h1 R.out.lt)
      have B1 := Lib.hid (B.out.trans (h1.mono B.out.size))
      clear h1
      go_wp2_with (refine store_row R1.out [.int .i64 0, .int .i64 0, .int .i64 0, .bool false, .string ⟨#[]⟩, .int .i64 0, .slice none 0 0] 24 (by kernel_rfl) rfl zero_one rfl rfl rfl rfl ?_; intro wz hRz hcz hsz)
      exact FIN.out _ _ hnn hRz (below_one' B1.out hcz B1.out.size (Nat.le_refl _)) rfl rfl rfl
    · have hrd : nRead s.data.toList = (match parse t with
          | none => none
          | some n => if n.fits = true ∧ n.bytes = s.data.toList then some n else none) := by unfold nRead; rw [hop]; exact if_pos h252
      have d252 : (((bs t).size : Int) != 252) = false := by rw [bs_size]; simp; omega
      have RD := Lib.hid hrd
      have OP := Lib.hid hopen
      clear hopen hop hrd
      obtain ⟨q, hi, hHD, hcase⟩ : ∃ (q : Bool) (hi : ByteArray), (∀ es, hd t es = ⟨(num t 0 1 : Int), (num t 1 1 : Int), (num t 2 4 : Int), q, hi, (num t 16 2 : Int), es⟩) ∧ ((q = true ∧ hi = bs ((t.drop 7).take 9) ∧ ((num t 6 1 : Int) == 1) = true) ∨ (q = false ∧ hi = ⟨#[]⟩ ∧ ((num t 6 1 : Int) == 1) = false)) := by
        by_cases h6 : num t 6 1 = 1
        · exact ⟨true, bs ((t.drop 7).take 9), fun es => by unfold hd; rw [h6]; rfl, .inl ⟨rfl, rfl, by rw [h6]; rfl⟩⟩
        · exact ⟨false, ⟨#[]⟩, fun es => by unfold hd; rw [if_neg h6, show (num t 6 1 == 1) = false by simpa using h6], .inr ⟨rfl, rfl, by simp; omega⟩⟩
      have HD := Lib.hid hHD
      clear hHD
      rcases hcase with ⟨rfl, hhi, hq⟩ | ⟨rfl, hhi, hq⟩
      · have HHI := Lib.hid hhi
        clear hhi
        go_enter Try.func17, Try.ntmps17
        go_wp2_with fail
        refine OP.out.mono ?_
        rintro e w1 ⟨rfl, h1⟩
        have hwb : w.heap.size < w1.heap.size := (R.out.below h1 R.out.lt).lt
        replace R := Lib.hid ((R.out.below h1 R.out.lt).alloc (.cells #[.string (bs t), .bool false] 75))
        replace B := Lib.hid ((B.out.trans (h1.mono B.out.size)).alloc (Nat.le_of_lt hwb) (.cells #[.string (bs t), .bool false] 75))
        have E : Hid (Eye (w1.alloc (.cells #[.string (bs t), .bool false] 75)) w1.heap.size (t.drop 0, false)) := Lib.hid (new_at rfl)
        clear h1 OP
        obtain ⟨b, hbe⟩ : ∃ b, b = w1.heap.size := ⟨_, rfl⟩
        go_wp2_with fail
        rw [← hbe] at E hwb ⊢
        clear hbe
        generalize w1.alloc (.cells #[.string (bs t), .bool false] 75) = w2 at *
        refine (enum_of (eNum_at t 0 1 (by omega)) _ E.out (by omega) (by simp; omega)).mono ?_
        rintro e w3 ⟨rfl, h3, hc3⟩
        replace E := Lib.hid h3
        replace R := Lib.hid (R.out.chg hc3 (by show ¬ w.heap.size = b; omega))
        replace B := Lib.hid (below_one' B.out hc3 B.out.size (Nat.le_of_lt hwb))
        clear h3 hc3
        go_wp2_with fail
        refine (enum_of (eNum_at t 1 1 (by omega)) _ E.out (by omega) (by simp; omega)).mono ?_
        rintro e w3 ⟨rfl, h3, hc3⟩
        replace E := Lib.hid h3
        replace R := Lib.hid (R.out.chg hc3 (by show ¬ w.heap.size = b; omega))
        replace B := Lib.hid (below_one' B.out hc3 B.out.size (Nat.le_of_lt hwb))
        clear h3 hc3
        go_wp2_with fail
        refine (enum_of (eNum_at t 2 4 (by omega)) _ E.out (by omega) (by simp; omega)).mono ?_
        rintro e w3 ⟨rfl, h3, hc3⟩
        replace E := Lib.hid h3
        replace R := Lib.hid (R.out.chg hc3 (by show ¬ w.heap.size = b; omega))
        replace B := Lib.hid (below_one' B.out hc3 B.out.size (Nat.le_of_lt hwb))
        clear h3 hc3
        go_wp2_with fail
        refine (enum_of (eNum_at t 6 1 (by omega)) _ E.out (by omega) (by simp; omega)).mono ?_
        rintro e w3 ⟨rfl, h3, hc3⟩
        replace E := Lib.hid h3
        replace R := Lib.hid (R.out.chg hc3 (by show ¬ w.heap.size = b; omega))
        replace B := Lib.hid (below_one' B.out hc3 B.out.size (Nat.le_of_lt hwb))
        clear h3 hc3
        obtain ⟨nb, hnb⟩ : ∃ nb, nb = w3.heap.size := ⟨_, rfl⟩
        have hbn : b < nb := by rw [hnb]; exact E.out.lt
        have hN0 : Row (w3.alloc (.cells #[.int .i64 (num t 0 1 : Int), .int .i64 (num t 1 1 : Int), .int .i64 (num t 2 4 : Int), .bool true, .string ⟨#[]⟩, .int .i64 0, .slice none 0 0] 24)) nb 24 [.int .i64 (num t 0 1 : Int), .int .i64 (num t 1 1 : Int), .int .i64 (num t 2 4 : Int), .bool true, .string ⟨#[]⟩, .int .i64 0, .slice none 0 0] := new_at hnb
        replace E := Lib.hid (E.out.alloc (.cells #[.int .i64 (num t 0 1 : Int), .int .i64 (num t 1 1 : Int), .int .i64 (num t 2 4 : Int), .bool true, .string ⟨#[]⟩, .int .i64 0, .slice none 0 0] 24))
        replace R := Lib.hid (R.out.alloc (.cells #[.int .i64 (num t 0 1 : Int), .int .i64 (num t 1 1 : Int), .int .i64 (num t 2 4 : Int), .bool true, .string ⟨#[]⟩, .int .i64 0, .slice none 0 0] 24))
        replace B := Lib.hid (B.out.alloc B.out.size (.cells #[.int .i64 (num t 0 1 : Int), .int .i64 (num t 1 1 : Int), .int .i64 (num t 2 4 : Int), .bool true, .string ⟨#[]⟩, .int .i64 0, .slice none 0 0] 24))
        have NR := Lib.hid hN0
        clear hN0
        go_wp2_with fail
        rw [← hnb]
        clear hnb
        generalize w3.alloc (.cells #[.int .i64 (num t 0 1 : Int), .int .i64 (num t 1 1 : Int), .int .i64 (num t 2 4 : Int), .bool true, .string ⟨#[]⟩, .int .i64 0, .slice none 0 0] 24) = w4 at *
        refine (take_of (eTake_at t 7 9 (by omega)) _ E.out (by omega) (by simp; omega)).mono ?_
        rintro e w5 ⟨rfl, h3, hc3⟩
        replace E := Lib.hid h3
        replace R := Lib.hid (R.out.chg hc3 (by show ¬ w.heap.size = b; omega))
        replace NR := Lib.hid (NR.out.chg hc3 (by show ¬ nb = b; omega))
        replace B := Lib.hid (below_one' B.out hc3 B.out.size (Nat.le_of_lt hwb))
        clear h3 hc3
        have n3 := NR.out.cell (i := 3) rfl
        have n4 := NR.out.cell (i := 4) rfl
        have f4 := NR.out.frozen 4 (by simp)
        go_wp2_with fail
        clear n3 n4 f4
        have hset : Chg (One nb) w5 (w5.setCell ⟨nb, 4, none⟩ (.string (bs ((t.drop 7).take 9)))) := (Chg.refl _ _).put _ _
        replace E := Lib.hid (E.out.chg hset (by show ¬ b = nb; omega))
        replace R := Lib.hid (R.out.chg hset (by show ¬ w.heap.size = nb; omega))
        replace B := Lib.hid (below_one' B.out hset B.out.size (by omega))
        have hN1 := (NR.out.set 4 (.string (bs ((t.drop 7).take 9))))
        simp only [List.set] at hN1
        rw [← HHI.out] at hN1 E R B ⊢
        replace NR : Hid (Row _ nb 24 [.int .i64 (num t 0 1 : Int), .int .i64 (num t 1 1 : Int), .int .i64 (num t 2 4 : Int), .bool true, .string hi, .int .i64 0, .slice none 0 0]) := Lib.hid hN1
        clear hN1 hset
        generalize w5.setCell ⟨nb, 4, none⟩ (.string hi) = w5 at *
        refine (enum_of (eNum_at t 16 2 (by omega)) _ E.out (by omega) (by simp; omega)).mono ?_
        rintro e w6 ⟨rfl, h3, hc3⟩
        replace E := Lib.hid h3
        replace R := Lib.hid (R.out.chg hc3 (by show ¬ w.heap.size = b; omega))
        replace NR := Lib.hid (NR.out.chg hc3 (by show ¬ nb = b; omega))
        replace B := Lib.hid (below_one' B.out hc3 B.out.size (Nat.le_of_lt hwb))
        clear h3 hc3
        have n5 := NR.out.cell (i := 5) rfl
        have f5 := NR.out.frozen 5 (by simp)
        go_wp2_with fail
        clear n5 f5
        have hset : Chg (One nb) w6 (w6.setCell ⟨nb, 5, none⟩ (.int .i64 (num t 16 2 : Int))) := (Chg.refl _ _).put _ _
        replace E := Lib.hid (E.out.chg hset (by show ¬ b = nb; omega))
        replace R := Lib.hid (R.out.chg hset (by show ¬ w.heap.size = nb; omega))
        replace B := Lib.hid (below_one' B.out hset B.out.size (by omega))
        have hN1 := (NR.out.set 5 (.int .i64 (num t 16 2 : Int)))
        simp only [List.set] at hN1
        replace NR := Lib.hid hN1
        clear hN1 hset
        generalize w6.setCell ⟨nb, 5, none⟩ (.int .i64 (num t 16 2 : Int)) = w7 at *
        refine (enum_of (eNum_at t 18 2 (by omega)) _ E.out (by omega) (by simp; omega)).mono ?_
        rintro e w8 ⟨rfl, h3, hc3⟩
        replace E := Lib.hid h3
        replace R := Lib.hid (R.out.chg hc3 (by show ¬ w.heap.size = b; omega))
        replace NR := Lib.hid (NR.out.chg hc3 (by show ¬ nb = b; omega))
        replace B := Lib.hid (below_one' B.out hc3 B.out.size (Nat.le_of_lt hwb))
        clear h3 hc3
        obtain ⟨H1, hH1⟩ : ∃ H1, H1 = w8.heap.size := ⟨_, rfl⟩
        have hnH : nb < H1 := by rw [hH1]; exact NR.out.lt
        obtain ⟨c, hc⟩ : ∃ c, num t 18 2 = c := ⟨_, rfl⟩
        have hc2 := num_two t 18
        rw [hc] at hc2 ⊢
        have HC := Lib.hid hc
        clear hc
        go_wp2_with fail
        go_loopw [9] (fun kv wr => ∃ (m : Nat) (vs : List Ent) (D : List UInt8) (bad : Bool) (v : Value), kv = .int .i64 (m : Int) ∧ vs.length + m = c ∧ D.length ≤ 252 ∧ (bad = false → entsN c (t.drop 20) = (entsN m D).map (vs ++ ·)) ∧ (bad = true → entsN c (t.drop 20) = none) ∧ Eye wr b (D, bad) ∧ Row wr nb 24 [.int .i64 (num t 0 1 : Int), .int .i64 (num t 1 1 : Int), .int .i64 (num t 2 4 : Int), .bool true, .string hi, .int .i64 (num t 16 2 : Int), v] ∧ Row wr w.heap.size 24 [.int .i64 0, .int .i64 0, .int .i64 0, .bool false, .string ⟨#[]⟩, .int .i64 0, .slice none 0 0] ∧ wr.ownsRow H1 44 3 v vs.length (vs.flatMap Ent.cells) ∧ H1 ≤ wr.heap.size ∧ Below w.heap.size w wr) (fun kv _ => (intOf kv).toNat)
        case atStart => exact ⟨c, [], t.drop 20, false, .slice none 0 0, rfl, by simp, by rw [List.length_drop]; omega, by simp, by simp, E.out, NR.out, R.out, World.ownsRow_nil _ _ _ _, Nat.le_of_eq hH1, B.out⟩
        case round =>
          clear E R NR B hH1
          obtain ⟨m, vs, D, bad, v, rfl, hvm, hDl, hgo, hno, hE, hN, hR, ho, hH, hb⟩ := hrel
          have E := Lib.hid hE
          have R := Lib.hid hR
          have NR := Lib.hid hN
          have B := Lib.hid hb
          have e1 := E.out.cell (i := 1) rfl
          simp only at e1
          clear hE hR hN hb
          cases bad with
          | true =>
            have hpn : parse t = none := by unfold parse; rw [HC.out, hno rfl]; rfl
            have hnn : nRead s.data.toList = none := by rw [RD.out, hpn]
            have NN := Lib.hid hnn
            clear hgo hno hpn hnn ho
            by_cases hm : m = 0
            · subst hm
              go_wp2_with (refine store_row R.out [.int .i64 0, .int .i64 0, .int .i64 0, .bool false, .string ⟨#[]⟩, .int .i64 0, .slice none 0 0] 24 (by kernel_rfl) rfl zero_one rfl rfl rfl rfl ?_; intro wz hRz hcz hsz)
              exact FIN.out _ _ NN.out hRz (below_one' B.out hcz B.out.size (Nat.le_refl _)) rfl rfl rfl
            · have hm' : (0 : Int) < (m : Int) := by omega
              go_wp2_with (refine store_row R.out [.int .i64 0, .int .i64 0, .int .i64 0, .bool false, .string ⟨#[]⟩, .int .i64 0, .slice none 0 0] 24 (by kernel_rfl) rfl zero_one rfl rfl rfl rfl ?_; intro wz hRz hcz hsz)
              exact FIN.out _ _ NN.out hRz (below_one' B.out hcz B.out.size (Nat.le_refl _)) rfl rfl rfl
          | false =>
            by_cases hm : m = 0
            · subst hm
              have hps : parse t = some (hd t vs) := by unfold parse; rw [HC.out, hgo rfl]; simp [entsN]
              obtain ⟨a, cap, rfl, hes, hpos⟩ := es_own ho rfl
              have hlv : vs.length ≤ 9223372036854775807 := by omega
              have BC := Lib.hid (fun (w9 : World) (h9 : Below w.heap.size w w9) (hE : Es w9 a vs) => bytes_calls (hd t vs) a cap w9 hE hlv)
              have hdl : (hd t vs).list = vs := rfl
              rw [HD.out vs] at hps BC
              obtain ⟨n, hn⟩ : ∃ n : Nd, n = ⟨(num t 0 1 : Int), (num t 1 1 : Int), (num t 2 4 : Int), true, hi, (num t 16 2 : Int), vs⟩ := ⟨_, rfl⟩
              have hcs : [.int .i64 (num t 0 1 : Int), .int .i64 (num t 1 1 : Int), .int .i64 (num t 2 4 : Int), .bool true, .string hi, .int .i64 (num t 16 2 : Int), .slice a vs.length cap] = n.cells (.slice a vs.length cap) := by rw [hn]; rfl
              have hnl : n.list = vs := by rw [hn]
              rw [← hn] at hps BC
              rw [hnl] at BC
              have hrn : nRead s.data.toList = if n.fits = true ∧ n.bytes = s.data.toList then some n else none := by rw [RD.out, hps]
              have NRC := Lib.hid (NR.out.cast hcs)
              have ESV := Lib.hid hes
              have HRN := Lib.hid hrn
              clear hgo hno ho hcs hps hes hrn NR hn HD
              by_cases hfi : n.fits = true
              · rw [bytesOut_ok hfi] at BC
                obtain ⟨N, hNe⟩ : ∃ N, n.bytes = N := ⟨_, rfl⟩
                rw [hNe] at BC HRN
                by_cases hq2 : N = s.data.toList
                · have hss : nRead s.data.toList = some n := by rw [HRN.out, if_pos ⟨hfi, hq2⟩]
                  have SS := Lib.hid hss
                  have hq3 : ((bs N).toList == s.toList) = true := by rw [beq_iff_eq, hq2]; rfl
                  clear hss hq2 hNe
                  go_wp2_with (refine load_row NRC.out 24 Try.underlying24 rfl (by kernel_rfl) rfl rfl rfl ?_)
                  refine (BC.out _ B.out ESV.out).mono ?_
                  rintro e w9 ⟨rfl, h9⟩
                  have R9 := Lib.hid (R.out.below h9 R.out.lt)
                  have N9 := Lib.hid (NRC.out.below h9 NRC.out.lt)
                  have B9 := Lib.hid (B.out.trans (h9.mono B.out.size))
                  have ES9 := Lib.hid (ESV.out.keep h9)
                  clear h9 R B NRC ESV BC
                  go_wp2_with (first
                    | (refine store_row R9.out (n.cells (.slice a vs.length cap)) 24 (by kernel_rfl) rfl (cells_one _ _ _ _) rfl rfl rfl rfl ?_; intro wz hRz hcz hsz)
                    | (refine load_row N9.out 24 Try.underlying24 rfl (by kernel_rfl) rfl rfl rfl ?_))
                  refine ret_row2 hRz Try.results17 Try.underlying24 rfl (by kernel_rfl) rfl rfl ?_
                  rw [SS.out]
                  have hez : Es wz a n.list := by
                    rw [hnl]
                    exact ES9.out.chg hcz (fun ad had hx => by have := hpos ad had; have hx' : ad.block = w.heap.size := hx; omega)
                  exact ⟨a, cap, by rw [hnl]; rfl, hez, below_one' B9.out hcz B9.out.size (Nat.le_refl _)⟩
                · have hnn : nRead s.data.toList = none := by rw [HRN.out, if_neg (fun h => hq2 h.2)]
                  have NN := Lib.hid hnn
                  have hq3 : ((bs N).toList == s.toList) = false := by
                    rw [beq_eq_false_iff_ne]
                    intro h
                    exact hq2 (congrArg (fun s => s.data.toList) (Bytes.toList_inj.1 h))
                  clear hnn hq2 hNe
                  go_wp2_with (refine load_row NRC.out 24 Try.underlying24 rfl (by kernel_rfl) rfl rfl rfl ?_)
                  refine (BC.out _ B.out ESV.out).mono ?_
                  rintro e w9 ⟨rfl, h9⟩
                  have R9 := Lib.hid (R.out.below h9 R.out.lt)
                  have B9 := Lib.hid (B.out.trans (h9.mono B.out.size))
                  clear h9 R B NRC ESV BC
                  go_wp2_with (refine store_row R9.out [.int .i64 0, .int .i64 0, .int .i64 0, .bool false, .string ⟨#[]⟩, .int .i64 0, .slice none 0 0] 24 (by kernel_rfl) rfl zero_one rfl rfl rfl rfl ?_; intro wz hRz hcz hsz)
                  exact FIN.out _ _ NN.out hRz (below_one' B9.out hcz B9.out.size (Nat.le_refl _)) rfl rfl rfl
              · have hnn : nRead s.data.toList = none := by rw [HRN.out, if_neg (fun h => hfi h.1)]
                have NN := Lib.hid hnn
                rw [Bool.not_eq_true] at hfi
                obtain ⟨cd, hbo, hcd⟩ : ∃ cd : Int, bytesOut n = ([], cd) ∧ (cd = 1 ∨ cd = 5) := by
                  by_cases hgd : n.good = true
                  · exact ⟨5, bytesOut_full hgd hfi, .inr rfl⟩
                  · exact ⟨1, bytesOut_bad (by simpa using hgd), .inl rfl⟩
                rw [hbo] at BC
                clear hnn hbo hfi
                rcases hcd with rfl | rfl
                all_goals
                  go_wp2_with (refine load_row NRC.out 24 Try.underlying24 rfl (by kernel_rfl) rfl rfl rfl ?_)
                  refine (BC.out _ B.out ESV.out).mono ?_
                  rintro e w9 ⟨rfl, h9⟩
                  have R9 := Lib.hid (R.out.below h9 R.out.lt)
                  have B9 := Lib.hid (B.out.trans (h9.mono B.out.size))
                  clear h9
                  go_wp2_with (refine store_row R9.out [.int .i64 0, .int .i64 0, .int .i64 0, .bool false, .string ⟨#[]⟩, .int .i64 0, .slice none 0 0] 24 (by kernel_rfl) rfl zero_one rfl rfl rfl rfl ?_; intro wz hRz hcz hsz)
                  exact FIN.out _ _ NN.out hRz (below_one' B9.out hcz B9.out.size (Nat.le_refl _)) rfl rfl rfl
            · obtain ⟨m', rfl⟩ : ∃ m', m = m' + 1 := ⟨m - 1, by omega⟩
              obtain ⟨l1, s1, g1⟩ : ∃ l1 s1, eTake (D, false) 9 = (l1, s1) := ⟨_, _, rfl⟩
              obtain ⟨n2, s2, g2⟩ : ∃ n2 s2, eNum s1 1 = (n2, s2) := ⟨_, _, rfl⟩
              obtain ⟨n3, s3, g3⟩ : ∃ n3 s3, eNum s2 1 = (n3, s3) := ⟨_, _, rfl⟩
              obtain ⟨l4, s4, g4⟩ : ∃ l4 s4, eTake s3 n3 = (l4, s4) := ⟨_, _, rfl⟩
              have z1 := eTake_rest (D, false) 9
              have z2 := eNum_rest s1 1
              have z3 := eNum_rest s2 1
              have z4 := eTake_rest s3 n3
              have z5 := eNum_lt s2 1
              rw [g1] at z1
              rw [g2] at z2
              rw [g3] at z3 z5
              rw [g4] at z4
              simp only at z1 z2 z3 z4 z5
              obtain ⟨gh, hgh⟩ : ∃ gh : Bool, ((n2 : Int) == 1) = gh := ⟨_, rfl⟩
              have hgh2 : (n2 == 1) = gh := by
                rw [← hgh]
                by_cases h : n2 = 1
                · subst h; rfl
                · rw [beq_eq_false_iff_ne.2 h, eq_comm, beq_eq_false_iff_ne]; omega
              have hnext : (s4.2 = false → entsN c (t.drop 20) = (entsN m' s4.1).map ((vs ++ [⟨bs l1, bs l4, gh⟩]) ++ ·)) ∧ (s4.2 = true → entsN c (t.drop 20) = none) := by
                cases hf : entFits D with
                | true =>
                  obtain ⟨k1, k2, k3, k4⟩ := step_fits hf
                  rw [g1] at k1
                  cases k1
                  rw [g2] at k2
                  cases k2
                  rw [g3] at k3
                  cases k3
                  rw [g4] at k4
                  cases k4
                  refine ⟨fun _ => ?_, fun h => by cases h⟩
                  have h9 := entsN_next (m := c) (k := vs.length) (L := t.drop 20) (D := D) (vs := vs) (by omega) hf (by rw [show c - vs.length = m' + 1 by omega]; exact hgo rfl)
                  rw [show c - (vs.length + 1) = m' by omega] at h9
                  rw [h9, ← hgh2]
                  rfl
                | false =>
                  have hb4 := step_bad hf g1 g2 g3 g4
                  refine ⟨fun h => absurd (hb4.symm.trans h) (by simp), fun _ => entsN_stop (k := vs.length) (m := c) (by omega) hf (by rw [show c - vs.length = m' + 1 by omega]; exact hgo rfl)⟩
              have NX := Lib.hid hnext
              have G1 := Lib.hid g1
              have G2 := Lib.hid g2
              have G3 := Lib.hid g3
              have G4 := Lib.hid g4
              have hm' : (0 : Int) < ((m' : Int) + 1) := by omega
              clear hnext g1 g2 g3 g4 hgh2 hgo hno
              go_wp2_with fail
              refine (take_of G1.out _ E.out (by omega) (by show D.length ≤ _; omega)).mono ?_
              rintro e wa ⟨rfl, h3, hc3⟩
              replace E := Lib.hid h3
              replace R := Lib.hid (R.out.chg hc3 (by show ¬ w.heap.size = b; omega))
              replace NR := Lib.hid (NR.out.chg hc3 (by show ¬ nb = b; omega))
              replace B := Lib.hid (below_one' B.out hc3 B.out.size (Nat.le_of_lt hwb))
              replace ho := Reel.own_chg ho hc3 (fun k hk hx => by have := (ho.lt k hk).1; have hx' : k = b := hx; omega)
              replace hH := Nat.le_trans hH hc3.size
              clear h3 hc3
              clear e1
              go_wp2_with fail
              refine (enum_of G2.out _ E.out (by omega) (by omega)).mono ?_
              rintro e wb ⟨rfl, h3, hc3⟩
              replace E := Lib.hid h3
              replace R := Lib.hid (R.out.chg hc3 (by show ¬ w.heap.size = b; omega))
              replace NR := Lib.hid (NR.out.chg hc3 (by show ¬ nb = b; omega))
              replace B := Lib.hid (below_one' B.out hc3 B.out.size (Nat.le_of_lt hwb))
              replace ho := Reel.own_chg ho hc3 (fun k hk hx => by have := (ho.lt k hk).1; have hx' : k = b := hx; omega)
              replace hH := Nat.le_trans hH hc3.size
              clear h3 hc3
              have x6 := NR.out.cell (i := 6) rfl
              have f6 := NR.out.frozen 6 (by simp)
              go_wp2_with fail
              have x6d : wb.drew.cell? ⟨nb, 6, none⟩ = some v := x6
              have hne : ∀ k, v.ownBlock = some k → ¬ One b k := fun k hk hx => by have := (ho.lt k hk).1; have hx' : k = b := hx; omega
              go_region_law (first
                  | (refine app1_step (news := [.string (bs l1), .string (bs l4), .bool gh]) hob2 (Below.refl H1 _) (Nat.le_trans hH (Nat.le_trans hc4.size hc5.size)) 22 Try.underlying22 info_ent ent_size (by decide) (by decide) (by omega) rfl (by simp [Value.oneCell']) rfl rfl rfl rfl ?_
                     intro v' wd hod hbd hgd
                     obtain ⟨a', cap', rfl, _⟩ := Reel.own_shape hod
                     have hNd := hNc.grown hgd (fun e => by have := (hob2.lt _ e.symm).1; omega)
                     have x6c := hNd.cell (i := 6) rfl
                     have f6c := hNd.frozen 6 (by simp))
                  | (go_simp
                     go_at_call 40
                     refine (enum_of G3.out _ E.out.drew (by omega) (by omega)).mono ?_
                     rintro e wc ⟨rfl, h4, hc4⟩
                     have hNb := NR.out.drew.chg hc4 (by show ¬ nb = b; omega)
                     have hob := Reel.own_chg (w := wb.drew) ho hc4 hne
                     have x6a := hNb.cell (i := 6) rfl)
                  | (go_simp
                     go_at_call 41
                     refine (take_of G4.out _ h4 (by omega) (by omega)).mono ?_
                     rintro e we ⟨rfl, h5, hc5⟩
                     have hNc := hNb.chg hc5 (by show ¬ nb = b; omega)
                     have hob2 := Reel.own_chg hob hc5 hne
                     have x6b := hNc.cell (i := 6) rfl
                     have x6e := (hNc.alloc (.cells #[.string (bs l1), .string (bs l4), .bool gh] 44)).cell (i := 6) rfl))
              all_goals
                have hRd := ((R.out.drew.chg hc4 (by show ¬ w.heap.size = b; omega)).chg hc5 (by show ¬ w.heap.size = b; omega)).grown hgd (fun e => by have := (hob2.lt _ e.symm).1; omega)
                have hEd := h5.grown hgd (fun e => by have := (hob2.lt _ e.symm).1; omega)
                have hBd1 := below_one' (below_one' B.out.drew hc4 B.out.drew.size (Nat.le_of_lt hwb)) hc5 (Nat.le_trans B.out.drew.size hc4.size) (Nat.le_of_lt hwb)
                have hBd := hBd1.trans ((Chg.of_grown hgd).below hBd1.size (fun k hk => by have := (hob2.lt k hk.symm).1; omega))
                have hset : Chg (One nb) wd (wd.setCell ⟨nb, 6, none⟩ (.slice a' (vs.length + 1) cap')) := (Chg.refl _ _).put _ _
                have hBd2 := below_one' hBd hset hBd.size (by omega)
                have hEd2 := hEd.chg hset (by show ¬ b = nb; omega)
                have hRd2 := hRd.chg hset (by show ¬ w.heap.size = nb; omega)
                have hNd2 := (hNd.set 6 (.slice a' (vs.length + 1) cap'))
                have hod2 := Reel.own_chg hod hset (fun k hk hx => by have := (hod.lt k hk).1; have hx' : k = nb := hx; omega)
                have hH2 : H1 ≤ (wd.setCell ⟨nb, 6, none⟩ (.slice a' (vs.length + 1) cap')).heap.size := Nat.le_trans (Nat.le_trans hH (Nat.le_trans hc4.size hc5.size)) (Nat.le_trans hgd.size hset.size)
                simp only [List.set] at hNd2
                have hof : (vs ++ [(⟨bs l1, bs l4, gh⟩ : Ent)]).flatMap Ent.cells = vs.flatMap Ent.cells ++ [.string (bs l1), .string (bs l4), .bool gh] := by rw [List.flatMap_append]; rfl
                have hlen1 : vs.length + 1 = (vs ++ [(⟨bs l1, bs l4, gh⟩ : Ent)]).length := by simp
                rw [← hof] at hod2
                have HOD := Lib.hid (own_len hod2 hlen1)
                have HRD := Lib.hid hRd2
                have HND := Lib.hid hNd2
                have HED := Lib.hid hEd2
                have HBD := Lib.hid hBd2
                clear hod2 hRd2 hNd2 hEd2 hBd2 hof hset hBd hBd1 hEd hRd hob hob2 hod hbd hgd x6c f6c x6a x6b x6e x6 f6 x6d hNd hNc hNb h4 hc4 h5 hc5 hlen1 E R NR B ho
                go_wp2_with fail
                exact ⟨⟨m', vs ++ [⟨bs l1, bs l4, gh⟩], s4.1, s4.2, .slice a' (vs.length + 1) cap', by go_num, by simp; omega, by omega, NX.out.1, NX.out.2, HED.out, HND.out, HRD.out, HOD.out, hH2, HBD.out⟩, by simp only [intOf]; omega⟩
      · have HHI := Lib.hid hhi
        clear hhi
        go_enter Try.func17, Try.ntmps17
        go_wp2_with fail
        refine OP.out.mono ?_
        rintro e w1 ⟨rfl, h1⟩
        have hwb : w.heap.size < w1.heap.size := (R.out.below h1 R.out.lt).lt
        replace R := Lib.hid ((R.out.below h1 R.out.lt).alloc (.cells #[.string (bs t), .bool false] 75))
        replace B := Lib.hid ((B.out.trans (h1.mono B.out.size)).alloc (Nat.le_of_lt hwb) (.cells #[.string (bs t), .bool false] 75))
        have E : Hid (Eye (w1.alloc (.cells #[.string (bs t), .bool false] 75)) w1.heap.size (t.drop 0, false)) := Lib.hid (new_at rfl)
        clear h1 OP
        obtain ⟨b, hbe⟩ : ∃ b, b = w1.heap.size := ⟨_, rfl⟩
        go_wp2_with fail
        rw [← hbe] at E hwb ⊢
        clear hbe
        generalize w1.alloc (.cells #[.string (bs t), .bool false] 75) = w2 at *
        refine (enum_of (eNum_at t 0 1 (by omega)) _ E.out (by omega) (by simp; omega)).mono ?_
        rintro e w3 ⟨rfl, h3, hc3⟩
        replace E := Lib.hid h3
        replace R := Lib.hid (R.out.chg hc3 (by show ¬ w.heap.size = b; omega))
        replace B := Lib.hid (below_one' B.out hc3 B.out.size (Nat.le_of_lt hwb))
        clear h3 hc3
        go_wp2_with fail
        refine (enum_of (eNum_at t 1 1 (by omega)) _ E.out (by omega) (by simp; omega)).mono ?_
        rintro e w3 ⟨rfl, h3, hc3⟩
        replace E := Lib.hid h3
        replace R := Lib.hid (R.out.chg hc3 (by show ¬ w.heap.size = b; omega))
        replace B := Lib.hid (below_one' B.out hc3 B.out.size (Nat.le_of_lt hwb))
        clear h3 hc3
        go_wp2_with fail
        refine (enum_of (eNum_at t 2 4 (by omega)) _ E.out (by omega) (by simp; omega)).mono ?_
        rintro e w3 ⟨rfl, h3, hc3⟩
        replace E := Lib.hid h3
        replace R := Lib.hid (R.out.chg hc3 (by show ¬ w.heap.size = b; omega))
        replace B := Lib.hid (below_one' B.out hc3 B.out.size (Nat.le_of_lt hwb))
        clear h3 hc3
        go_wp2_with fail
        refine (enum_of (eNum_at t 6 1 (by omega)) _ E.out (by omega) (by simp; omega)).mono ?_
        rintro e w3 ⟨rfl, h3, hc3⟩
        replace E := Lib.hid h3
        replace R := Lib.hid (R.out.chg hc3 (by show ¬ w.heap.size = b; omega))
        replace B := Lib.hid (below_one' B.out hc3 B.out.size (Nat.le_of_lt hwb))
        clear h3 hc3
        obtain ⟨nb, hnb⟩ : ∃ nb, nb = w3.heap.size := ⟨_, rfl⟩
        have hbn : b < nb := by rw [hnb]; exact E.out.lt
        have hN0 : Row (w3.alloc (.cells #[.int .i64 (num t 0 1 : Int), .int .i64 (num t 1 1 : Int), .int .i64 (num t 2 4 : Int), .bool false, .string ⟨#[]⟩, .int .i64 0, .slice none 0 0] 24)) nb 24 [.int .i64 (num t 0 1 : Int), .int .i64 (num t 1 1 : Int), .int .i64 (num t 2 4 : Int), .bool false, .string ⟨#[]⟩, .int .i64 0, .slice none 0 0] := new_at hnb
        replace E := Lib.hid (E.out.alloc (.cells #[.int .i64 (num t 0 1 : Int), .int .i64 (num t 1 1 : Int), .int .i64 (num t 2 4 : Int), .bool false, .string ⟨#[]⟩, .int .i64 0, .slice none 0 0] 24))
        replace R := Lib.hid (R.out.alloc (.cells #[.int .i64 (num t 0 1 : Int), .int .i64 (num t 1 1 : Int), .int .i64 (num t 2 4 : Int), .bool false, .string ⟨#[]⟩, .int .i64 0, .slice none 0 0] 24))
        replace B := Lib.hid (B.out.alloc B.out.size (.cells #[.int .i64 (num t 0 1 : Int), .int .i64 (num t 1 1 : Int), .int .i64 (num t 2 4 : Int), .bool false, .string ⟨#[]⟩, .int .i64 0, .slice none 0 0] 24))
        have NR := Lib.hid hN0
        clear hN0
        go_wp2_with fail
        rw [← hnb]
        clear hnb
        generalize w3.alloc (.cells #[.int .i64 (num t 0 1 : Int), .int .i64 (num t 1 1 : Int), .int .i64 (num t 2 4 : Int), .bool false, .string ⟨#[]⟩, .int .i64 0, .slice none 0 0] 24) = w4 at *
        refine (take_of (eTake_at t 7 9 (by omega)) _ E.out (by omega) (by simp; omega)).mono ?_
        rintro e w5 ⟨rfl, h3, hc3⟩
        replace E := Lib.hid h3
        replace R := Lib.hid (R.out.chg hc3 (by show ¬ w.heap.size = b; omega))
        replace NR := Lib.hid (NR.out.chg hc3 (by show ¬ nb = b; omega))
        replace B := Lib.hid (below_one' B.out hc3 B.out.size (Nat.le_of_lt hwb))
        clear h3 hc3
        have n3 := NR.out.cell (i := 3) rfl
        go_wp2_with fail
        clear n3
        have hN1 := NR.out
        rw [← HHI.out] at hN1
        replace NR : Hid (Row _ nb 24 [.int .i64 (num t 0 1 : Int), .int .i64 (num t 1 1 : Int), .int .i64 (num t 2 4 : Int), .bool false, .string hi, .int .i64 0, .slice none 0 0]) := Lib.hid hN1
        clear hN1
        refine (enum_of (eNum_at t 16 2 (by omega)) _ E.out (by omega) (by simp; omega)).mono ?_
        rintro e w6 ⟨rfl, h3, hc3⟩
        replace E := Lib.hid h3
        replace R := Lib.hid (R.out.chg hc3 (by show ¬ w.heap.size = b; omega))
        replace NR := Lib.hid (NR.out.chg hc3 (by show ¬ nb = b; omega))
        replace B := Lib.hid (below_one' B.out hc3 B.out.size (Nat.le_of_lt hwb))
        clear h3 hc3
        have n5 := NR.out.cell (i := 5) rfl
        have f5 := NR.out.frozen 5 (by simp)
        go_wp2_with fail
        clear n5 f5
        have hset : Chg (One nb) w6 (w6.setCell ⟨nb, 5, none⟩ (.int .i64 (num t 16 2 : Int))) := (Chg.refl _ _).put _ _
        replace E := Lib.hid (E.out.chg hset (by show ¬ b = nb; omega))
        replace R := Lib.hid (R.out.chg hset (by show ¬ w.heap.size = nb; omega))
        replace B := Lib.hid (below_one' B.out hset B.out.size (by omega))
        have hN1 := (NR.out.set 5 (.int .i64 (num t 16 2 : Int)))
        simp only [List.set] at hN1
        replace NR := Lib.hid hN1
        clear hN1 hset
        generalize w6.setCell ⟨nb, 5, none⟩ (.int .i64 (num t 16 2 : Int)) = w7 at *
        refine (enum_of (eNum_at t 18 2 (by omega)) _ E.out (by omega) (by simp; omega)).mono ?_
        rintro e w8 ⟨rfl, h3, hc3⟩
        replace E := Lib.hid h3
        replace R := Lib.hid (R.out.chg hc3 (by show ¬ w.heap.size = b; omega))
        replace NR := Lib.hid (NR.out.chg hc3 (by show ¬ nb = b; omega))
        replace B := Lib.hid (below_one' B.out hc3 B.out.size (Nat.le_of_lt hwb))
        clear h3 hc3
        obtain ⟨H1, hH1⟩ : ∃ H1, H1 = w8.heap.size := ⟨_, rfl⟩
        have hnH : nb < H1 := by rw [hH1]; exact NR.out.lt
        obtain ⟨c, hc⟩ : ∃ c, num t 18 2 = c := ⟨_, rfl⟩
        have hc2 := num_two t 18
        rw [hc] at hc2 ⊢
        have HC := Lib.hid hc
        clear hc
        go_wp2_with fail
        go_loopw [9] (fun kv wr => ∃ (m : Nat) (vs : List Ent) (D : List UInt8) (bad : Bool) (v : Value), kv = .int .i64 (m : Int) ∧ vs.length + m = c ∧ D.length ≤ 252 ∧ (bad = false → entsN c (t.drop 20) = (entsN m D).map (vs ++ ·)) ∧ (bad = true → entsN c (t.drop 20) = none) ∧ Eye wr b (D, bad) ∧ Row wr nb 24 [.int .i64 (num t 0 1 : Int), .int .i64 (num t 1 1 : Int), .int .i64 (num t 2 4 : Int), .bool false, .string hi, .int .i64 (num t 16 2 : Int), v] ∧ Row wr w.heap.size 24 [.int .i64 0, .int .i64 0, .int .i64 0, .bool false, .string ⟨#[]⟩, .int .i64 0, .slice none 0 0] ∧ wr.ownsRow H1 44 3 v vs.length (vs.flatMap Ent.cells) ∧ H1 ≤ wr.heap.size ∧ Below w.heap.size w wr) (fun kv _ => (intOf kv).toNat)
        case atStart => exact ⟨c, [], t.drop 20, false, .slice none 0 0, rfl, by simp, by rw [List.length_drop]; omega, by simp, by simp, E.out, NR.out, R.out, World.ownsRow_nil _ _ _ _, Nat.le_of_eq hH1, B.out⟩
        case round =>
          clear E R NR B hH1
          obtain ⟨m, vs, D, bad, v, rfl, hvm, hDl, hgo, hno, hE, hN, hR, ho, hH, hb⟩ := hrel
          have E := Lib.hid hE
          have R := Lib.hid hR
          have NR := Lib.hid hN
          have B := Lib.hid hb
          have e1 := E.out.cell (i := 1) rfl
          simp only at e1
          clear hE hR hN hb
          cases bad with
          | true =>
            have hpn : parse t = none := by unfold parse; rw [HC.out, hno rfl]; rfl
            have hnn : nRead s.data.toList = none := by rw [RD.out, hpn]
            have NN := Lib.hid hnn
            clear hgo hno hpn hnn ho
            by_cases hm : m = 0
            · subst hm
              go_wp2_with (refine store_row R.out [.int .i64 0, .int .i64 0, .int .i64 0, .bool false, .string ⟨#[]⟩, .int .i64 0, .slice none 0 0] 24 (by kernel_rfl) rfl zero_one rfl rfl rfl rfl ?_; intro wz hRz hcz hsz)
              exact FIN.out _ _ NN.out hRz (below_one' B.out hcz B.out.size (Nat.le_refl _)) rfl rfl rfl
            · have hm' : (0 : Int) < (m : Int) := by omega
              go_wp2_with (refine store_row R.out [.int .i64 0, .int .i64 0, .int .i64 0, .bool false, .string ⟨#[]⟩, .int .i64 0, .slice none 0 0] 24 (by kernel_rfl) rfl zero_one rfl rfl rfl rfl ?_; intro wz hRz hcz hsz)
              exact FIN.out _ _ NN.out hRz (below_one' B.out hcz B.out.size (Nat.le_refl _)) rfl rfl rfl
          | false =>
            by_cases hm : m = 0
            · subst hm
              have hps : parse t = some (hd t vs) := by unfold parse; rw [HC.out, hgo rfl]; simp [entsN]
              obtain ⟨a, cap, rfl, hes, hpos⟩ := es_own ho rfl
              have hlv : vs.length ≤ 9223372036854775807 := by omega
              have BC := Lib.hid (fun (w9 : World) (h9 : Below w.heap.size w w9) (hE : Es w9 a vs) => bytes_calls (hd t vs) a cap w9 hE hlv)
              have hdl : (hd t vs).list = vs := rfl
              rw [HD.out vs] at hps BC
              obtain ⟨n, hn⟩ : ∃ n : Nd, n = ⟨(num t 0 1 : Int), (num t 1 1 : Int), (num t 2 4 : Int), false, hi, (num t 16 2 : Int), vs⟩ := ⟨_, rfl⟩
              have hcs : [.int .i64 (num t 0 1 : Int), .int .i64 (num t 1 1 : Int), .int .i64 (num t 2 4 : Int), .bool false, .string hi, .int .i64 (num t 16 2 : Int), .slice a vs.length cap] = n.cells (.slice a vs.length cap) := by rw [hn]; rfl
              have hnl : n.list = vs := by rw [hn]
              rw [← hn] at hps BC
              rw [hnl] at BC
              have hrn : nRead s.data.toList = if n.fits = true ∧ n.bytes = s.data.toList then some n else none := by rw [RD.out, hps]
              have NRC := Lib.hid (NR.out.cast hcs)
              have ESV := Lib.hid hes
              have HRN := Lib.hid hrn
              clear hgo hno ho hcs hps hes hrn NR hn HD
              by_cases hfi : n.fits = true
              · rw [bytesOut_ok hfi] at BC
                obtain ⟨N, hNe⟩ : ∃ N, n.bytes = N := ⟨_, rfl⟩
                rw [hNe] at BC HRN
                by_cases hq2 : N = s.data.toList
                · have hss : nRead s.data.toList = some n := by rw [HRN.out, if_pos ⟨hfi, hq2⟩]
                  have SS := Lib.hid hss
                  have hq3 : ((bs N).toList == s.toList) = true := by rw [beq_iff_eq, hq2]; rfl
                  clear hss hq2 hNe
                  go_wp2_with (refine load_row NRC.out 24 Try.underlying24 rfl (by kernel_rfl) rfl rfl rfl ?_)
                  refine (BC.out _ B.out ESV.out).mono ?_
                  rintro e w9 ⟨rfl, h9⟩
                  have R9 := Lib.hid (R.out.below h9 R.out.lt)
                  have N9 := Lib.hid (NRC.out.below h9 NRC.out.lt)
                  have B9 := Lib.hid (B.out.trans (h9.mono B.out.size))
                  have ES9 := Lib.hid (ESV.out.keep h9)
                  clear h9 R B NRC ESV BC
                  go_wp2_with (first
                    | (refine store_row R9.out (n.cells (.slice a vs.length cap)) 24 (by kernel_rfl) rfl (cells_one _ _ _ _) rfl rfl rfl rfl ?_; intro wz hRz hcz hsz)
                    | (refine load_row N9.out 24 Try.underlying24 rfl (by kernel_rfl) rfl rfl rfl ?_))
                  refine ret_row2 hRz Try.results17 Try.underlying24 rfl (by kernel_rfl) rfl rfl ?_
                  rw [SS.out]
                  have hez : Es wz a n.list := by
                    rw [hnl]
                    exact ES9.out.chg hcz (fun ad had hx => by have := hpos ad had; have hx' : ad.block = w.heap.size := hx; omega)
                  exact ⟨a, cap, by rw [hnl]; rfl, hez, below_one' B9.out hcz B9.out.size (Nat.le_refl _)⟩
                · have hnn : nRead s.data.toList = none := by rw [HRN.out, if_neg (fun h => hq2 h.2)]
                  have NN := Lib.hid hnn
                  have hq3 : ((bs N).toList == s.toList) = false := by
                    rw [beq_eq_false_iff_ne]
                    intro h
                    exact hq2 (congrArg (fun s => s.data.toList) (Bytes.toList_inj.1 h))
                  clear hnn hq2 hNe
                  go_wp2_with (refine load_row NRC.out 24 Try.underlying24 rfl (by kernel_rfl) rfl rfl rfl ?_)
                  refine (BC.out _ B.out ESV.out).mono ?_
                  rintro e w9 ⟨rfl, h9⟩
                  have R9 := Lib.hid (R.out.below h9 R.out.lt)
                  have B9 := Lib.hid (B.out.trans (h9.mono B.out.size))
                  clear h9 R B NRC ESV BC
                  go_wp2_with (refine store_row R9.out [.int .i64 0, .int .i64 0, .int .i64 0, .bool false, .string ⟨#[]⟩, .int .i64 0, .slice none 0 0] 24 (by kernel_rfl) rfl zero_one rfl rfl rfl rfl ?_; intro wz hRz hcz hsz)
                  exact FIN.out _ _ NN.out hRz (below_one' B9.out hcz B9.out.size (Nat.le_refl _)) rfl rfl rfl
              · have hnn : nRead s.data.toList = none := by rw [HRN.out, if_neg (fun h => hfi h.1)]
                have NN := Lib.hid hnn
                rw [Bool.not_eq_true] at hfi
                obtain ⟨cd, hbo, hcd⟩ : ∃ cd : Int, bytesOut n = ([], cd) ∧ (cd = 1 ∨ cd = 5) := by
                  by_cases hgd : n.good = true
                  · exact ⟨5, bytesOut_full hgd hfi, .inr rfl⟩
                  · exact ⟨1, bytesOut_bad (by simpa using hgd), .inl rfl⟩
                rw [hbo] at BC
                clear hnn hbo hfi
                rcases hcd with rfl | rfl
                all_goals
                  go_wp2_with (refine load_row NRC.out 24 Try.underlying24 rfl (by kernel_rfl) rfl rfl rfl ?_)
                  refine (BC.out _ B.out ESV.out).mono ?_
                  rintro e w9 ⟨rfl, h9⟩
                  have R9 := Lib.hid (R.out.below h9 R.out.lt)
                  have B9 := Lib.hid (B.out.trans (h9.mono B.out.size))
                  clear h9
                  go_wp2_with (refine store_row R9.out [.int .i64 0, .int .i64 0, .int .i64 0, .bool false, .string ⟨#[]⟩, .int .i64 0, .slice none 0 0] 24 (by kernel_rfl) rfl zero_one rfl rfl rfl rfl ?_; intro wz hRz hcz hsz)
                  exact FIN.out _ _ NN.out hRz (below_one' B9.out hcz B9.out.size (Nat.le_refl _)) rfl rfl rfl
            · obtain ⟨m', rfl⟩ : ∃ m', m = m' + 1 := ⟨m - 1, by omega⟩
              obtain ⟨l1, s1, g1⟩ : ∃ l1 s1, eTake (D, false) 9 = (l1, s1) := ⟨_, _, rfl⟩
              obtain ⟨n2, s2, g2⟩ : ∃ n2 s2, eNum s1 1 = (n2, s2) := ⟨_, _, rfl⟩
              obtain ⟨n3, s3, g3⟩ : ∃ n3 s3, eNum s2 1 = (n3, s3) := ⟨_, _, rfl⟩
              obtain ⟨l4, s4, g4⟩ : ∃ l4 s4, eTake s3 n3 = (l4, s4) := ⟨_, _, rfl⟩
              have z1 := eTake_rest (D, false) 9
              have z2 := eNum_rest s1 1
              have z3 := eNum_rest s2 1
              have z4 := eTake_rest s3 n3
              have z5 := eNum_lt s2 1
              rw [g1] at z1
              rw [g2] at z2
              rw [g3] at z3 z5
              rw [g4] at z4
              simp only at z1 z2 z3 z4 z5
              obtain ⟨gh, hgh⟩ : ∃ gh : Bool, ((n2 : Int) == 1) = gh := ⟨_, rfl⟩
              have hgh2 : (n2 == 1) = gh := by
                rw [← hgh]
                by_cases h : n2 = 1
                · subst h; rfl
                · rw [beq_eq_false_iff_ne.2 h, eq_comm, beq_eq_false_iff_ne]; omega
              have hnext : (s4.2 = false → entsN c (t.drop 20) = (entsN m' s4.1).map ((vs ++ [⟨bs l1, bs l4, gh⟩]) ++ ·)) ∧ (s4.2 = true → entsN c (t.drop 20) = none) := by
                cases hf : entFits D with
                | true =>
                  obtain ⟨k1, k2, k3, k4⟩ := step_fits hf
                  rw [g1] at k1
                  cases k1
                  rw [g2] at k2
                  cases k2
                  rw [g3] at k3
                  cases k3
                  rw [g4] at k4
                  cases k4
                  refine ⟨fun _ => ?_, fun h => by cases h⟩
                  have h9 := entsN_next (m := c) (k := vs.length) (L := t.drop 20) (D := D) (vs := vs) (by omega) hf (by rw [show c - vs.length = m' + 1 by omega]; exact hgo rfl)
                  rw [show c - (vs.length + 1) = m' by omega] at h9
                  rw [h9, ← hgh2]
                  rfl
                | false =>
                  have hb4 := step_bad hf g1 g2 g3 g4
                  refine ⟨fun h => absurd (hb4.symm.trans h) (by simp), fun _ => entsN_stop (k := vs.length) (m := c) (by omega) hf (by rw [show c - vs.length = m' + 1 by omega]; exact hgo rfl)⟩
              have NX := Lib.hid hnext
              have G1 := Lib.hid g1
              have G2 := Lib.hid g2
              have G3 := Lib.hid g3
              have G4 := Lib.hid g4
              have hm' : (0 : Int) < ((m' : Int) + 1) := by omega
              clear hnext g1 g2 g3 g4 hgh2 hgo hno
              go_wp2_with fail
              refine (take_of G1.out _ E.out (by omega) (by show D.length ≤ _; omega)).mono ?_
              rintro e wa ⟨rfl, h3, hc3⟩
              replace E := Lib.hid h3
              replace R := Lib.hid (R.out.chg hc3 (by show ¬ w.heap.size = b; omega))
              replace NR := Lib.hid (NR.out.chg hc3 (by show ¬ nb = b; omega))
              replace B := Lib.hid (below_one' B.out hc3 B.out.size (Nat.le_of_lt hwb))
              replace ho := Reel.own_chg ho hc3 (fun k hk hx => by have := (ho.lt k hk).1; have hx' : k = b := hx; omega)
              replace hH := Nat.le_trans hH hc3.size
              clear h3 hc3
              clear e1
              go_wp2_with fail
              refine (enum_of G2.out _ E.out (by omega) (by omega)).mono ?_
              rintro e wb ⟨rfl, h3, hc3⟩
              replace E := Lib.hid h3
              replace R := Lib.hid (R.out.chg hc3 (by show ¬ w.heap.size = b; omega))
              replace NR := Lib.hid (NR.out.chg hc3 (by show ¬ nb = b; omega))
              replace B := Lib.hid (below_one' B.out hc3 B.out.size (Nat.le_of_lt hwb))
              replace ho := Reel.own_chg ho hc3 (fun k hk hx => by have := (ho.lt k hk).1; have hx' : k = b := hx; omega)
              replace hH := Nat.le_trans hH hc3.size
              clear h3 hc3
              have x6 := NR.out.cell (i := 6) rfl
              have f6 := NR.out.frozen 6 (by simp)
              go_wp2_with fail
              have x6d : wb.drew.cell? ⟨nb, 6, none⟩ = some v := x6
              have hne : ∀ k, v.ownBlock = some k → ¬ One b k := fun k hk hx => by have := (ho.lt k hk).1; have hx' : k = b := hx; omega
              go_region_law (first
                  | (refine app1_step (news := [.string (bs l1), .string (bs l4), .bool gh]) hob2 (Below.refl H1 _) (Nat.le_trans hH (Nat.le_trans hc4.size hc5.size)) 22 Try.underlying22 info_ent ent_size (by decide) (by decide) (by omega) rfl (by simp [Value.oneCell']) rfl rfl rfl rfl ?_
                     intro v' wd hod hbd hgd
                     obtain ⟨a', cap', rfl, _⟩ := Reel.own_shape hod
                     have hNd := hNc.grown hgd (fun e => by have := (hob2.lt _ e.symm).1; omega)
                     have x6c := hNd.cell (i := 6) rfl
                     have f6c := hNd.frozen 6 (by simp))
                  | (go_simp
                     go_at_call 40
                     refine (enum_of G3.out _ E.out.drew (by omega) (by omega)).mono ?_
                     rintro e wc ⟨rfl, h4, hc4⟩
                     have hNb := NR.out.drew.chg hc4 (by show ¬ nb = b; omega)
                     have hob := Reel.own_chg (w := wb.drew) ho hc4 hne
                     have x6a := hNb.cell (i := 6) rfl)
                  | (go_simp
                     go_at_call 41
                     refine (take_of G4.out _ h4 (by omega) (by omega)).mono ?_
                     rintro e we ⟨rfl, h5, hc5⟩
                     have hNc := hNb.chg hc5 (by show ¬ nb = b; omega)
                     have hob2 := Reel.own_chg hob hc5 hne
                     have x6b := hNc.cell (i := 6) rfl
                     have x6e := (hNc.alloc (.cells #[.string (bs l1), .string (bs l4), .bool gh] 44)).cell (i := 6) rfl))
              all_goals
                have hRd := ((R.out.drew.chg hc4 (by show ¬ w.heap.size = b; omega)).chg hc5 (by show ¬ w.heap.size = b; omega)).grown hgd (fun e => by have := (hob2.lt _ e.symm).1; omega)
                have hEd := h5.grown hgd (fun e => by have := (hob2.lt _ e.symm).1; omega)
                have hBd1 := below_one' (below_one' B.out.drew hc4 B.out.drew.size (Nat.le_of_lt hwb)) hc5 (Nat.le_trans B.out.drew.size hc4.size) (Nat.le_of_lt hwb)
                have hBd := hBd1.trans ((Chg.of_grown hgd).below hBd1.size (fun k hk => by have := (hob2.lt k hk.symm).1; omega))
                have hset : Chg (One nb) wd (wd.setCell ⟨nb, 6, none⟩ (.slice a' (vs.length + 1) cap')) := (Chg.refl _ _).put _ _
                have hBd2 := below_one' hBd hset hBd.size (by omega)
                have hEd2 := hEd.chg hset (by show ¬ b = nb; omega)
                have hRd2 := hRd.chg hset (by show ¬ w.heap.size = nb; omega)
                have hNd2 := (hNd.set 6 (.slice a' (vs.length + 1) cap'))
                have hod2 := Reel.own_chg hod hset (fun k hk hx => by have := (hod.lt k hk).1; have hx' : k = nb := hx; omega)
                have hH2 : H1 ≤ (wd.setCell ⟨nb, 6, none⟩ (.slice a' (vs.length + 1) cap')).heap.size := Nat.le_trans (Nat.le_trans hH (Nat.le_trans hc4.size hc5.size)) (Nat.le_trans hgd.size hset.size)
                simp only [List.set] at hNd2
                have hof : (vs ++ [(⟨bs l1, bs l4, gh⟩ : Ent)]).flatMap Ent.cells = vs.flatMap Ent.cells ++ [.string (bs l1), .string (bs l4), .bool gh] := by rw [List.flatMap_append]; rfl
                have hlen1 : vs.length + 1 = (vs ++ [(⟨bs l1, bs l4, gh⟩ : Ent)]).length := by simp
                rw [← hof] at hod2
                have HOD := Lib.hid (own_len hod2 hlen1)
                have HRD := Lib.hid hRd2
                have HND := Lib.hid hNd2
                have HED := Lib.hid hEd2
                have HBD := Lib.hid hBd2
                clear hod2 hRd2 hNd2 hEd2 hBd2 hof hset hBd hBd1 hEd hRd hob hob2 hod hbd hgd x6c f6c x6a x6b x6e x6 f6 x6d hNd hNc hNb h4 hc4 h5 hc5 hlen1 E R NR B ho
                go_wp2_with fail
                exact ⟨⟨m', vs ++ [⟨bs l1, bs l4, gh⟩], s4.1, s4.2, .slice a' (vs.length + 1) cap', by go_num, by simp; omega, by omega, NX.out.1, NX.out.2, HED.out, HND.out, HRD.out, HOD.out, hH2, HBD.out⟩, by simp only [intOf]; omega⟩
end Go.Proofs.Ytebmalmciakhcaa.Node
