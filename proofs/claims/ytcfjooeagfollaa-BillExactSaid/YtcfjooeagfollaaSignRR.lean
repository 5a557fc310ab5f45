/- sign.ReadRow, gaugerref01.ReadRow, gaugerref01.Same. -/
import Derived.Test.YtcfjooeagfollaaSignVs
import Derived.BigQuiet
namespace Go.Proofs.Ytcfjooeagfollaa.Sign
open Go.RowKit Go.Proofs.Ytcfjooeagfollaa.Mem Go.Proofs.Ytcfjooeagfollaa.Bytes Go.Proofs.Ytcfjooeagfollaa.Num
set_option linter.unusedSimpArgs false
set_option linter.unusedVariables false
set_option maxRecDepth 20000

/-- The values of bytes. -/
def readN : Nat → List UInt8 → Option (List V)
  | 0, _ => some []
  | n + 1, l => match readV (l.take 9) with
    | none => none
    | some v => (readN n (l.drop 9)).map (v :: ·)
def readRow (l : List UInt8) : Option (List V) := if l.length % 9 = 0 ∧ l.length ≤ 36 then readN (l.length / 9) l else none
theorem readN_none {n : Nat} {l : List UInt8} (h : readV (l.take 9) = none) : readN (n + 1) l = none := by rw [readN, h]
theorem readN_some {n : Nat} {l : List UInt8} {v : V} (h : readV (l.take 9) = some v) : readN (n + 1) l = (readN n (l.drop 9)).map (v :: ·) := by rw [readN, h]
theorem readN_is : ∀ {n : Nat} {l : List UInt8} {vs : List V}, readN n l = some vs → l.length = 9 * n → vs.length = n ∧ (∀ v ∈ vs, v.good = true ∧ v.fits) ∧ codes vs = l
  | 0, l, vs, h, hl => by
    cases h
    obtain rfl := List.eq_nil_of_length_eq_zero hl
    exact ⟨rfl, by simp, rfl⟩
  | n + 1, l, vs, h, hl => by
    cases hr : readV (l.take 9) with
    | none => rw [readN_none hr] at h; cases h
    | some v =>
      rw [readN_some hr] at h
      obtain ⟨us, hu, rfl⟩ := Option.map_eq_some_iff.1 h
      obtain ⟨h1, h2, h3⟩ := readN_is hu (by rw [List.length_drop]; omega)
      obtain ⟨g1, g2, g3⟩ := (readV_iff _ _).1 hr
      refine ⟨by simp [h1], fun u hu => ?_, ?_⟩
      · rcases List.mem_cons.1 hu with rfl | hu
        · exact ⟨g1, g2⟩
        · exact h2 u hu
      · unfold codes at h3 ⊢
        rw [List.flatMap_cons, g3, h3, List.take_append_drop]
theorem readN_codes : ∀ (vs : List V), (∀ v ∈ vs, v.good = true ∧ v.fits) → readN vs.length (codes vs) = some vs
  | [], _ => rfl
  | v :: vs, h => by
    have hv := h v (by simp)
    have hc : v.code.length = 9 := V.code_length hv.1
    have e : codes (v :: vs) = v.code ++ codes vs := by simp [codes]
    have hr : readV ((codes (v :: vs)).take 9) = some v := by
      rw [e, List.take_append_of_le_length (by omega), List.take_of_length_le (by omega)]
      exact (readV_iff _ _).2 ⟨hv.1, hv.2, rfl⟩
    rw [List.length_cons, readN_some hr, e, List.drop_append_of_le_length (by omega), List.drop_of_length_le (by omega), List.nil_append, readN_codes vs (fun u hu => h u (by simp [hu]))]
    rfl
theorem readRow_is {l : List UInt8} {vs : List V} (h : readRow l = some vs) : vs.length ≤ 4 ∧ (∀ v ∈ vs, v.good = true ∧ v.fits) ∧ codes vs = l := by
  unfold readRow at h
  split at h
  · rename_i hc
    obtain ⟨h1, h2, h3⟩ := readN_is h (by omega)
    exact ⟨by omega, h2, h3⟩
  · cases h
theorem readRow_codes {vs : List V} (h : ∀ v ∈ vs, v.good = true ∧ v.fits) (h4 : vs.length ≤ 4) : readRow (codes vs) = some vs := by
  have hl := codes_length (fun v hv => (h v hv).1)
  unfold readRow
  rw [if_pos ⟨by omega, by omega⟩, hl, show 9 * vs.length / 9 = vs.length by omega]
  exact readN_codes vs h
def rrPost (f0 f1 : Value) (r : Option (List V)) (w : World) (e : Ending) (w' : World) : Prop := match r with
  | none => e = .returned (.tuple #[.slice none 0 0, f0]) ∧ Below w.heap.size w w'
  | some vs => ∃ a cap, e = .returned (.tuple #[.slice a vs.length cap, f1]) ∧ Vs w' a vs ∧ Below w.heap.size w w'

theorem info_val : (Try.prog.info? 81).map (fun i => (i.zero, i.size, i.bytes)) = some (some (.agg #[.int .i64 0, .int .i64 0, .string ⟨#[]⟩]), 3, 32) := by kernel_rfl
theorem val_size : (Value.agg #[.int .i64 0, .int .i64 0, .string ⟨#[]⟩]).cells.size = 3 := by rfl
def szOf (v : Value) : Nat := match v with
  | .string s => s.size
  | _ => 0
theorem own_below {w w' : World} {base : Nat} {e : TypeId} {sz n : Nat} {v : Value} {xs : List Value} (h : w.ownsRow base e sz v n xs) (hb : Below w.heap.size w w') : w'.ownsRow base e sz v n xs :=
  Reel.own_chg h (Chg.of_below hb) (fun _ _ x => x)
/-- One round more. -/
theorem readN_next {m k : Nat} {L : List UInt8} {vs : List V} {v : V} (hlt : k < m) (hr : readV ((L.drop (9 * k)).take 9) = some v) (hI : readN m L = (readN (m - k) (L.drop (9 * k))).map (vs ++ ·)) :
    readN m L = (readN (m - (k + 1)) (L.drop (9 * (k + 1)))).map ((vs ++ [v]) ++ ·) := by
  rw [hI, show m - k = (m - (k + 1)) + 1 by omega, readN_some hr, List.drop_drop, show 9 * k + 9 = 9 * (k + 1) by omega, Option.map_map]
  congr 1
  funext x
  simp

set_option maxHeartbeats 1000000 in
theorem readrow_calls (s : ByteArray) (w : World) (hs : s.size ≤ 9223372036854775000) : Calls Try.prog 96 #[.string s] w fun e w' => rrPost (.int .i64 3) (.int .i64 0) (readRow s.data.toList) w e w' := by
  have hl : s.data.toList.length = s.size := rfl
  by_cases hc : s.size % 9 = 0 ∧ s.size ≤ 36
  · obtain ⟨h9, h36⟩ := hc
    obtain ⟨m, hm⟩ : ∃ m, s.size = 9 * m := ⟨s.size / 9, by omega⟩
    have hrr : readRow s.data.toList = readN m s.data.toList := by
      unfold readRow
      rw [if_pos ⟨by omega, by omega⟩, hl, hm, show 9 * m / 9 = m by omega]
    rw [hrr]
    have e1 : ((s.size : Int).tmod 9 != 0) = false := by
      rw [Int.tmod_eq_emod_of_nonneg (by omega)]
      simp
      omega
    have e2 : ¬ (36 : Int) < (s.size : Int) := by omega
    have e3 : wrap64 ((s.size : Int).tmod 9) = (s.size : Int).tmod 9 := by rw [Int.tmod_eq_emod_of_nonneg (by omega)]; unfold wrap64; omega
    obtain ⟨L, hL⟩ : ∃ L, L = s.data.toList := ⟨_, rfl⟩
    have hs0 : s = bs L := by rw [hL, bs_of]
    rw [← hL] at hl
    rw [← hL]
    have HS := Lib.hid hs0
    have HM := Lib.hid hm
    clear hs0 hrr hL hm
    go_enter Try.func96, Try.ntmps96
    go_wp2_with fail
    go_loopw [0, 4] (fun sv out wr => ∃ k vs, k ≤ m ∧ vs.length = k ∧ sv = .string (bs (L.drop (9 * k))) ∧ wr.ownsRow w.heap.size 81 3 out k (vs.flatMap V.cells) ∧ readN m L = (readN (m - k) (L.drop (9 * k))).map (vs ++ ·) ∧ Below w.heap.size w wr) (fun sv _ _ => szOf sv)
    case atStart => exact ⟨0, [], by omega, rfl, by rw [HS.out]; simp, World.ownsRow_nil _ _ _ _, by simp, Below.refl _ _⟩
    case round =>
      obtain ⟨k, vs, hk, hvl, rfl, ho, hI, hb⟩ := hrel
      by_cases hlt : k < m
      · have hdl : (L.drop (9 * k)).length = 9 * (m - k) := by have := HM.out; rw [List.length_drop]; omega
        have hnx := fun v => readN_next (v := v) hlt (L := L) (vs := vs)
        have hdd : (L.drop (9 * k)).drop 9 = L.drop (9 * (k + 1)) := by rw [List.drop_drop]; congr 1
        have hnone := readN_none (n := m - k - 1) (l := L.drop (9 * k))
        rw [show m - k - 1 + 1 = m - k by omega] at hnone
        generalize L.drop (9 * k) = D at *
        have hk4 : k ≤ 4 := by have := HM.out; omega
        have hsz : (bs D).size = 9 * (m - k) := by rw [bs_size, hdl]
        have hemp : (bs D).toList.isEmpty = false := by
          rw [bs_toList, List.isEmpty_eq_false_iff]
          intro h
          rw [h] at hdl
          simp at hdl
          omega
        have hb9 : (9 : Int) ≤ ((bs D).size : Int) := by omega
        have x9 : (bs D).extract 0 9 = bs (D.take 9) := by rw [extract_take, bs_data]
        have xd : (bs D).extract 9 (9 * (m - k)) = bs (D.drop 9) := by rw [← hsz, extract_drop, bs_data]
        have RC := Lib.hid (fun w => read_calls (bs (D.take 9)) w (by rw [bs_size, List.length_take]; omega))
        have HO := Lib.hid ho
        have HI := Lib.hid hI
        have HB := Lib.hid hb
        have NX := Lib.hid hnx
        have NO := Lib.hid hnone
        have DD := Lib.hid hdd
        have DL := Lib.hid hdl
        clear ho hI hb hnx hnone hdd hdl
        rw [bs_data] at RC
        cases hr : readV (D.take 9) with
        | none =>
          rw [readOut_none hr] at RC
          replace RC : RowKit.Hid (∀ w, Calls Try.prog 143 #[.string (bs (D.take 9))] w fun e w' => e = .returned (.tuple #[.agg #[.int .i64 0, .int .i64 0, .string ⟨#[]⟩], .int .i64 3]) ∧ Below w.heap.size w w') := RC
          have hnn : readN m L = none := by rw [HI.out, NO.out hr]; rfl
          have NN := Lib.hid hnn
          clear hnn hr
          go_wp2_with fail
          refine (RC.out _).mono ?_
          rintro e w1 ⟨rfl, h1⟩
          have B3 := Lib.hid (HB.out.trans (h1.mono HB.out.size))
          clear h1
          go_wp2_with fail
          go_ret2
          rw [NN.out]
          exact ⟨rfl, B3.out.alloc B3.out.size _⟩
        | some v =>
          rw [readOut_some hr] at RC
          have NX2 := Lib.hid (NX.out v hr HI.out)
          clear hr NX NO HI
          obtain ⟨k0, n0, s0⟩ := v
          replace RC : RowKit.Hid (∀ w, Calls Try.prog 143 #[.string (bs (D.take 9))] w fun e w' => e = .returned (.tuple #[.agg #[.int .i64 k0, .int .i64 n0, .string s0], .int .i64 0]) ∧ Below w.heap.size w w') := RC
          go_wp2_with fail
          refine (RC.out _).mono ?_
          rintro e w1 ⟨rfl, h1⟩
          have hX : Row (w1.alloc (.cells #[.int .i64 k0, .int .i64 n0, .string s0] 81)) w1.heap.size 81 [.int .i64 k0, .int .i64 n0, .string s0] := new_at rfl
          have x0 := hX.cell (i := 0) rfl
          have x1 := hX.cell (i := 1) rfl
          have x2 := hX.cell (i := 2) rfl
          have O2 := Lib.hid ((own_below HO.out h1).alloc (.cells #[.int .i64 k0, .int .i64 n0, .string s0] 81))
          have B3 := HB.out.trans (h1.mono HB.out.size)
          have B4 := Lib.hid (B3.alloc B3.size (.cells #[.int .i64 k0, .int .i64 n0, .string s0] 81))
          have HSZ : (w1.alloc (.cells #[.int .i64 k0, .int .i64 n0, .string s0] 81)).heap.size = w1.heap.size + 1 := by simp
          clear h1 B3
          go_wp2_with (refine app1 (news := [.int .i64 k0, .int .i64 n0, .string s0]) O2.out B4.out B4.out.size 68 Try.underlying68 info_val val_size (by decide) (by decide) (by omega) rfl (by simp [Value.oneCell']) rfl rfl rfl (by rw [HSZ]; rfl) ?_; intro v1 w3 ho3 hb3 _)
          exact ⟨⟨k + 1, vs ++ [⟨k0, n0, s0⟩], by omega, by simp [hvl], by rw [DD.out], by rw [List.flatMap_append]; exact ho3, NX2.out, hb3⟩, by show (bs (D.drop 9)).size < (bs D).size; rw [bs_size, List.length_drop, bs_size, DL.out]; omega⟩
      · obtain rfl : k = m := by omega
        have hdl : (L.drop (9 * k)).length = 0 := by have := HM.out; rw [List.length_drop]; omega
        have hd0 := List.eq_nil_of_length_eq_zero hdl
        rw [hd0] at hI ⊢
        rw [Nat.sub_self] at hI
        have hI' : readN k L = some vs := by rw [hI]; simp [readN]
        obtain ⟨a, cap, rfl, hvs⟩ := vs_own ho hvl
        have hemp : (bs []).toList.isEmpty = true := by rw [bs_toList]; rfl
        go_wp2_with fail
        go_ret2
        rw [hI']
        exact ⟨a, cap, by rw [hvl]; rfl, hvs, hb⟩
  · have hn : readRow s.data.toList = none := by unfold readRow; rw [hl, if_neg hc]
    rw [hn]
    by_cases h9 : s.size % 9 = 0
    · have e1 : ((s.size : Int).tmod 9 != 0) = false := by
        rw [Int.tmod_eq_emod_of_nonneg (by omega)]
        simp
        omega
      have e2 : (36 : Int) < (s.size : Int) := by omega
      have e3 : wrap64 ((s.size : Int).tmod 9) = (s.size : Int).tmod 9 := by rw [Int.tmod_eq_emod_of_nonneg (by omega)]; unfold wrap64; omega
      go_enter Try.func96, Try.ntmps96
      go_wp2_with fail
      go_ret2
      exact ⟨rfl, Below.refl _ _⟩
    · have e1 : ((s.size : Int).tmod 9 != 0) = true := by
        rw [Int.tmod_eq_emod_of_nonneg (by omega)]
        simp
        omega
      have e3 : wrap64 ((s.size : Int).tmod 9) = (s.size : Int).tmod 9 := by rw [Int.tmod_eq_emod_of_nonneg (by omega)]; unfold wrap64; omega
      go_enter Try.func96, Try.ntmps96
      go_wp2_with fail
      go_ret2
      exact ⟨rfl, Below.refl _ _⟩
end Go.Proofs.Ytcfjooeagfollaa.Sign
