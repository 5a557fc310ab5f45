/- gaugerref01.ReadRow, gaugerref01.Same. -/
import Derived.Test.YtdnkgnlkipaboaaSignRR
namespace Go.Proofs.Ytdnkgnlkipaboaa.Sign
open Go.RowKit Go.Proofs.Ytdnkgnlkipaboaa.Mem Go.Proofs.Ytdnkgnlkipaboaa.Bytes Go.Proofs.Ytdnkgnlkipaboaa.Num
set_option linter.unusedSimpArgs false
set_option linter.unusedVariables false

set_option maxHeartbeats 1000000 in
theorem refreadrow_calls (s : ByteArray) (w : World) (hs : s.size ≤ 9223372036854775000) : Calls Try.prog 11 #[.string s] w fun e w' => rrPost (.bool false) (.bool true) (readRow s.data.toList) w e w' := by
  have hl : s.data.toList.length = s.size := rfl
  by_cases hc : s.size % 9 = 0 ∧ s.size ≤ 36
  · obtain ⟨h9, h36⟩ := hc
    obtain ⟨m, hm⟩ : ∃ m, s.size = 9 * m := ⟨s.size / 9, by omega⟩
    have hrr : readRow s.data.toList = readN m s.data.toList := by
      unfold readRow
      rw [if_pos ⟨by omega, by omega⟩, hl, hm, show 9 * m / 9 = m by omega]
    rw [hrr]
    have e1 : ((s.size : Int).tmod 9 != 0) = false := by
      rw [Int.tmod_eq_emod_of_nonneg (by omega)]
      simp
      omega
    have e2 : ¬ (36 : Int) < (s.size : Int) := by omega
    have e3 : wrap64 ((s.size : Int).tmod 9) = (s.size : Int).tmod 9 := by rw [Int.tmod_eq_emod_of_nonneg (by omega)]; unfold wrap64; omega
    have hO0 := World.ownsRow_lit (e := 25) (size := 3) (base := w.heap.size) w #[] 0 (Nat.le_refl _) (by unfold maxLen; omega) rfl
    have O0 := Lib.hid hO0
    have B0 := Lib.hid ((Below.refl w.heap.size w).alloc (Nat.le_refl _) (.cells #[] 25))
    have HM := Lib.hid hm
    clear hO0 hrr hm
    go_enter Try.func11, Try.ntmps11
    go_wp2_with fail
    go_loopw [4, 5] (fun out i wr => ∃ (k : Nat) (vs : List V) (z : Int), k ≤ m ∧ vs.length = k ∧ z = 9 * (k : Int) ∧ i = .int .i64 z ∧ wr.ownsRow w.heap.size 25 3 out k (vs.flatMap V.cells) ∧ readN m s.data.toList = (readN (m - k) (s.data.toList.drop (9 * k))).map (vs ++ ·) ∧ Below w.heap.size w wr) (fun _ i _ => s.size - (intOf i).toNat)
    case atStart => exact ⟨0, [], 0, by omega, rfl, rfl, rfl, O0.out, by simp, B0.out⟩
    case round =>
      obtain ⟨k, vs, z, hk, hvl, hz, rfl, ho, hI, hb⟩ := hrel
      by_cases hlt : k < m
      · have hdl : (s.data.toList.drop (9 * k)).length = 9 * (m - k) := by have := HM.out; rw [List.length_drop]; omega
        have hnx := fun v => readN_next (v := v) hlt (L := s.data.toList) (vs := vs)
        have hnone := readN_none (n := m - k - 1) (l := s.data.toList.drop (9 * k))
        rw [show m - k - 1 + 1 = m - k by omega] at hnone
        have hk4 : k ≤ 4 := by have := HM.out; omega
        have z0 : 0 ≤ z := by omega
        have z1 : z + 9 ≤ (s.size : Int) := by have := HM.out; omega
        have z2 : z < (s.size : Int) := by omega
        have z3 : wrap64 (z + 9) = z + 9 := by unfold wrap64; omega
        have hsl : ∀ wx : World, (Instr.slice 9 (.string s) (some (.int .i64 z)) (some (.int .i64 (z + 9))) none).run Try.prog wx = .ok (.string (bs ((s.data.toList.drop (9 * k)).take 9))) wx := fun wx => by
          have h := run_slice_string (P := Try.prog) wx 9 s .i64 .i64 z (z + 9) Try.underlying9 (by omega) (by omega) (by omega)
          rw [h, show z.toNat = 9 * k by omega, show (z + 9).toNat = 9 * k + 9 by omega]
          have e : s.extract (9 * k) (9 * k + 9) = bs ((s.data.toList.drop (9 * k)).take 9) := by
            rw [← bs_of (s.extract (9 * k) (9 * k + 9))]
            congr 1
            simp [ByteArray.data_extract, List.drop_take]
          exact congrArg (fun x => Result.ok (Value.string x) wx) e
        generalize s.data.toList.drop (9 * k) = D at *
        have RC := Lib.hid (fun w => refread_calls (bs (D.take 9)) w (by rw [bs_size, List.length_take]; omega))
        have HO := Lib.hid ho
        have HI := Lib.hid hI
        have HB := Lib.hid hb
        have NX := Lib.hid hnx
        have NO := Lib.hid hnone
        have DL := Lib.hid hdl
        have HZ := Lib.hid hz
        clear ho hI hb hnx hnone hdl hz
        rw [bs_data] at RC
        cases hr : readV (D.take 9) with
        | none =>
          rw [refreadOut_none hr] at RC
          replace RC : RowKit.Hid (∀ w, Calls Try.prog 18 #[.string (bs (D.take 9))] w fun e w' => e = .returned (.tuple #[.agg #[.int .i64 0, .int .i64 0, .string ⟨#[]⟩], .bool false]) ∧ Below w.heap.size w w') := RC
          have hnn : readN m s.data.toList = none := by rw [HI.out, NO.out hr]; rfl
          have NN := Lib.hid hnn
          clear hnn hr
          go_wp2_with fail
          refine (RC.out _).mono ?_
          rintro e w1 ⟨rfl, h1⟩
          have B3 := Lib.hid (HB.out.trans (h1.mono HB.out.size))
          clear h1
          go_wp2_with fail
          go_ret2
          rw [NN.out]
          exact ⟨rfl, B3.out.alloc B3.out.size _⟩
        | some v =>
          rw [refreadOut_some hr] at RC
          have NX2 := Lib.hid (NX.out v hr HI.out)
          clear hr NX NO HI
          obtain ⟨k0, n0, s0⟩ := v
          replace RC : RowKit.Hid (∀ w, Calls Try.prog 18 #[.string (bs (D.take 9))] w fun e w' => e = .returned (.tuple #[.agg #[.int .i64 k0, .int .i64 n0, .string s0], .bool true]) ∧ Below w.heap.size w w') := RC
          go_wp2_with fail
          refine (RC.out _).mono ?_
          rintro e w1 ⟨rfl, h1⟩
          have hX : Row (w1.alloc (.cells #[.int .i64 k0, .int .i64 n0, .string s0] 25)) w1.heap.size 25 [.int .i64 k0, .int .i64 n0, .string s0] := new_at rfl
          have x0 := hX.cell (i := 0) rfl
          have x1 := hX.cell (i := 1) rfl
          have x2 := hX.cell (i := 2) rfl
          have O2 := Lib.hid ((own_below HO.out h1).alloc (.cells #[.int .i64 k0, .int .i64 n0, .string s0] 25))
          have B3 := HB.out.trans (h1.mono HB.out.size)
          have B4 := Lib.hid (B3.alloc B3.size (.cells #[.int .i64 k0, .int .i64 n0, .string s0] 25))
          have HSZ : (w1.alloc (.cells #[.int .i64 k0, .int .i64 n0, .string s0] 25)).heap.size = w1.heap.size + 1 := by simp
          clear h1 B3
          go_wp2_with (refine app1 (news := [.int .i64 k0, .int .i64 n0, .string s0]) O2.out B4.out B4.out.size 22 Try.underlying22 info_val val_size (by decide) (by decide) (by omega) rfl (by simp [Value.oneCell']) rfl rfl rfl (by rw [HSZ]; rfl) ?_; intro v1 w3 ho3 hb3 _)
          exact ⟨⟨k + 1, vs ++ [⟨k0, n0, s0⟩], z + 9, by omega, by simp [hvl], by have := HZ.out; omega, by first | rfl | rw [z3], by rw [List.flatMap_append]; exact ho3, NX2.out, hb3⟩, by simp only [intOf]; omega⟩
      · obtain rfl : k = m := by omega
        have hdl : (s.data.toList.drop (9 * k)).length = 0 := by have := HM.out; rw [List.length_drop]; omega
        have hd0 := List.eq_nil_of_length_eq_zero hdl
        rw [hd0, Nat.sub_self] at hI
        have hI' : readN k s.data.toList = some vs := by rw [hI]; simp [readN]
        have z2 : ¬ z < (s.size : Int) := by have := HM.out; omega
        obtain ⟨a, cap, rfl, hvs⟩ := vs_own ho hvl
        have HZ := Lib.hid hz
        clear hz hI hd0 hdl
        go_wp2_with fail
        go_ret2
        try rw [hI']
        exact ⟨a, cap, by rw [hvl]; rfl, hvs, hb⟩
  · have hn : readRow s.data.toList = none := by unfold readRow; rw [hl, if_neg hc]
    rw [hn]
    by_cases h9 : s.size % 9 = 0
    · have e1 : ((s.size : Int).tmod 9 != 0) = false := by
        rw [Int.tmod_eq_emod_of_nonneg (by omega)]
        simp
        omega
      have e2 : (36 : Int) < (s.size : Int) := by omega
      have e3 : wrap64 ((s.size : Int).tmod 9) = (s.size : Int).tmod 9 := by rw [Int.tmod_eq_emod_of_nonneg (by omega)]; unfold wrap64; omega
      go_enter Try.func11, Try.ntmps11
      go_wp2_with fail
      go_ret2
      exact ⟨rfl, Below.refl _ _⟩
    · have e1 : ((s.size : Int).tmod 9 != 0) = true := by
        rw [Int.tmod_eq_emod_of_nonneg (by omega)]
        simp
        omega
      have e3 : wrap64 ((s.size : Int).tmod 9) = (s.size : Int).tmod 9 := by rw [Int.tmod_eq_emod_of_nonneg (by omega)]; unfold wrap64; omega
      go_enter Try.func11, Try.ntmps11
      go_wp2_with fail
      go_ret2
      exact ⟨rfl, Below.refl _ _⟩

set_option maxHeartbeats 1000000 in
theorem same_calls (l : List V) (a b : Option Addr) (cap cap' : Nat) (w : World) (ha : Vs w a l) (hb : Vs w b l) (hl : l.length ≤ 9223372036854775807) :
    Calls Try.prog 12 #[.slice a l.length cap, .slice b l.length cap'] w fun e w' => e = .returned (.bool true) ∧ Below w.heap.size w w' := by
  go_enter Try.func12, Try.ntmps12
  go_wp2_with fail
  go_loopw [5] (fun i wr => ∃ k : Nat, k ≤ l.length ∧ i = .int .i64 k ∧ Below w.heap.size w wr) (fun i _ => l.length - (intOf i).toNat)
  case atStart => exact ⟨0, by omega, rfl, Below.refl _ _⟩
  case round =>
    obtain ⟨k, hk, rfl, hbw⟩ := hrel
    by_cases hlt : k < l.length
    · obtain ⟨ad, rfl, hlb, hx⟩ := ha k hlt
      obtain ⟨bd, rfl, hlb', hy⟩ := hb k hlt
      have hlt' : (k : Int) < (l.length : Int) := by omega
      obtain ⟨x0, x1, x2⟩ := hx _ hbw
      obtain ⟨y0, y1, y2⟩ := hy _ hbw
      generalize l[k] = v at *
      obtain ⟨k0, n0, s0⟩ := v
      have HB := Lib.hid hbw
      clear hx hy ha hb hbw
      try simp only at x0 x1 x2 y0 y1 y2
      go_wp2_with fail
      go_quiet (fail)
      go_wp2_with fail
      exact ⟨⟨k + 1, by omega, by go_num, by first | exact HB.out.drew | exact below_drewN HB.out _⟩, by simp [intOf]; omega⟩
    · obtain rfl : k = l.length := by omega
      go_wp2_with fail
      go_ret
      exact ⟨rfl, hbw⟩
end Go.Proofs.Ytdnkgnlkipaboaa.Sign
