/- gaugerref15.Bits, Of, Add; gaugerref16.Add. -/
import Derived.Test.YtcfjooeagfollaaBit
import Derived.Test.YtcfjooeagfollaaWideC
namespace Go.Proofs.Ytcfjooeagfollaa.Wide
open Go.RowKit Go.Proofs.Ytcfjooeagfollaa.Mem Go.Proofs.Ytcfjooeagfollaa.Bytes Go.Proofs.Ytcfjooeagfollaa.Num
set_option linter.unusedSimpArgs false
set_option linter.unusedVariables false
set_option maxRecDepth 20000

def bl (b : Bool) : Value := .bool b
theorem and_one (n i : Nat) (h : n < 18446744073709551616) : (Go.bits .and .u64 ((n / 2 ^ i : Nat) : Int) 1 == 1) = decide (n / 2 ^ i % 2 = 1) := by
  have hk : ∀ n : Int, 0 ≤ n → n < 2 ^ 64 → IntKind.u64.wrap n = n := fun n h0 h1 => by
    rw [wrap_u64]
    omega
  have hle : n / 2 ^ i ≤ n := Nat.div_le_self _ _
  generalize n / 2 ^ i = x at *
  have h2 := (bits_nat .u64 64 (by decide) hk x 1 (by omega) (by omega)).1
  rw [show ((1 : Nat) : Int) = (1 : Int) from rfl] at h2
  rw [h2, Nat.and_one_is_mod]
  rw [Bool.eq_iff_iff]
  simp
  omega
theorem zero_cells : Try.zeroCells213 = (List.replicate 128 (bl false)).toArray := by kernel_rfl
theorem one_cells (l : List Bool) : ∀ v ∈ l.map bl, v.oneCell' = true := by
  intro v hv
  obtain ⟨b, _, rfl⟩ := List.mem_map.1 hv
  rfl
theorem zero_map : List.replicate 128 (bl false) = (List.replicate 128 false).map bl := by rw [List.map_replicate]
def part (l1 l2 : List Bool) (k : Nat) : List Bool := (l1.take k ++ List.replicate (64 - k) false) ++ (l2.take k ++ List.replicate (64 - k) false)
theorem part_half {l : List Bool} {k : Nat} (h : l.length = 64) (hk : k < 64) : (l.take k ++ List.replicate (64 - k) false).set k l[k] = l.take (k + 1) ++ List.replicate (64 - (k + 1)) false := by
  rw [List.set_append_right _ _ (by rw [List.length_take]; omega), List.length_take, Nat.min_eq_left (by omega), Nat.sub_self, show 64 - k = (64 - (k + 1)) + 1 by omega, List.replicate_succ, List.set_cons_zero, List.take_succ_eq_append_getElem (by omega), List.append_assoc]
  rfl
theorem part_step {l1 l2 : List Bool} {k : Nat} (h1 : l1.length = 64) (h2 : l2.length = 64) (hk : k < 64) : ((part l1 l2 k).set k l1[k]).set (64 + k) l2[k] = part l1 l2 (k + 1) := by
  have hl : (l1.take k ++ List.replicate (64 - k) false).length = 64 := by rw [List.length_append, List.length_take, List.length_replicate]; omega
  unfold part
  rw [List.set_append_left _ _ (by omega), part_half h1 hk]
  have hl2 : (l1.take (k + 1) ++ List.replicate (64 - (k + 1)) false).length = 64 := by rw [List.length_append, List.length_take, List.length_replicate]; omega
  rw [List.set_append_right _ _ (by omega), hl2, show 64 + k - 64 = k by omega, part_half h2 hk]
theorem part_length {l1 l2 : List Bool} {k : Nat} (h1 : l1.length = 64) (h2 : l2.length = 64) (hk : k ≤ 64) : (part l1 l2 k).length = 128 := by
  unfold part
  rw [List.length_append, List.length_append, List.length_append, List.length_take, List.length_take, List.length_replicate]
  omega

set_option maxHeartbeats 2000000 in
theorem bits_calls (a : Wd) (hf : a.fits) (w : World) : Calls Try.prog 130 #[a.val] w fun e w' => e = .returned (.agg (a.bits.map bl).toArray) ∧ Below w.heap.size w w' := by
  obtain ⟨hi, lo⟩ := a
  obtain ⟨f1, f2, f3, f4⟩ := hf
  simp only at f1 f2 f3 f4
  obtain ⟨m, rfl⟩ := Int.eq_ofNat_of_zero_le f3
  show Calls Try.prog 130 #[.agg #[.int .i64 hi, .int .u64 m]] w _
  have hX : Row (w.alloc (.cells #[.int .i64 hi, .int .u64 m] 24)) w.heap.size 24 [.int .i64 hi, .int .u64 m] := new_at rfl
  have X0 := (hX.alloc (.cells Try.zeroCells213 213)).alloc (.cells Try.zeroCells213 213)
  have Z0 : Row ((w.alloc (.cells #[.int .i64 hi, .int .u64 m] 24)).alloc (.cells Try.zeroCells213 213)) (w.heap.size + 1) 213 ((List.replicate 128 false).map bl) := by
    have := Row.new' (w.alloc (.cells #[.int .i64 hi, .int .u64 m] 24)) 213 Try.zeroCells213
    rw [show (w.alloc (.cells #[.int .i64 hi, .int .u64 m] 24)).heap.size = w.heap.size + 1 by simp] at this
    exact this.cast (by rw [zero_cells, ← zero_map])
  have Z1 := Z0.alloc (.cells Try.zeroCells213 213)
  have Y1 : Row (((w.alloc (.cells #[.int .i64 hi, .int .u64 m] 24)).alloc (.cells Try.zeroCells213 213)).alloc (.cells Try.zeroCells213 213)) (w.heap.size + 1 + 1) 213 ((List.replicate 128 false).map bl) := by
    have := Row.new' ((w.alloc (.cells #[.int .i64 hi, .int .u64 m] 24)).alloc (.cells Try.zeroCells213 213)) 213 Try.zeroCells213
    rw [show ((w.alloc (.cells #[.int .i64 hi, .int .u64 m] 24)).alloc (.cells Try.zeroCells213 213)).heap.size = w.heap.size + 1 + 1 by simp] at this
    exact this.cast (by rw [zero_cells, ← zero_map])
  have b1 : Below w.heap.size w (((w.alloc (.cells #[.int .i64 hi, .int .u64 m] 24)).alloc (.cells Try.zeroCells213 213)).alloc (.cells Try.zeroCells213 213)) := (((Below.refl _ _).alloc (Nat.le_refl _) _).alloc (by simp) _).alloc (by simp; omega) _
  have HX := Lib.hid X0
  have HZ := Lib.hid Z1
  have HY := Lib.hid Y1
  have HB := Lib.hid b1
  obtain ⟨T, hT⟩ : ∃ T, Wd.top ⟨hi, (m : Int)⟩ = T := ⟨_, rfl⟩
  have hcv : IntKind.u64.wrap hi = (T : Int) := by rw [← hT]; exact conv_top ⟨hi, (m : Int)⟩
  have hTl : T < 18446744073709551616 := by rw [← hT]; have := Wd.top_lt ⟨hi, (m : Int)⟩; omega
  have hml : m < 18446744073709551616 := by omega
  have hbt : Wd.bits ⟨hi, (m : Int)⟩ = bitsOf m 64 ++ bitsOf T 64 := by unfold Wd.bits; rw [hT]; simp
  rw [hbt]
  have HAO1 := Lib.hid (fun i => and_one m i hml)
  have HAO2 := Lib.hid (fun i => and_one T i hTl)
  clear hX X0 Z0 Z1 Y1 b1 hT hbt
  go_enter Try.func130, Try.ntmps130
  go_wp2_with (refine store_row HY.out ((List.replicate 128 false).map bl) 213 (by kernel_rfl) rfl (one_cells _) rfl rfl rfl (by kernel_rfl) ?_; intro w3 hR3 hC3 hS3)
  have Y := Lib.hid hR3
  have X := Lib.hid (HX.out.chg hC3 (by show ¬ w.heap.size = w.heap.size + 1 + 1; omega))
  have Z := Lib.hid (HZ.out.chg hC3 (by show ¬ w.heap.size + 1 = w.heap.size + 1 + 1; omega))
  have B := Lib.hid (below_one HB.out hC3 (Nat.le_refl _) (by omega))
  clear HX HZ HY HB hR3 hC3 hS3
  go_loopw [4] (fun i wr => ∃ k : Nat, k ≤ 64 ∧ i = .int .i64 k ∧ Row wr (w.heap.size + 1 + 1) 213 ((part (bitsOf m 64) (bitsOf T 64) k).map bl) ∧ Row wr w.heap.size 24 [.int .i64 hi, .int .u64 m] ∧ Row wr (w.heap.size + 1) 213 ((List.replicate 128 false).map bl) ∧ Below w.heap.size w wr) (fun i _ => 64 - (intOf i).toNat)
  case atStart => exact ⟨0, by omega, rfl, Y.out.cast rfl, X.out, Z.out, B.out⟩
  case round =>
    clear X Y Z B
    obtain ⟨k, hk, rfl, hY, hX, hZ, hB⟩ := hrel
    have Y := Lib.hid hY
    have X := Lib.hid hX
    have Z := Lib.hid hZ
    have B := Lib.hid hB
    clear hY hX hZ hB
    by_cases hlt : k < 64
    · have l1 := bitsOf_length m 64
      have l2 := bitsOf_length T 64
      have hpl := part_length l1 l2 hk
      have x0 := X.out.cell (i := 0) rfl
      have x1 := X.out.cell (i := 1) rfl
      have g1 : (bitsOf m 64)[k]'(by omega) = decide (m / 2 ^ k % 2 = 1) := by simp [bitsOf]
      have g2 : (bitsOf T 64)[k]'(by omega) = decide (T / 2 ^ k % 2 = 1) := by simp [bitsOf]
      have a1 : (Go.bits .and .u64 ((m : Int) / 2 ^ k) 1 == 1) = (bitsOf m 64)[k]'(by omega) := by rw [g1, ← HAO1.out k]; norm_cast
      have a2 : (Go.bits .and .u64 ((T : Int) / 2 ^ k) 1 == 1) = (bitsOf T 64)[k]'(by omega) := by rw [g2, ← HAO2.out k]; norm_cast
      have PS := Lib.hid (part_step l1 l2 hlt)
      clear g1 g2
      generalize (bitsOf m 64)[k]'(by omega) = b1 at *
      generalize (bitsOf T 64)[k]'(by omega) = b2 at *
      generalize part (bitsOf m 64) (bitsOf T 64) k = P at *
      have hk1 : k < P.length := by omega
      have hk2 : 64 + k < P.length := by omega
      have c1 := Y.out.cell (i := k) (v := bl P[k]) (by rw [List.getElem?_map, List.getElem?_eq_getElem hk1]; rfl)
      have f1' := Y.out.frozen k (by rw [List.length_map]; omega)
      have Y2 := Y.out.set k (bl b1)
      have c2 := Y2.cell (i := 64 + k) (v := bl P[64 + k]) (by rw [List.getElem?_set_ne (by omega), List.getElem?_map, List.getElem?_eq_getElem hk2]; rfl)
      have f2' := Y2.frozen (64 + k) (by rw [List.length_set, List.length_map]; omega)
      have x0' := (X.out.set_ne ⟨w.heap.size + 1 + 1, k, none⟩ (bl b1) (by show w.heap.size + 1 + 1 ≠ w.heap.size; omega)).cell (i := 0) rfl
      have Y3 := Lib.hid (((Y2.set (64 + k) (bl b2)).cast (cs' := ((P.set k b1).set (64 + k) b2).map bl) (by rw [List.map_set, List.map_set])).cast (by rw [PS.out]))
      have X3 := Lib.hid ((X.out.set_ne ⟨w.heap.size + 1 + 1, k, none⟩ (bl b1) (by show w.heap.size + 1 + 1 ≠ w.heap.size; omega)).set_ne ⟨w.heap.size + 1 + 1, 64 + k, none⟩ (bl b2) (by show w.heap.size + 1 + 1 ≠ w.heap.size; omega))
      have Z3 := Lib.hid ((Z.out.set_ne ⟨w.heap.size + 1 + 1, k, none⟩ (bl b1) (by show w.heap.size + 1 + 1 ≠ w.heap.size + 1; omega)).set_ne ⟨w.heap.size + 1 + 1, 64 + k, none⟩ (bl b2) (by show w.heap.size + 1 + 1 ≠ w.heap.size + 1; omega))
      have B3 := Lib.hid ((B.out.setCell (p := ⟨w.heap.size + 1 + 1, k, none⟩) (by show w.heap.size ≤ w.heap.size + 1 + 1; omega) (bl b1)).setCell (p := ⟨w.heap.size + 1 + 1, 64 + k, none⟩) (by show w.heap.size ≤ w.heap.size + 1 + 1; omega) (bl b2))
      unfold bl at c1 c2 f2' x0'
      have hpl' : 128 ≤ P.length := Nat.le_of_eq hpl.symm
      clear Y2 PS hpl l1 l2
      go_wp2_with fail
      exact ⟨⟨k + 1, by omega, by go_num, Y3.out, X3.out, Z3.out, B3.out⟩, by simp [intOf]; omega⟩
    · obtain rfl : k = 64 := by omega
      have hp : part (bitsOf m 64) (bitsOf T 64) 64 = bitsOf m 64 ++ bitsOf T 64 := by
        unfold part
        rw [List.take_of_length_le (Nat.le_of_eq (bitsOf_length _ _)), List.take_of_length_le (Nat.le_of_eq (bitsOf_length _ _)), Nat.sub_self, List.replicate_zero, List.append_nil, List.append_nil]
      rw [hp] at Y
      have hYl : (bitsOf m 64 ++ bitsOf T 64).length = 128 := by rw [List.length_append, bitsOf_length, bitsOf_length]
      obtain ⟨L, hLL⟩ : ∃ L, bitsOf m 64 ++ bitsOf T 64 = L := ⟨_, rfl⟩
      rw [hLL] at Y hYl
      have HLL := Lib.hid hLL
      clear hLL
      have hi2 : (Try.prog.info? 213).map (·.size) = some (L.map bl).length := by rw [List.length_map, hYl]; kernel_rfl
      have HI2 := Lib.hid hi2
      have HL := Lib.hid (show (L.map bl).length = ((List.replicate 128 false).map bl).length by rw [List.length_map, hYl, List.length_map, List.length_replicate])
      clear hp hYl hi2
      go_wp2_with (first
        | (refine load_row Y.out 213 Try.underlying213 rfl HI2.out rfl rfl rfl ?_)
        | (refine store_row Z.out (L.map bl) 213 HI2.out HL.out (one_cells _) rfl rfl rfl rfl ?_; intro w5 hR5 hC5 hS5))
      exact ret_row hR5 Try.results130 Try.underlying213 rfl HI2.out rfl rfl ⟨by rw [HLL.out], below_one B.out hC5 (Nat.le_refl _) (by omega)⟩

theorem natOf_drop {l : List Bool} {i : Nat} (h : i < l.length) : natOf (l.drop i) = (l.getD i false).toNat + 2 * natOf (l.drop (i + 1)) := by
  rw [List.drop_eq_getElem_cons h, natOf, List.getD_eq_getElem?_getD, List.getElem?_eq_getElem h]
  rfl
theorem take_getD (l : List Bool) {i : Nat} (h : i < 64) : (l.take 64).getD i false = l.getD i false := by
  rw [List.getD_eq_getElem?_getD, List.getD_eq_getElem?_getD, List.getElem?_take_of_lt h]
theorem drop_getD (l : List Bool) (i : Nat) : (l.drop 64).getD i false = l.getD (64 + i) false := by
  rw [List.getD_eq_getElem?_getD, List.getD_eq_getElem?_getD, List.getElem?_drop]
theorem bl_getD {l : List Bool} {i : Nat} (h : i < l.length) : (l.map bl)[i]? = some (.bool (l.getD i false)) := by
  rw [List.getElem?_map, List.getElem?_eq_getElem h, List.getD_eq_getElem?_getD, List.getElem?_eq_getElem h]
  rfl
theorem natOf_drop_lt {l : List Bool} {j : Nat} (h : l.length = 64) (hj : 1 ≤ j) : natOf (l.drop j) < 9223372036854775808 := by
  have h1 := natOf_lt (l.drop j)
  rw [List.length_drop, h] at h1
  have h2 : 2 ^ (64 - j) ≤ 2 ^ 63 := Nat.pow_le_pow_right (by omega) (by omega)
  have h3 : (2 : Nat) ^ 63 = 9223372036854775808 := by decide
  omega

set_option maxHeartbeats 2000000 in
theorem of_calls (l : List Bool) (hl : l.length = 128) (w : World) : Calls Try.prog 128 #[.agg (l.map bl).toArray] w fun e w' => e = .returned (ofBits l).val ∧ Below w.heap.size w w' := by
  have hX : Row (w.alloc (.cells (l.map bl).toArray 213)) w.heap.size 213 (l.map bl) := new_at rfl
  have X0 := hX.alloc (.cells #[.int .i64 0, .int .u64 0] 24)
  have b0 : Below w.heap.size w ((w.alloc (.cells (l.map bl).toArray 213)).alloc (.cells #[.int .i64 0, .int .u64 0] 24)) := ((Below.refl _ _).alloc (Nat.le_refl _) _).alloc (by simp) _
  have Z0 : Row ((w.alloc (.cells (l.map bl).toArray 213)).alloc (.cells #[.int .i64 0, .int .u64 0] 24)) (w.heap.size + 1) 24 [.int .i64 0, .int .u64 0] := new_at (by simp)
  have HX := Lib.hid X0
  have HB := Lib.hid b0
  have HZ := Lib.hid Z0
  have l1 : (l.take 64).length = 64 := by rw [List.length_take]; omega
  have l2 : (l.drop 64).length = 64 := by rw [List.length_drop]; omega
  have hv : (ofBits l).val = .agg #[.int .i64 (wrap64 (natOf (l.drop 64) : Int)), .int .u64 (natOf (l.take 64) : Int)] := rfl
  rw [hv]
  have L1 := Lib.hid l1
  have L2 := Lib.hid l2
  have HL := Lib.hid hl
  clear hX X0 b0 Z0 hv l1 l2 hl
  go_enter Try.func128, Try.ntmps128
  go_wp2_with fail
  generalize ((w.alloc (.cells (l.map bl).toArray 213)).alloc (.cells #[.int .i64 0, .int .u64 0] 24)) = w1 at *
  go_loop [3, 4, 5] (fun lo hi i => ∃ (j : Nat) (z : Int), j ≤ 64 ∧ z = (j : Int) - 1 ∧ i = .int .i64 z ∧ lo = .int .u64 (natOf ((l.take 64).drop j) : Int) ∧ hi = .int .u64 (natOf ((l.drop 64).drop j) : Int)) (fun _ _ i => (intOf i + 1).toNat)
  case atStart => exact ⟨64, 63, by omega, rfl, rfl, by rw [List.drop_of_length_le (Nat.le_of_eq L1.out)]; rfl, by rw [List.drop_of_length_le (Nat.le_of_eq L2.out)]; rfl⟩
  case round =>
    obtain ⟨j, z, hj, hz, rfl, rfl, rfl⟩ := hrel
    by_cases h0 : 1 ≤ j
    · obtain ⟨i, rfl⟩ : ∃ i, j = i + 1 := ⟨j - 1, by omega⟩
      obtain rfl : z = (i : Int) := by omega
      clear hz
      have hi64 : i < 64 := by omega
      have s1 := natOf_drop (l := l.take 64) (i := i) (by rw [L1.out]; omega)
      have s2 := natOf_drop (l := l.drop 64) (i := i) (by rw [L2.out]; omega)
      have u1 := natOf_drop_lt L1.out h0
      have u2 := natOf_drop_lt L2.out h0
      rw [take_getD l hi64] at s1
      rw [drop_getD] at s2
      have hk1 : i < l.length := by rw [HL.out]; omega
      have hk2 : 64 + i < l.length := by rw [HL.out]; omega
      have c1 := HX.out.cell (i := i) (bl_getD hk1)
      have c2 := HX.out.cell (i := 64 + i) (bl_getD hk2)
      generalize l.getD i false = b1 at *
      generalize l.getD (64 + i) false = b2 at *
      generalize natOf ((l.take 64).drop (i + 1)) = n1 at *
      generalize natOf ((l.drop 64).drop (i + 1)) = n2 at *
      have S1 := Lib.hid s1
      have S2 := Lib.hid s2
      have v1 : IntKind.u64.wrap ((n1 : Int) * 2) = (n1 : Int) * 2 := by rw [wrap_u64]; omega
      have v2 : IntKind.u64.wrap ((n2 : Int) * 2) = (n2 : Int) * 2 := by rw [wrap_u64]; omega
      have v3 : IntKind.u64.wrap ((n1 : Int) * 2 + 1) = (n1 : Int) * 2 + 1 := by rw [wrap_u64]; omega
      have v4 : IntKind.u64.wrap ((n2 : Int) * 2 + 1) = (n2 : Int) * 2 + 1 := by rw [wrap_u64]; omega
      clear s1 s2 hk1 hk2
      cases b1 <;> cases b2
      all_goals
        go_wp2_with fail
        clear v1 v2 v3 v4
        exact ⟨⟨i, (i : Int) - 1, by omega, rfl, rfl, by rw [S1.out]; first | rfl | (congr 1; simp; omega), by rw [S2.out]; first | rfl | (congr 1; simp; omega)⟩, by simp [intOf]⟩
    · obtain rfl : j = 0 := by omega
      obtain rfl : z = -1 := by omega
      clear hz
      have z0 := HZ.out.cell (i := 0) rfl
      have z1 := HZ.out.cell (i := 1) rfl
      have f0 := HZ.out.frozen 0 (by simp)
      have f1 := HZ.out.frozen 1 (by simp)
      rw [List.drop_zero, List.drop_zero]
      have ZF := ((HZ.out.set 0 (.int .i64 (wrap64 (natOf (l.drop 64) : Int)))).set 1 (.int .u64 (natOf (l.take 64) : Int))).cast (cs' := [.int .i64 (wrap64 (natOf (l.drop 64) : Int)), .int .u64 (natOf (l.take 64) : Int)]) rfl
      have BF := (HB.out.setCell (p := ⟨w.heap.size + 1, 0, none⟩) (by show w.heap.size ≤ w.heap.size + 1; omega) (.int .i64 (wrap64 (natOf (l.drop 64) : Int)))).setCell (p := ⟨w.heap.size + 1, 1, none⟩) (by show w.heap.size ≤ w.heap.size + 1; omega) (.int .u64 (natOf (l.take 64) : Int))
      have ZF := Lib.hid ZF
      have BF := Lib.hid BF
      go_wp2_with fail
      exact ret_row ZF.out Try.results128 Try.underlying24 rfl (by kernel_rfl) rfl rfl ⟨rfl, BF.out⟩

theorem set_bit {o : List Bool} {k : Nat} (b : Bool) (h : o.length = k) (hk : k < 128) : (o ++ List.replicate (128 - k) false).set k b = (o ++ [b]) ++ List.replicate (128 - (k + 1)) false := by
  rw [List.set_append_right _ _ (by omega), h, Nat.sub_self, show 128 - k = (128 - (k + 1)) + 1 by omega, List.replicate_succ, List.set_cons_zero, List.append_assoc]
  rfl
theorem addC_step {l m : List Bool} {k : Nat} (c : Bool) (h1 : k < l.length) (h2 : k < m.length) : addC (l.drop k) (m.drop k) c = (cnt3 (l.getD k false) (m.getD k false) c == 1 || cnt3 (l.getD k false) (m.getD k false) c == 3) :: addC (l.drop (k + 1)) (m.drop (k + 1)) (decide (2 ≤ cnt3 (l.getD k false) (m.getD k false) c)) := by
  rw [List.drop_eq_getElem_cons h1, List.drop_eq_getElem_cons h2, addC, List.getD_eq_getElem?_getD, List.getElem?_eq_getElem h1, List.getD_eq_getElem?_getD, List.getElem?_eq_getElem h2]
  rfl

set_option maxHeartbeats 4000000 in
theorem addB_calls (l m : List Bool) (c0 : Bool) (hl : l.length = 128) (hm : m.length = 128) (w : World) : Calls Try.prog 129 #[.agg (l.map bl).toArray, .agg (m.map bl).toArray, .bool c0] w fun e w' => e = .returned (.agg ((addC l m c0).map bl).toArray) ∧ Below w.heap.size w w' := by
  have hX : Row (w.alloc (.cells (l.map bl).toArray 213)) w.heap.size 213 (l.map bl) := new_at rfl
  have X1 := hX.alloc (.cells (m.map bl).toArray 213)
  have Y1 : Row ((w.alloc (.cells (l.map bl).toArray 213)).alloc (.cells (m.map bl).toArray 213)) (w.heap.size + 1) 213 (m.map bl) := new_at (by simp)
  have b1 : Below w.heap.size w ((w.alloc (.cells (l.map bl).toArray 213)).alloc (.cells (m.map bl).toArray 213)) := ((Below.refl _ _).alloc (Nat.le_refl _) _).alloc (by simp) _
  have s1 : ((w.alloc (.cells (l.map bl).toArray 213)).alloc (.cells (m.map bl).toArray 213)).heap.size = w.heap.size + 1 + 1 := by simp
  have HX := Lib.hid ((X1.alloc (.cells Try.zeroCells213 213)).alloc (.cells Try.zeroCells213 213))
  have HY := Lib.hid ((Y1.alloc (.cells Try.zeroCells213 213)).alloc (.cells Try.zeroCells213 213))
  have Z1 : Row (((w.alloc (.cells (l.map bl).toArray 213)).alloc (.cells (m.map bl).toArray 213)).alloc (.cells Try.zeroCells213 213)) (w.heap.size + 1 + 1) 213 ((List.replicate 128 false).map bl) := by
    have := Row.new' ((w.alloc (.cells (l.map bl).toArray 213)).alloc (.cells (m.map bl).toArray 213)) 213 Try.zeroCells213
    rw [s1] at this
    exact this.cast (by rw [zero_cells, ← zero_map])
  have s2 : (((w.alloc (.cells (l.map bl).toArray 213)).alloc (.cells (m.map bl).toArray 213)).alloc (.cells Try.zeroCells213 213)).heap.size = w.heap.size + 1 + 1 + 1 := by simp
  have HZ := Lib.hid (Z1.alloc (.cells Try.zeroCells213 213))
  have V1 : Row ((((w.alloc (.cells (l.map bl).toArray 213)).alloc (.cells (m.map bl).toArray 213)).alloc (.cells Try.zeroCells213 213)).alloc (.cells Try.zeroCells213 213)) (w.heap.size + 1 + 1 + 1) 213 ((List.replicate 128 false).map bl) := by
    have := Row.new' (((w.alloc (.cells (l.map bl).toArray 213)).alloc (.cells (m.map bl).toArray 213)).alloc (.cells Try.zeroCells213 213)) 213 Try.zeroCells213
    rw [s2] at this
    exact this.cast (by rw [zero_cells, ← zero_map])
  have HV := Lib.hid V1
  have HB := Lib.hid ((b1.alloc b1.size (.cells Try.zeroCells213 213)).alloc (by simp; omega) (.cells Try.zeroCells213 213))
  have HL := Lib.hid hl
  have HM := Lib.hid hm
  clear hX X1 Y1 b1 s1 Z1 s2 V1 hl hm
  go_enter Try.func129, Try.ntmps129
  go_wp2_with (refine store_row HV.out ((List.replicate 128 false).map bl) 213 (by kernel_rfl) rfl (one_cells _) rfl rfl rfl (by kernel_rfl) ?_; intro w3 hR3 hC3 hS3)
  have V := Lib.hid hR3
  have X := Lib.hid (HX.out.chg hC3 (by show ¬ w.heap.size = w.heap.size + 1 + 1 + 1; omega))
  have Y := Lib.hid (HY.out.chg hC3 (by show ¬ w.heap.size + 1 = w.heap.size + 1 + 1 + 1; omega))
  have Z := Lib.hid (HZ.out.chg hC3 (by show ¬ w.heap.size + 1 + 1 = w.heap.size + 1 + 1 + 1; omega))
  have B := Lib.hid (below_one HB.out hC3 (Nat.le_refl _) (by omega))
  clear HX HY HZ HV HB hR3 hC3 hS3
  go_loopw [2, 8] (fun cv i wr => ∃ (k : Nat) (c : Bool) (o : List Bool), k ≤ 128 ∧ cv = .bool c ∧ i = .int .i64 k ∧ o.length = k ∧ addC l m c0 = o ++ addC (l.drop k) (m.drop k) c ∧ Row wr (w.heap.size + 1 + 1 + 1) 213 ((o ++ List.replicate (128 - k) false).map bl) ∧ Row wr w.heap.size 213 (l.map bl) ∧ Row wr (w.heap.size + 1) 213 (m.map bl) ∧ Row wr (w.heap.size + 1 + 1) 213 ((List.replicate 128 false).map bl) ∧ Below w.heap.size w wr) (fun _ i _ => 128 - (intOf i).toNat)
  case atStart => exact ⟨0, c0, [], by omega, rfl, rfl, rfl, by rw [List.drop_zero, List.drop_zero]; rfl, V.out, X.out, Y.out, Z.out, B.out⟩
  case round =>
    clear V X Y Z B
    obtain ⟨k, c, o, hk, rfl, rfl, hol, hI, hV, hX, hY, hZ, hB⟩ := hrel
    have OL := Lib.hid hol
    have I := Lib.hid hI
    have V := Lib.hid hV
    have X := Lib.hid hX
    have Y := Lib.hid hY
    have Z := Lib.hid hZ
    have B := Lib.hid hB
    clear hol hI hV hX hY hZ hB
    by_cases hlt : k < 128
    · have k1 : k < l.length := by rw [HL.out]; omega
      have k2 : k < m.length := by rw [HM.out]; omega
      have I2 := I.out
      rw [addC_step c k1 k2] at I2
      have c1 := X.out.cell (i := k) (bl_getD k1)
      have c2 := Y.out.cell (i := k) (bl_getD k2)
      have k3 : k < (o ++ List.replicate (128 - k) false).length := by rw [List.length_append, OL.out, List.length_replicate]; omega
      have c3 := V.out.cell (i := k) (bl_getD k3)
      have f3 := V.out.frozen k (by rw [List.length_map]; exact k3)
      have SB := Lib.hid (fun b => set_bit (o := o) b OL.out hlt)
      generalize l.getD k false = b1 at *
      generalize m.getD k false = b2 at *
      generalize (o ++ List.replicate (128 - k) false).getD k false = b3 at *
      have J := Lib.hid I2
      have X2 := Lib.hid (fun v => X.out.set_ne ⟨w.heap.size + 1 + 1 + 1, k, none⟩ v (by show w.heap.size + 1 + 1 + 1 ≠ w.heap.size; omega))
      have Y2 := Lib.hid (fun v => Y.out.set_ne ⟨w.heap.size + 1 + 1 + 1, k, none⟩ v (by show w.heap.size + 1 + 1 + 1 ≠ w.heap.size + 1; omega))
      have Z2 := Lib.hid (fun v => Z.out.set_ne ⟨w.heap.size + 1 + 1 + 1, k, none⟩ v (by show w.heap.size + 1 + 1 + 1 ≠ w.heap.size + 1 + 1; omega))
      have B2 := Lib.hid (fun v => B.out.setCell (p := ⟨w.heap.size + 1 + 1 + 1, k, none⟩) (by show w.heap.size ≤ w.heap.size + 1 + 1 + 1; omega) v)
      have V2 := Lib.hid (fun b => (V.out.set k (bl b)).cast (cs' := ((o ++ [b]) ++ List.replicate (128 - (k + 1)) false).map bl) (by rw [← SB.out b, List.map_set]))
      clear I2 I k1 k2 k3
      cases b1 <;> cases b2 <;> cases c
      all_goals
        go_wp2_with fail
        exact ⟨⟨k + 1, _, o ++ [_], by omega, rfl, by go_num, by rw [List.length_append, OL.out]; rfl, by rw [J.out, List.append_assoc]; rfl, V2.out _, X2.out _, Y2.out _, Z2.out _, B2.out _⟩, by simp [intOf]; omega⟩
    · obtain rfl : k = 128 := by omega
      have hA : addC l m c0 = o := by rw [I.out, List.drop_of_length_le (Nat.le_of_eq HL.out), List.drop_of_length_le (Nat.le_of_eq HM.out), addC, List.append_nil]; intros; contradiction
      have hV2 := V.out
      rw [Nat.sub_self, List.replicate_zero, List.append_nil] at hV2
      have hi2 : (Try.prog.info? 213).map (·.size) = some (o.map bl).length := by rw [List.length_map, OL.out]; kernel_rfl
      have HI2 := Lib.hid hi2
      have HA := Lib.hid hA
      have HV2 := Lib.hid hV2
      have HLL := Lib.hid (show (o.map bl).length = ((List.replicate 128 false).map bl).length by rw [List.length_map, OL.out, List.length_map, List.length_replicate])
      clear hA hV2 hi2 I
      go_wp2_with (first
        | (refine load_row HV2.out 213 Try.underlying213 rfl HI2.out rfl rfl rfl ?_)
        | (refine store_row Z.out (o.map bl) 213 HI2.out HLL.out (one_cells _) rfl rfl rfl rfl ?_; intro w5 hR5 hC5 hS5))
      exact ret_row hR5 Try.results129 Try.underlying213 rfl HI2.out rfl rfl ⟨by rw [HA.out], below_one B.out hC5 (Nat.le_refl _) (by omega)⟩
end Go.Proofs.Ytcfjooeagfollaa.Wide
