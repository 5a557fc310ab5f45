/- The law of sums that go together: the walk. -/
import Derived.Test.YtlcjiofdbalplaaCrcLaw
import Derived.Deep.RegionLaw
import Derived.Test.YtlcjiofdbalplaaApp
import Derived.Deep.DeepMust
namespace Go.Proofs.Ytlcjiofdbalplaa.Crc
open Go.RowKit Go.Proofs.Ytlcjiofdbalplaa.Bytes Go.Proofs.Ytlcjiofdbalplaa.Mem
set_option linter.unusedSimpArgs false
set_option linter.unusedVariables false

theorem xor_u8 (a b : UInt8) : Go.bits .xor .u8 (a.toNat : Int) (b.toNat : Int) = ((a ^^^ b).toNat : Int) := by
  show IntKind.u8.wrap ((BitVec.ofInt 8 (a.toNat : Int) ^^^ BitVec.ofInt 8 (b.toNat : Int)).toNat : Int) = _
  have e : ∀ x : UInt8, BitVec.ofInt 8 (x.toNat : Int) = x.toBitVec := fun x => by
    rw [BitVec.ofInt_natCast]
    apply BitVec.eq_of_toNat_eq
    rw [BitVec.toNat_ofNat]
    exact Nat.mod_eq_of_lt x.toBitVec.isLt
  rw [e, e, IntKind.wrap_u8]
  show (((a ^^^ b).toBitVec.toNat : Nat) : Int) % 256 = ((a ^^^ b).toBitVec.toNat : Int)
  have := (a ^^^ b).toBitVec.isLt
  omega

theorem info_u8 : (Try.prog.info? 5).map (fun i => (i.zero, i.size, i.bytes)) = some (some (.int .u8 0), 1, 1) := by kernel_rfl
theorem ownsRow_drew {w : World} {base : Nat} {e : TypeId} {size : Nat} {v : Value} {n : Nat} {xs : List Value} (h : w.ownsRow base e size v n xs) : w.drew.ownsRow base e size v n xs := h

def x3 (a b c : ByteArray) (n : Nat) : List UInt8 := List.zipWith (· ^^^ ·) (List.zipWith (· ^^^ ·) (a.data.toList.take n) (b.data.toList.take n)) (c.data.toList.take n)

theorem x3_snoc (a b c : ByteArray) (k : Nat) (ha : k < a.size) (hb : k < b.size) (hc : k < c.size) :
    (x3 a b c k).map bv ++ [.int .u8 (Go.bits .xor .u8 (Go.bits .xor .u8 (a[k].toNat : Int) (b[k].toNat : Int)) (c[k].toNat : Int))] = (x3 a b c (k + 1)).map bv := by
  rw [xor_u8, xor_u8]
  unfold x3
  have ea : a.data.toList.take (k + 1) = a.data.toList.take k ++ [a[k]] := List.take_succ_eq_append_getElem (by rw [← size_list]; exact ha)
  have eb : b.data.toList.take (k + 1) = b.data.toList.take k ++ [b[k]] := List.take_succ_eq_append_getElem (by rw [← size_list]; exact hb)
  have ec : c.data.toList.take (k + 1) = c.data.toList.take k ++ [c[k]] := List.take_succ_eq_append_getElem (by rw [← size_list]; exact hc)
  have la : (a.data.toList.take k).length = k := by rw [List.length_take, ← size_list]; omega
  have lb : (b.data.toList.take k).length = k := by rw [List.length_take, ← size_list]; omega
  have lc : (c.data.toList.take k).length = k := by rw [List.length_take, ← size_list]; omega
  rw [ea, eb, ec, List.zipWith_append (by rw [la, lb]), List.zipWith_append (by rw [List.length_zipWith, la, lb, lc]; omega), List.map_append]
  rfl
theorem ownsRow_cast {w : World} {base : Nat} {e : TypeId} {size : Nat} {v : Value} {n : Nat} {xs ys : List Value} (h : w.ownsRow base e size v n xs) (he : xs = ys) : w.ownsRow base e size v n ys := he ▸ h

set_option maxHeartbeats 1600000 in
theorem linear_calls (a b c : ByteArray) (w : World) (ha : a.size ≤ 140737488351232) (hb : b.size ≤ 140737488351232) (hc : c.size ≤ 140737488351232) :
    Calls Try.prog 5 #[.string a, .string b, .string c] w fun e w' => e = .returned (.bool true) ∧ Below w.heap.size w w' := by
  have HB := Lib.hid (Below.refl w.heap.size w)
  obtain ⟨n, hn, hna, hnb, hnc, -⟩ := run_min3 Try.prog 3 a.size b.size c.size
  go_enter Try.func5, Try.ntmps5
  go_wp2_with (first
      | (go_at_call 12; refine (awake_calls _).mono ?_; rintro e w' ⟨rfl, hb⟩; replace HB := Lib.hid (below_next HB.out hb (Nat.le_refl _)); clear hb))
  · go_ret
    exact ⟨rfl, HB.out⟩
  · rename_i hn5
    go_loopw [8, 9] (fun v i wr => ∃ k : Nat, k ≤ n ∧ i = .int .i64 k ∧ wr.ownsRow w.heap.size 5 1 v k ((x3 a b c k).map bv) ∧ Below w.heap.size w wr) (fun _ i _ => n - (intOf i).toNat)
    case atStart => exact ⟨0, by omega, rfl, World.ownsRow_lit _ #[] 0 HB.out.size (by unfold maxLen; omega) rfl, HB.out.alloc HB.out.size _⟩
    case round =>
      obtain ⟨k, hk, rfl, ho, hbw⟩ := hrel
      by_cases hlt : k < n
      · have hka : (k : Int) < (a.size : Int) := by omega
        have hkb : (k : Int) < (b.size : Int) := by omega
        have hkc : (k : Int) < (c.size : Int) := by omega
        go_wp2
        have ho2 := ownsRow_drew ho
        have hbw2 := hbw.drew
        clear ho hbw
        go_region_law (refine app1_step (news := [_]) ho2 hbw2 hbw2.size 31 Try.underlying31 info_u8 rfl (by decide) (by decide) (by omega) rfl (by simp [Value.oneCell']) rfl rfl rfl rfl ?_; intro v' w3 ho3 hb3 _; clear ho2 hbw2)
        all_goals
          go_wp2
          go_roundw
          case rel => exact ⟨k + 1, by omega, by go_num, ownsRow_cast ho3 (x3_snoc a b c k (by omega) (by omega) (by omega)), hb3⟩
          case measure => simp [intOf]; omega
      · obtain rfl : k = n := by omega
        have hcv : (convert 31 9 u8).run Try.prog wr.drew = .ok (.string (bs (x3 a b c k))) wr.drew := run_string_own (ownsRow_drew ho) Try.underlying31 Try.underlying5 Try.underlying9
        have h1 : (bs (x3 a b c k)).size ≤ 9223372036854775807 := by
          rw [bs_size]; unfold x3
          rw [List.length_zipWith, List.length_zipWith, List.length_take, List.length_take, List.length_take]; omega
        have h2 : (a.extract 0 k).size ≤ 9223372036854775807 := by rw [extract_take, bs_size, List.length_take]; omega
        have h3 : (b.extract 0 k).size ≤ 9223372036854775807 := by rw [extract_take, bs_size, List.length_take]; omega
        have h4 : (c.extract 0 k).size ≤ 9223372036854775807 := by rw [extract_take, bs_size, List.length_take]; omega
        have hfin : num (sum (x3 a b c k)) = Go.bits .xor .u32 (Go.bits .xor .u32 (num (sum (a.data.toList.take k))) (num (sum (b.data.toList.take k)))) (num (sum (c.data.toList.take k))) := by
          have la : (a.data.toList.take k).length = k := by rw [List.length_take, ← size_list]; omega
          have lb : (b.data.toList.take k).length = k := by rw [List.length_take, ← size_list]; omega
          have lc : (c.data.toList.take k).length = k := by rw [List.length_take, ← size_list]; omega
          rw [xor_num, xor_num]
          unfold x3
          rw [sum_xor3 _ _ _ (by rw [la, lb]) (by rw [la, lc])]
        have HF := Lib.hid hfin
        clear hfin ho
        go_wp2
        go_region_with (go_at_call 15; refine (sum_calls _ _ (by assumption)).mono ?_; rintro e w' ⟨rfl, rfl⟩)
        all_goals
          go_wp2
          go_ret
          refine ⟨?_, hbw.drew⟩
          show Ending.returned (.bool (num (sum (x3 a b c k)) == Go.bits .xor .u32 (Go.bits .xor .u32 (num (sum (a.data.toList.take k))) (num (sum (b.data.toList.take k)))) (num (sum (c.data.toList.take k))))) = _
          rw [HF.out, beq_self_eq_true]
end Go.Proofs.Ytlcjiofdbalplaa.Crc
