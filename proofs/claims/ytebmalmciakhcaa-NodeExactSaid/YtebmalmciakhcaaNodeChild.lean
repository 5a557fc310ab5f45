/- node.Child, node.Lead. -/
import Derived.Test.YtebmalmciakhcaaNodeSame
namespace Go.Proofs.Ytebmalmciakhcaa.Node
open Go.RowKit Go.Proofs.Ytebmalmciakhcaa.Mem Go.Proofs.Ytebmalmciakhcaa.Bytes Go.Proofs.Ytebmalmciakhcaa.Ord
set_option linter.unusedSimpArgs false
set_option linter.unusedVariables false

def childN (e : Ent) : Nat := if e.val.size = 2 then lev e.val.data.toList else 0
set_option maxHeartbeats 1000000 in
theorem child_calls (e : Ent) (w : World) (hs : e.val.size ≤ 9223372036854775807) : Calls Try.prog 21 #[.agg #[.string e.key, .string e.val, .bool e.ghost]] w fun x w' => x = .returned (.int .i64 (childN e : Int)) ∧ Below w.heap.size w w' := by
  obtain ⟨key, val, g⟩ := e
  have hX : Row (w.alloc (.cells #[.string key, .string val, .bool g] 44)) w.heap.size 44 [.string key, .string val, .bool g] := new_at rfl
  have hb : Below w.heap.size w (w.alloc (.cells #[.string key, .string val, .bool g] 44)) := (Below.refl _ _).alloc (Nat.le_refl _) _
  have x1 := hX.cell (i := 1) rfl
  simp only at hs
  by_cases h2 : val.size = 2
  · have hd : ((val.size : Int) != 2) = false := by simp; omega
    obtain ⟨a, ha⟩ : ∃ a, (val[0]'(by omega)).toNat = a := ⟨_, rfl⟩
    obtain ⟨b, hbq⟩ : ∃ b, (val[1]'(by omega)).toNat = b := ⟨_, rfl⟩
    have i1 : (1 : Int) < (val.size : Int) := by omega
    have i0 : (0 : Int) < (val.size : Int) := by omega
    have a2 : a < 256 := by rw [← ha]; exact UInt8.toNat_lt _
    have b2 : b < 256 := by rw [← hbq]; exact UInt8.toNat_lt _
    have hl : val.data.toList = [val[0]'(by omega), val[1]'(by omega)] := by
      have l : val.data.toList.length = 2 := h2
      match hv : val.data.toList, l with
      | [x, y], _ =>
        have e0 : val.data.toList[0]? = some (val[0]'(by omega)) := by rw [List.getElem?_eq_getElem (by rw [hv]; simp)]; rfl
        have e1 : val.data.toList[1]? = some (val[1]'(by omega)) := by rw [List.getElem?_eq_getElem (by rw [hv]; simp)]; rfl
        rw [hv] at e0 e1
        simp at e0 e1
        rw [e0, e1]
    have hc : childN ⟨key, val, g⟩ = a + b * 256 := by
      unfold childN
      rw [if_pos h2]
      simp only
      rw [hl, lev, lev, lev, ha, hbq]
      omega
    have hor := or_shift a b 1 (by omega) b2 (by omega)
    rw [show (2 : Int) ^ (8 * 1) = 256 from rfl, show (256 : Nat) ^ 1 = 256 from rfl] at hor
    rw [show wrap64 ((b : Int) * 256) = (b : Int) * 256 by unfold wrap64; omega, show ((a + b * 256 : Nat) : Int) = (a : Int) + (b : Int) * 256 by omega] at hor
    rw [hc]
    have HOR := Lib.hid hor
    clear hl hc hor
    go_enter Try.func21, Try.ntmps21
    go_wp2_with fail
    go_quiet (fail)
    go_wp2_with fail
    go_ret
    exact ⟨by have h9 := HOR.out; simp [h9], by first | exact hb.drew | exact below_drewN hb _⟩
  · have hd : ((val.size : Int) != 2) = true := by simp; omega
    have hc : childN ⟨key, val, g⟩ = 0 := by unfold childN; rw [if_neg h2]
    rw [hc]
    go_enter Try.func21, Try.ntmps21
    go_wp2_with fail
    go_ret
    exact ⟨rfl, hb⟩

/-- The bytes of a page's number. -/
def leadV (page : Int) : List UInt8 := le (page % 65536).toNat 2
theorem lead_two (page : Int) : leadV page = [UInt8.ofNat (page % 256).toNat, UInt8.ofNat (page / 256 % 256).toNat] := by
  have e1 : UInt8.ofNat ((page % 65536).toNat) = UInt8.ofNat (page % 256).toNat := by
    apply UInt8.toNat_inj.1
    simp
    omega
  have e2 : UInt8.ofNat ((page % 65536).toNat / 256) = UInt8.ofNat (page / 256 % 256).toNat := by
    apply UInt8.toNat_inj.1
    simp
    omega
  unfold leadV
  simp only [le, List.nil_append, Nat.pow_zero, Nat.div_one, Nat.pow_one, List.singleton_append]
  rw [e1, e2]
theorem lead_child (key : ByteArray) (page : Int) : childN ⟨key, bs (leadV page), false⟩ = (page % 65536).toNat := by
  unfold childN
  simp only
  rw [bs_size, bs_data, if_pos (by unfold leadV; rw [le_length])]
  unfold leadV
  rw [lev_le]
  omega
set_option maxHeartbeats 1000000 in
theorem lead_calls (key : ByteArray) (page : Int) (w : World) : Calls Try.prog 20 #[.string key, .int .i64 page] w fun x w' => x = .returned (.agg #[.string key, .string (bs (leadV page)), .bool false]) ∧ Below w.heap.size w w' := by
  have hR : Row (w.alloc (.cells #[.string ⟨#[]⟩, .string ⟨#[]⟩, .bool false] 44)) w.heap.size 44 [.string ⟨#[]⟩, .string ⟨#[]⟩, .bool false] := new_at rfl
  have hb : Below w.heap.size w (w.alloc (.cells #[.string ⟨#[]⟩, .string ⟨#[]⟩, .bool false] 44)) := (Below.refl _ _).alloc (Nat.le_refl _) _
  have hc1 : (page % 256) = ((UInt8.ofNat (page % 256).toNat).toNat : Int) := by simp; omega
  have hc2 : (page / 256 % 256) = ((UInt8.ofNat (page / 256 % 256).toNat).toNat : Int) := by simp; omega
  have hrow : Row ((w.alloc (.cells #[.string ⟨#[]⟩, .string ⟨#[]⟩, .bool false] 44)).alloc (.cells #[.int .u8 (page % 256), .int .u8 (page / 256 % 256)] 5)) (w.heap.size + 1) 5 ((leadV page).map bv ++ []) := by
    have h0 : Row ((w.alloc (.cells #[.string ⟨#[]⟩, .string ⟨#[]⟩, .bool false] 44)).alloc (.cells #[.int .u8 (page % 256), .int .u8 (page / 256 % 256)] 5)) (w.heap.size + 1) 5 [.int .u8 (page % 256), .int .u8 (page / 256 % 256)] := new_at (by simp)
    refine h0.cast ?_
    rw [lead_two, List.append_nil]
    simp only [List.map_cons, List.map_nil, bv]
    rw [← hc1, ← hc2]
  have hcv := run_string_row (P := Try.prog) hrow Try.underlying41 Try.underlying5 Try.underlying9 2
  have hll : (leadV page).length = 2 := by unfold leadV; rw [le_length]
  rw [hll] at hcv
  have R := Lib.hid (hR.alloc (.cells #[.int .u8 (page % 256), .int .u8 (page / 256 % 256)] 5))
  have B := Lib.hid (hb.alloc hb.size (.cells #[.int .u8 (page % 256), .int .u8 (page / 256 % 256)] 5))
  have ho1 : ∀ x ∈ ([.string key, .string (bs (leadV page)), .bool false] : List Value), x.oneCell' = true := by simp [Value.oneCell']
  have OO := Lib.hid ho1
  clear hR hb hrow hc1 hc2 ho1
  go_enter Try.func20, Try.ntmps20
  go_wp2_with (refine store_row R.out [.string key, .string (bs (leadV page)), .bool false] 44 (by kernel_rfl) rfl OO.out rfl rfl rfl rfl ?_; intro wz hRz hcz hsz)
  exact ret_row hRz Try.results20 Try.underlying44 rfl (by kernel_rfl) rfl rfl ⟨rfl, below_one' B.out hcz B.out.size (Nat.le_refl _)⟩
end Go.Proofs.Ytebmalmciakhcaa.Node
