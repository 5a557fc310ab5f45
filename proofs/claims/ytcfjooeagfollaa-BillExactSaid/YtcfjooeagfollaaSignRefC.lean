/- gaugerref01.Code. -/
import Derived.Test.YtcfjooeagfollaaSignRefG
namespace Go.Proofs.Ytcfjooeagfollaa.Sign
open Go.RowKit Go.Proofs.Ytcfjooeagfollaa.Mem Go.Proofs.Ytcfjooeagfollaa.Bytes Go.Proofs.Ytcfjooeagfollaa.Num
set_option linter.unusedSimpArgs false
set_option linter.unusedVariables false
set_option maxRecDepth 20000

theorem be_get (u k : Nat) (h : k < 8) : (be u 8)[k]? = some (UInt8.ofNat (u / 256 ^ (7 - k))) := by
  rcases (by omega : k = 0 ∨ k = 1 ∨ k = 2 ∨ k = 3 ∨ k = 4 ∨ k = 5 ∨ k = 6 ∨ k = 7) with rfl | rfl | rfl | rfl | rfl | rfl | rfl | rfl <;> simp [be, le]
theorem be_take (u k : Nat) (h : k < 8) : (be u 8).take (k + 1) = (be u 8).take k ++ [UInt8.ofNat (u / 256 ^ (7 - k))] := by
  rw [List.take_add_one, be_get u k h]
  rfl
/-- The k-th byte of a number's bits, its sign turned for k = 0. -/
theorem byte_up {n : Int} (h0 : -9223372036854775808 ≤ n) (h1 : n ≤ 9223372036854775807) (k : Nat) (h : k < 8) (hk : k ≠ 0) :
    (n % 18446744073709551616) / 2 ^ (56 - 8 * k) % 256 = ((UInt8.ofNat (up n / 256 ^ (7 - k))).toNat : Int) := by
  unfold up
  rcases (by omega : k = 1 ∨ k = 2 ∨ k = 3 ∨ k = 4 ∨ k = 5 ∨ k = 6 ∨ k = 7) with rfl | rfl | rfl | rfl | rfl | rfl | rfl <;> simp <;> omega
set_option maxRecDepth 100000 in
theorem turn_byte (q : Nat) (h : q < 256) : Go.bits .xor .u8 (q : Int) 128 = (((q + 128) % 256 : Nat) : Int) := by
  have key : ∀ q : Fin 256, Go.bits .xor .u8 ((q.val : Nat) : Int) 128 = (((q.val + 128) % 256 : Nat) : Int) := by decide
  exact key ⟨q, h⟩
theorem byte_top {n : Int} (h0 : -9223372036854775808 ≤ n) (h1 : n ≤ 9223372036854775807) :
    Go.bits .xor .u8 ((n % 18446744073709551616) / 2 ^ 56 % 256) 128 = ((UInt8.ofNat (up n / 256 ^ 7)).toNat : Int) := by
  obtain ⟨q, hq⟩ : ∃ q : Nat, (n % 18446744073709551616) / 2 ^ 56 % 256 = q := ⟨((n % 18446744073709551616) / 2 ^ 56 % 256).toNat, by omega⟩
  rw [hq, turn_byte q (by omega)]
  unfold up
  simp
  omega

theorem info_u8 : (Try.prog.info? 5).map (fun i => (i.zero, i.size, i.bytes)) = some (some (.int .u8 0), 1, 1) := by kernel_rfl
theorem cast_own {w : World} {base : Nat} {e : TypeId} {size : Nat} {v : Value} {n : Nat} {xs ys : List Value} (h : w.ownsRow base e size v n xs) (he : xs = ys) : w.ownsRow base e size v n ys := he ▸ h
set_option maxHeartbeats 1000000 in
theorem refcode1 (n : Int) (w : World) (f1 : -9223372036854775808 ≤ n) (f2 : n ≤ 9223372036854775807) :
    Calls Try.prog 173 #[.agg #[.int .i64 1, .int .i64 n, .string ⟨#[]⟩]] w fun e w' => e = .returned (.string (bs (1 :: be (up n) 8))) ∧ Below w.heap.size w w' := by
  have hX : Row (w.alloc (.cells #[.int .i64 1, .int .i64 n, .string ⟨#[]⟩] 81)) w.heap.size 81 [.int .i64 1, .int .i64 n, .string ⟨#[]⟩] := new_at rfl
  have hb : Below w.heap.size w (w.alloc (.cells #[.int .i64 1, .int .i64 n, .string ⟨#[]⟩] 81)) := (Below.refl _ _).alloc (Nat.le_refl _) _
  have hY := hX.alloc (.cells #[.int .u8 1] 5)
  have x0 := hX.cell (i := 0) rfl
  have y0 := hY.cell (i := 0) rfl
  have y1 := hY.cell (i := 1) rfl
  try simp only at x0 y0 y1
  have hb2 := hb.alloc hb.size (.cells #[.int .u8 1] 5)
  have hl := World.ownsRow_lit (e := 5) (size := 1) (w.alloc (.cells #[.int .i64 1, .int .i64 n, .string ⟨#[]⟩] 81)) #[.int .u8 1] 1 hb.size (by unfold maxLen; omega) rfl
  rw [show (w.alloc (.cells #[.int .i64 1, .int .i64 n, .string ⟨#[]⟩] 81)).heap.size = w.heap.size + 1 by simp] at hl
  have HL := Lib.hid hl
  clear hX hY hl
  go_enter Try.func173, Try.ntmps173
  go_wp2_with fail
  go_loopw [3, 5] (fun v i wr => ∃ k : Nat, k ≤ 8 ∧ i = .int .i64 k ∧ wr.ownsRow w.heap.size 5 1 v (k + 1) ((1 :: (be (up n) 8).take k).map bv) ∧ Below w.heap.size w wr) (fun _ i _ => 8 - (intOf i).toNat)
  case atStart => exact ⟨0, by omega, rfl, HL.out, hb2⟩
  case round =>
    clear x0 y0 y1 hb hb2
    obtain ⟨k, hk, rfl, ho, hbw⟩ := hrel
    by_cases hlt : k < 8
    · have ht := be_take (up n) k hlt
      have hlt' : (k : Int) < 8 := by omega
      by_cases hz : k = 0
      · subst hz
        have hB := byte_top f1 f2
        rw [show (2 : Int) ^ 56 = 72057594037927936 by decide] at hB
        have hBB := Lib.hid hB
        have OO := Lib.hid ho
        have BB := Lib.hid hbw
        have TT := Lib.hid ht
        clear hB ho hbw ht
        go_wp2_with (refine app1 (news := [_]) OO.out BB.out BB.out.size 112 Try.underlying112 info_u8 rfl (by decide) (by decide) (by omega) rfl (by simp [Value.oneCell']) rfl rfl rfl rfl ?_; intro v' w3 ho3 hb3 _)
        exact ⟨⟨_, by omega, by go_num, cast_own ho3 (by rw [TT.out, ← List.cons_append, List.map_append, wrap_u64]; simp only [List.map_cons, List.map_nil, bv]; rw [← hBB.out]), hb3⟩, by simp [intOf]⟩
      · have hz' : ((k : Int) == 0) = false := by simp; omega
        have hB := byte_up f1 f2 k hlt hz
        have e1 : (56 - 8 * (k : Int)).toNat = 56 - 8 * k := by omega
        have hBB := Lib.hid hB
        have OO := Lib.hid ho
        have BB := Lib.hid hbw
        have TT := Lib.hid ht
        clear hB ho hbw ht
        go_wp2_with (refine app1 (news := [_]) OO.out BB.out BB.out.size 112 Try.underlying112 info_u8 rfl (by decide) (by decide) (by omega) rfl (by simp [Value.oneCell']) rfl rfl rfl rfl ?_; intro v' w3 ho3 hb3 _)
        exact ⟨⟨_, by omega, by go_num, cast_own ho3 (by rw [TT.out, ← List.cons_append, List.map_append, wrap_u64]; simp only [List.map_cons, List.map_nil, bv]; rw [← hBB.out]), hb3⟩, by simp [intOf]; omega⟩
    · obtain rfl : k = 8 := by omega
      rw [List.take_of_length_le (Nat.le_of_eq (be_length _ _))] at ho
      have hcv := run_string_own ho Try.underlying112 Try.underlying5 Try.underlying9
      go_wp2_with fail
      go_ret
      exact ⟨rfl, hbw⟩
end Go.Proofs.Ytcfjooeagfollaa.Sign
