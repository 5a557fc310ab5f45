/- gaugerref01.Code of a text. -/
import Derived.Test.YtcfjooeagfollaaSignRefC
namespace Go.Proofs.Ytcfjooeagfollaa.Sign
open Go.RowKit Go.Proofs.Ytcfjooeagfollaa.Mem Go.Proofs.Ytcfjooeagfollaa.Bytes Go.Proofs.Ytcfjooeagfollaa.Num
set_option linter.unusedSimpArgs false
set_option linter.unusedVariables false
set_option maxRecDepth 20000

theorem pad_get (s : ByteArray) (k : Nat) (h7 : s.size ≤ 7) (h : k < 7) : (s.data.toList ++ List.replicate (7 - s.size) 0)[k]? = some (if h : k < s.size then s[k] else 0) := by
  have l : s.data.toList.length = s.size := rfl
  by_cases hk : k < s.size
  · rw [dif_pos hk, List.getElem?_append_left (by omega), List.getElem?_eq_getElem (by omega)]
    rfl
  · rw [dif_neg hk, List.getElem?_append_right (by omega), List.getElem?_replicate, if_pos (by omega)]
set_option maxHeartbeats 1000000 in
theorem refcode2 (s : ByteArray) (w : World) (h7 : s.size ≤ 7) :
    Calls Try.prog 173 #[.agg #[.int .i64 2, .int .i64 0, .string s]] w fun e w' => e = .returned (.string (bs (V.code ⟨2, 0, s⟩))) ∧ Below w.heap.size w w' := by
  obtain ⟨L, hL⟩ : ∃ L, V.code ⟨2, 0, s⟩ = L := ⟨_, rfl⟩
  rw [hL]
  have LL := Lib.hid hL
  clear hL
  have hX : Row (w.alloc (.cells #[.int .i64 2, .int .i64 0, .string s] 81)) w.heap.size 81 [.int .i64 2, .int .i64 0, .string s] := new_at rfl
  have hb : Below w.heap.size w (w.alloc (.cells #[.int .i64 2, .int .i64 0, .string s] 81)) := (Below.refl _ _).alloc (Nat.le_refl _) _
  have hY := hX.alloc (.cells #[.int .u8 2] 5)
  have hs1 : (w.alloc (.cells #[.int .i64 2, .int .i64 0, .string s] 81)).heap.size = w.heap.size + 1 := by simp
  have hb2 : Below (w.heap.size + 1) (w.alloc (.cells #[.int .i64 2, .int .i64 0, .string s] 81)) ((w.alloc (.cells #[.int .i64 2, .int .i64 0, .string s] 81)).alloc (.cells #[.int .u8 2] 5)) := (Below.refl _ _).alloc (by omega) _
  have x0 := hX.cell (i := 0) rfl
  have y0 := hY.cell (i := 0) rfl
  try simp only at x0 y0
  have hl := World.ownsRow_lit (e := 5) (size := 1) (base := w.heap.size + 1) (w.alloc (.cells #[.int .i64 2, .int .i64 0, .string s] 81)) #[.int .u8 2] 1 (by omega) (by unfold maxLen; omega) rfl
  rw [hs1] at hl
  have HL := Lib.hid hl
  have X := Lib.hid hX
  have S1 := Lib.hid hs1
  clear hX hY hl hs1
  go_enter Try.func173, Try.ntmps173
  go_wp2_with fail
  go_loopw [3, 7] (fun v i wr => ∃ k : Nat, k ≤ 7 ∧ i = .int .i64 k ∧ wr.ownsRow (w.heap.size + 1) 5 1 v (k + 1) ((2 :: (s.data.toList ++ List.replicate (7 - s.size) 0).take k).map bv) ∧ Below (w.heap.size + 1) (w.alloc (.cells #[.int .i64 2, .int .i64 0, .string s] 81)) wr) (fun _ i _ => 7 - (intOf i).toNat)
  case atStart => exact ⟨0, by omega, rfl, HL.out, hb2⟩
  case round =>
    clear x0 y0 hb2
    obtain ⟨k, hk, rfl, ho, hbw⟩ := hrel
    have Xr := Lib.hid (X.out.below hbw (by omega))
    have x2 := Xr.out.cell (i := 2) rfl
    try simp only at x2
    have OO := Lib.hid ho
    have BB := Lib.hid hbw
    clear ho hbw
    by_cases hlt : k < 7
    · have hg := pad_get s k h7 hlt
      have hlt' : (k : Int) < 7 := by omega
      by_cases hks : k < s.size
      · rw [dif_pos hks] at hg
        have hks' : (k : Int) < s.size := by omega
        have GG := Lib.hid hg
        clear hg
        go_wp2_with (refine app1 (news := [_]) OO.out BB.out (by have := BB.out.size; have := S1.out; omega) 112 Try.underlying112 info_u8 rfl (by decide) (by decide) (by omega) rfl (by simp [Value.oneCell']) rfl rfl rfl rfl ?_; intro v' w3 ho3 hb3 _)
        exact ⟨⟨_, by omega, by go_num, cast_own ho3 (by rw [List.take_add_one, GG.out]; simp [bv]), hb3⟩, by simp [intOf]; omega⟩
      · rw [dif_neg hks] at hg
        have hks' : ¬ (k : Int) < s.size := by omega
        have GG := Lib.hid hg
        clear hg
        go_wp2_with (refine app1 (news := [_]) OO.out BB.out (by have := BB.out.size; have := S1.out; omega) 112 Try.underlying112 info_u8 rfl (by decide) (by decide) (by omega) rfl (by simp [Value.oneCell']) rfl rfl rfl rfl ?_; intro v' w3 ho3 hb3 _)
        exact ⟨⟨_, by omega, by go_num, cast_own ho3 (by rw [List.take_add_one, GG.out]; simp [bv]), hb3⟩, by simp [intOf]; omega⟩
    · have hk7 : k = 7 := by omega
      have lp : (s.data.toList ++ List.replicate (7 - s.size) (0 : UInt8)).length = 7 := by
        have l : s.data.toList.length = s.size := rfl
        rw [List.length_append, List.length_replicate]; omega
      have hw8 : (s.size : Int) % 256 = s.size := by omega
      have he : (2 :: (s.data.toList ++ List.replicate (7 - s.size) (0 : UInt8)).take k).map bv ++ [Value.int .u8 (s.size : Int)] = L.map bv := by
        rw [List.take_of_length_le (by omega)]
        have e2 : V.code ⟨2, 0, s⟩ = 2 :: (s.data.toList ++ List.replicate (7 - s.size) 0 ++ [UInt8.ofNat s.size]) := rfl
        rw [← LL.out, e2]
        simp [bv]
        omega
      obtain ⟨M, hM⟩ : ∃ M, (2 :: (s.data.toList ++ List.replicate (7 - s.size) (0 : UInt8)).take k).map bv = M := ⟨_, rfl⟩
      have ho := OO.out
      rw [hM] at ho he
      have O2 := Lib.hid ho
      have HE := Lib.hid he
      have HU := Lib.hid hw8
      have hnk : ¬ (k : Int) < 7 := by omega
      clear he hM ho OO lp hw8
      go_wp2_with (refine app1 (news := [Value.int .u8 (s.size : Int)]) O2.out BB.out (by have := BB.out.size; have := S1.out; omega) 112 Try.underlying112 info_u8 rfl (by decide) (by decide) (by omega) rfl (by simp [Value.oneCell']) rfl rfl rfl rfl ?_; intro v1 w3 ho3 hb3 _; have hcv := run_string_own (cast_own ho3 HE.out) Try.underlying112 Try.underlying5 Try.underlying9; clear BB O2 HE X)
      go_ret
      exact ⟨rfl, hb.trans (hb3.mono (by omega))⟩
end Go.Proofs.Ytcfjooeagfollaa.Sign
