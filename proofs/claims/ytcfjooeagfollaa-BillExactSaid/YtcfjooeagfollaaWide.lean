/- Numbers of 128 bits: plain laws; contracts of wide. -/
import Derived.Test.YtcfjooeagfollaaNum
import Derived.Test.YtcfjooeagfollaaAgg
import Derived.Test.YtcfjooeagfollaaApp
import Derived.Test.YtcfjooeagfollaaProg
import Derived.LoopTactic
import Derived.Lib.Hide
import Derived.Laws.Externs
import Derived.WalkKit
import Derived.KernelRfl
import Derived.Outline
import Derived.Deep.RegionWith
import Derived.Deep.QuietTactic
import Derived.BigQuiet
namespace Go.Proofs.Ytcfjooeagfollaa.Wide
open Go.RowKit Go.Proofs.Ytcfjooeagfollaa.Mem Go.Proofs.Ytcfjooeagfollaa.Bytes Go.Proofs.Ytcfjooeagfollaa.Num
set_option linter.unusedSimpArgs false
set_option linter.unusedVariables false
set_option maxRecDepth 20000

structure Wd where
  hi : Int
  lo : Int
def Wd.fits (a : Wd) : Prop := -9223372036854775808 ≤ a.hi ∧ a.hi ≤ 9223372036854775807 ∧ 0 ≤ a.lo ∧ a.lo ≤ 18446744073709551615
def Wd.cells (a : Wd) : List Value := [.int .i64 a.hi, .int .u64 a.lo]
abbrev Wd.val (a : Wd) : Value := .agg a.cells.toArray
def noW : Wd := ⟨0, 0⟩
def Wd.add (a b : Wd) : Wd := ⟨wrap64 (a.hi + b.hi + (a.lo + b.lo) / 18446744073709551616), (a.lo + b.lo) % 18446744073709551616⟩
/-- Its highest 64 bits, as a number without a sign. -/
def Wd.top (a : Wd) : Nat := (a.hi % 18446744073709551616).toNat
def Wd.code (a : Wd) : List UInt8 := be a.top 8 ++ be a.lo.toNat 8
def unW (l : List UInt8) : Wd := ⟨wrap64 (bev (l.take 8) : Int), (bev (l.drop 8) : Int)⟩

theorem noW_fits : noW.fits := by unfold Wd.fits noW; simp
theorem Wd.add_fits {a b : Wd} (ha : a.fits) (hb : b.fits) : (a.add b).fits := by
  obtain ⟨a1, a2, a3, a4⟩ := ha
  obtain ⟨b1, b2, b3, b4⟩ := hb
  unfold Wd.fits Wd.add wrap64
  simp only
  omega
theorem Wd.add_comm (a b : Wd) : a.add b = b.add a := by
  unfold Wd.add
  rw [Int.add_comm a.lo, Int.add_comm a.hi]
theorem Wd.add_assoc (a b c : Wd) : (a.add b).add c = a.add (b.add c) := by
  unfold Wd.add wrap64
  simp only [Wd.mk.injEq]
  constructor <;> omega
theorem Wd.add_no {a : Wd} (h : a.fits) : a.add noW = a := by
  obtain ⟨hi, lo⟩ := a
  obtain ⟨a1, a2, a3, a4⟩ := h
  unfold Wd.add noW wrap64
  simp only [Wd.mk.injEq] at a1 a2 a3 a4 ⊢
  constructor <;> omega
theorem Wd.code_length (a : Wd) : a.code.length = 16 := by rw [Wd.code, List.length_append, be_length, be_length]
theorem Wd.top_lt (a : Wd) : a.top < 256 ^ 8 := by unfold Wd.top; omega
theorem unW_code {a : Wd} (h : a.fits) : unW a.code = a := by
  obtain ⟨a1, a2, a3, a4⟩ := h
  unfold unW Wd.code
  rw [List.take_append_of_le_length (by rw [be_length]; omega), List.take_of_length_le (by rw [be_length]; omega), List.drop_append_of_le_length (by rw [be_length]; omega), List.drop_of_length_le (by rw [be_length]; omega), List.nil_append, bev_be a.top_lt, bev_be (by omega)]
  obtain ⟨hi, lo⟩ := a
  simp only [Wd.mk.injEq] at a1 a2 a3 a4 ⊢
  unfold Wd.top wrap64
  simp only
  omega
theorem code_unW {l : List UInt8} (h : l.length = 16) : (unW l).code = l ∧ (unW l).fits := by
  have l1 := bev_lt (l.take 8)
  have l2 := bev_lt (l.drop 8)
  have e1 := be_bev (l.take 8)
  have e2 := be_bev (l.drop 8)
  have n1 : (l.take 8).length = 8 := by rw [List.length_take]; omega
  have n2 : (l.drop 8).length = 8 := by rw [List.length_drop]; omega
  rw [n1] at l1 e1
  rw [n2] at l2 e2
  constructor
  · have t : (unW l).top = bev (l.take 8) := by unfold Wd.top unW wrap64; simp only; omega
    have t2 : (unW l).lo.toNat = bev (l.drop 8) := by unfold unW; simp only; omega
    rw [Wd.code, t, t2, e1, e2, List.take_append_drop]
  · unfold Wd.fits unW wrap64
    simp only
    omega
theorem code_inj {a b : Wd} (ha : a.fits) (hb : b.fits) (h : a.code = b.code) : a = b := by rw [← unW_code ha, ← unW_code hb, h]

theorem new_at {w : World} {b : Nat} {e : TypeId} {cs : List Value} (h : b = w.heap.size) : Row (w.alloc (.cells cs.toArray e)) b e cs := h ▸ Row.new w e cs

set_option maxHeartbeats 1000000 in
theorem put_calls (u : Nat) (w : World) (hx : u < 18446744073709551616) : Calls Try.prog 126 #[.int .u64 (u : Int)] w fun e w' => e = .returned (.string (bs (be u 8))) ∧ Below w.heap.size w w' := by
  have hmk : ∀ w, (Instr.makeSlice 112 (.int .i64 8) (.int .i64 8)).run Try.prog w = .ok (.slice (some ⟨w.heap.size, 0, none⟩) 8 8) (w.alloc (.cells #[.int .u8 0, .int .u8 0, .int .u8 0, .int .u8 0, .int .u8 0, .int .u8 0, .int .u8 0, .int .u8 0] 5)) := fun _ => by kernel_rfl
  go_enter Try.func126, Try.ntmps126
  go_wp2_with fail
  go_loopw [8] (fun i wr => ∃ k : Nat, k ≤ 8 ∧ i = .int .i64 k ∧ Row wr w.heap.size 5 (List.replicate (8 - k) (.int .u8 0) ++ ((le u k).reverse).map bv) ∧ Below w.heap.size w wr) (fun i _ => 8 - (intOf i).toNat)
  case atStart => exact ⟨0, by omega, rfl, Row.new' _ _ _, (Below.refl _ _).alloc (Nat.le_refl _) _⟩
  case round =>
    obtain ⟨k, hk, rfl, hr, hb⟩ := hrel
    by_cases hlt : k < 8
    · clear hmk
      have hc : wr.cell? ⟨w.heap.size, 7 - k, none⟩ = some (.int .u8 0) := by
        refine hr.cell ?_
        rw [List.getElem?_append_left (by rw [List.length_replicate]; omega), List.getElem?_replicate, if_pos (by omega)]
      have hf := hr.frozen (7 - k) (by simp [le_length]; omega)
      have i1 : (0 : Int) ≤ 7 - (k : Int) := by omega
      have i2 : (7 : Int) - (k : Int) < 8 := by omega
      have i3 : (7 - (k : Int)).toNat = 7 - k := by omega
      have hby : ((u : Int) / 2 ^ (8 * k) % 256) = ((UInt8.ofNat (u / 256 ^ k)).toNat : Int) := by
        have e : (256 : Nat) ^ k = 2 ^ (8 * k) := by rw [show (256 : Nat) = 2 ^ 8 from rfl, ← Nat.pow_mul]
        rw [e]
        simp
      have hset := hr.set (7 - k) (bv (UInt8.ofNat (u / 256 ^ k)))
      have e2 : (List.replicate (8 - k) (Value.int .u8 0) ++ ((le u k).reverse).map bv).set (7 - k) (bv (UInt8.ofNat (u / 256 ^ k))) = List.replicate (8 - (k + 1)) (.int .u8 0) ++ ((le u (k + 1)).reverse).map bv := by
        have e3 : List.replicate (8 - k) (Value.int .u8 0) = List.replicate (7 - k) (.int .u8 0) ++ [.int .u8 0] := by
          rw [show 8 - k = (7 - k) + 1 by omega, List.replicate_succ']
        rw [e3, List.append_assoc, List.set_append_right _ _ (by simp), List.length_replicate, Nat.sub_self, show 8 - (k + 1) = 7 - k by omega, le, List.reverse_append]
        simp
      rw [e2] at hset
      have hbs := hb.setCell (Nat.le_refl _) (p := ⟨w.heap.size, 7 - k, none⟩) (bv (UInt8.ofNat (u / 256 ^ k)))
      have HS := Lib.hid hset
      have HBS := Lib.hid hbs
      have HBY := Lib.hid hby
      clear hset hbs e2 hby
      go_wp2_with fail
      rw [HBY.out]
      exact ⟨⟨k + 1, by omega, by go_num, HS.out, HBS.out⟩, by simp [intOf]; omega⟩
    · obtain rfl : k = 8 := by omega
      have hcv := run_string_row (P := Try.prog) (l := be u 8) (r := []) (w := wr) (b := w.heap.size) (e' := 5) (by rw [List.append_nil]; exact hr) Try.underlying112 Try.underlying5 Try.underlying9 8
      rw [be_length] at hcv
      go_wp2_with fail
      go_ret
      exact ⟨rfl, hb⟩

theorem or_byte (u : Nat) (b : UInt8) (h : u < 72057594037927936) : Go.bits .or .u64 (IntKind.u64.wrap ((u : Int) * 256)) (b.toNat : Int) = ((u * 256 + b.toNat : Nat) : Int) := by
  have hb := b.toNat_lt
  have hw : IntKind.u64.wrap ((u : Int) * 256) = ((u * 256 : Nat) : Int) := by rw [wrap_u64]; omega
  rw [hw]
  have hk : ∀ n : Int, 0 ≤ n → n < 2 ^ 64 → IntKind.u64.wrap n = n := fun n h0 h1 => by
    rw [wrap_u64]
    omega
  have h2 := (bits_nat .u64 64 (by decide) hk (u * 256) b.toNat (by omega) (by omega)).2
  rw [h2]
  congr 1
  have := Nat.two_pow_add_eq_or_of_lt (i := 8) (b := b.toNat) (by omega) u
  rw [Nat.mul_comm u 256]
  exact this.symm

set_option maxHeartbeats 1000000 in
theorem get_calls (l : List UInt8) (w : World) (h8 : l.length = 8) : Calls Try.prog 132 #[.string (bs l)] w fun e w' => e = .returned (.int .u64 (bev l : Int)) ∧ Below w.heap.size w w' := by
  have hb8 : (bs l).size = 8 := h8
  obtain ⟨cc, w3, hrun, hcc, hrow, hbw, hsz⟩ := run_bytes (P := Try.prog) w 9 112 5 (bs l) Try.underlying9 Try.underlying112 Try.underlying5
  rw [hb8] at hrun
  rw [bs_data] at hrow
  have ROW := Lib.hid hrow
  have BW := Lib.hid hbw
  have HL8 := Lib.hid h8
  clear hrow hbw hcc hsz hb8 h8
  go_enter Try.func132, Try.ntmps132
  go_wp2_with fail
  go_loop [3, 9] (fun u i => ∃ j : Nat, j ≤ 8 ∧ i = .int .i64 j ∧ u = .int .u64 (bev (l.take j) : Int)) (fun u i => 8 - (intOf i).toNat)
  case atStart => exact ⟨0, by omega, rfl, rfl⟩
  case round =>
    obtain ⟨j, hj, rfl, rfl⟩ := hrel
    by_cases hlt : j < 8
    · have hjl : j < l.length := by rw [HL8.out]; exact hlt
      have hcell := ROW.out.cell (i := j) (v := .int .u8 (l[j].toNat : Int)) (by rw [List.getElem?_append_left (by rw [List.length_map]; exact hjl)]; simp [hjl, bv])
      have hb0 := l[j].toNat_lt
      have hblt := bev_lt (l.take j)
      rw [List.length_take_of_le (by omega)] at hblt
      have hp : (256 : Nat) ^ j ≤ 256 ^ 7 := Nat.pow_le_pow_right (by omega) (by omega)
      have hor := or_byte (bev (l.take j)) l[j] (Nat.lt_of_lt_of_le hblt hp)
      rw [← bev_snoc, ← List.take_succ_eq_append_getElem hjl] at hor
      have HOR := Lib.hid hor
      clear hor hblt hp
      go_wp2_with fail
      exact ⟨⟨j + 1, by omega, by go_num, by rw [HOR.out]⟩, by simp [intOf]; omega⟩
    · obtain rfl : j = 8 := by omega
      rw [List.take_of_length_le (Nat.le_of_eq HL8.out)]
      go_wp2_with fail
      go_ret
      exact ⟨rfl, BW.out⟩
end Go.Proofs.Ytcfjooeagfollaa.Wide
