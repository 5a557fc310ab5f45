/- node.Fits, node.Bytes. -/
import Derived.Test.YtebmalmciakhcaaNodeGoodG
import Derived.Test.YtebmalmciakhcaaShelf
import Derived.StillTailTactics
namespace Go.Proofs.Ytebmalmciakhcaa.Node
open Go.RowKit Go.Proofs.Ytebmalmciakhcaa.Mem Go.Proofs.Ytebmalmciakhcaa.Bytes Go.Proofs.Ytebmalmciakhcaa.Ord
set_option linter.unusedSimpArgs false
set_option linter.unusedVariables false

theorem inb_iff {n top : Int} : inb n top = true ↔ 0 ≤ n ∧ n ≤ top := by simp [inb]
theorem good_nums {n : Nd} (h : n.good = true) : (0 ≤ n.tree ∧ n.tree ≤ 255) ∧ (0 ≤ n.level ∧ n.level ≤ 12) ∧ (0 ≤ n.stamp ∧ n.stamp ≤ 2147483647) ∧ (0 ≤ n.right ∧ n.right ≤ 255) ∧ n.list.length ≤ 100 ∧ highGood n = true ∧ ∀ e ∈ n.list, entGood e n.level = true := by
  obtain ⟨h1, h2, h3⟩ := (good_iff n).1 h
  simp only [headGood, Bool.and_eq_true, decide_eq_true_eq] at h1
  obtain ⟨⟨⟨⟨a, b⟩, c⟩, d⟩, e⟩ := h1
  refine ⟨inb_iff.1 a, inb_iff.1 b, inb_iff.1 c, inb_iff.1 d, e, h2, fun x hx => ?_⟩
  obtain ⟨i, hi, rfl⟩ := List.getElem_of_mem hx
  have := h3 i hi
  unfold entOk at this
  rw [Bool.and_eq_true] at this
  rw [List.getD_eq_getElem?_getD, List.getElem?_eq_getElem hi] at this
  exact this.1
theorem ent_nums {e : Ent} {l : Int} (h : entGood e l = true) : e.key.size = 9 ∧ e.val.size ≤ 100 := by
  simp [entGood] at h
  exact h.2

set_option maxHeartbeats 1000000 in
theorem fits_calls (n : Nd) (a : Option Addr) (cap : Nat) (w : World) (hE : Es w a n.list) (hl : n.list.length ≤ 9223372036854775807) :
    Calls Try.prog 14 #[.agg (n.cells (.slice a n.list.length cap)).toArray] w fun x w' => x = .returned (.bool n.fits) ∧ Below w.heap.size w w' := by
  have hX := Row.new w 24 (n.cells (.slice a n.list.length cap))
  have hb : Below w.heap.size w (w.alloc (.cells (n.cells (.slice a n.list.length cap)).toArray 24)) := (Below.refl _ _).alloc (Nat.le_refl _) _
  have hgc := good_calls n a cap _ (hE.keep hb) hl
  have hg0 : n.fits = (n.good && decide (n.size ≤ 252)) := rfl
  have G := Lib.hid hgc
  have X := Lib.hid hX
  have B := Lib.hid hb
  by_cases hg : n.good = true
  · have hn := good_nums hg
    have hs : ∀ w, Es w a n.list → Calls Try.prog 15 #[.agg (n.cells (.slice a n.list.length cap)).toArray] w fun x w' => x = .returned (.int .i64 (n.size : Int)) ∧ Below w.heap.size w w' := fun w hE => size_calls n a cap w hE (by have := hn.2.2.2.2.1; omega) (fun e he => by have := (ent_nums (hn.2.2.2.2.2.2 e he)).2; omega)
    rw [hg0, hg, Bool.true_and]
    rw [hg] at G
    have S := Lib.hid (fun w1 (h1 : Below w.heap.size w w1) => hs w1 (hE.keep h1))
    clear hs hn hg hg0 hgc hX hb
    go_enter Try.func14, Try.ntmps14
    go_wp2_with (refine load_row X.out 24 Try.underlying24 rfl (by kernel_rfl) rfl rfl rfl ?_)
    refine G.out.mono ?_
    rintro e w1 ⟨rfl, h1⟩
    have X1 := Lib.hid (X.out.below h1 X.out.lt)
    have B1 := Lib.hid (B.out.trans (h1.mono B.out.size))
    clear h1
    go_wp2_with (refine load_row_g X1.out 24 Try.underlying24 rfl (by kernel_rfl) (by rfl) rfl rfl ?_)
    refine (S.out _ B1.out).mono ?_
    rintro e w2 ⟨rfl, h2⟩
    have B2 := Lib.hid (B1.out.trans (h2.mono B1.out.size))
    clear h2
    go_wp2_with fail
    go_ret
    exact ⟨by first | rfl | (congr 2; exact decide_eq_decide.2 (by omega)) | (simp; omega), B2.out⟩
  · rw [Bool.not_eq_true] at hg
    rw [hg0, hg, Bool.false_and]
    rw [hg] at G
    clear hg hg0 hgc hX hb
    go_enter Try.func14, Try.ntmps14
    go_wp2_with (refine load_row X.out 24 Try.underlying24 rfl (by kernel_rfl) rfl rfl rfl ?_)
    refine G.out.mono ?_
    rintro e w1 ⟨rfl, h1⟩
    have B1 := Lib.hid (B.out.trans (h1.mono B.out.size))
    clear h1
    go_wp2_with fail
    go_ret
    exact ⟨rfl, B1.out⟩

def low9 : List UInt8 := List.replicate 9 0
def high9 (n : Nd) : List UInt8 := (n.high.data.toList ++ low9).take 9
def entBytes (e : Ent) : List UInt8 := e.key.data.toList ++ le (one e.ghost) 1 ++ le e.val.size 1 ++ e.val.data.toList
def headBytes (n : Nd) : List UInt8 := le n.tree.toNat 1 ++ le n.level.toNat 1 ++ le n.stamp.toNat 4 ++ le (one n.hasHigh) 1 ++ high9 n ++ le n.right.toNat 2 ++ le n.list.length 2
def Nd.body (n : Nd) : List UInt8 := headBytes n ++ n.list.flatMap entBytes
def Nd.page (n : Nd) : List UInt8 := n.body ++ List.replicate (252 - n.body.length) 0
def Nd.bytes (n : Nd) : List UInt8 := Crc.sealed n.page
theorem head_length (n : Nd) : (headBytes n).length = 20 := by
  have : (high9 n).length = 9 := by unfold high9 low9; rw [List.length_take, List.length_append, List.length_replicate]; omega
  simp [headBytes, le_length, this]
theorem flat_len : ∀ {l : List Ent}, (∀ e ∈ l, e.key.size = 9) → (l.flatMap entBytes).length = size0 l
  | [], _ => rfl
  | e :: l, h => by
    have h1 := h e (by simp)
    have hk : e.key.data.toList.length = 9 := h1
    have hv : e.val.data.toList.length = e.val.size := rfl
    rw [List.flatMap_cons, List.length_append, flat_len (fun x hx => h x (by simp [hx])), size0]
    unfold entBytes
    rw [List.length_append, List.length_append, List.length_append, hk, hv, le_length, le_length]
theorem body_length {n : Nd} (h : n.good = true) : n.body.length = n.size := by
  have hn := (good_nums h).2.2.2.2.2.2
  unfold Nd.body Nd.size
  rw [List.length_append, head_length, flat_len (fun e he => (ent_nums (hn e he)).1)]
theorem repeat_zero (c : Nat) : Lib.repeatL [0] c = List.replicate c (0 : UInt8) := by
  induction c with
  | zero => rfl
  | succ c ih =>
    show [0] ++ Lib.repeatL [0] c = _
    rw [ih]
    rfl
theorem rep_calls (c : Int) (w : World) (h0 : 0 ≤ c) (h1 : c ≤ 1000) : Calls Try.prog 30 #[.string ⟨#[0]⟩, .int .i64 c] w fun e w' => e = .returned (.string (bs (List.replicate c.toNat 0))) ∧ Below w.heap.size w w' := by
  obtain ⟨k, rfl⟩ := Int.eq_ofNat_of_zero_le h0
  have h := Try.strings_Repeat ⟨#[0]⟩ k w (by omega) (by show 1 * k ≤ _; omega)
  rw [Int.toNat_natCast, ← repeat_zero]
  exact h
theorem len_calls (F : Nat → Prop) (T : TypeId) (b : Nat) (l : List UInt8) (w : World) (h : Bld.Is w F T b l) :
    Calls Try.prog 31 #[.pointer (some ⟨b, 0, none⟩)] w fun e w' => e = .returned (.int .i64 (l.length : Int)) ∧ w' = w := by
  obtain ⟨_, _, p, v, _, hr, ho, _⟩ := h
  obtain ⟨a, cap, rfl, _⟩ := Reel.own_shape ho
  have c1 := hr.cell (i := 1) rfl
  clear hr ho
  go_enter Try.func31, Try.ntmps31
  go_wp2_with fail
  go_ret
  exact ⟨rfl, rfl⟩
end Go.Proofs.Ytebmalmciakhcaa.Node
