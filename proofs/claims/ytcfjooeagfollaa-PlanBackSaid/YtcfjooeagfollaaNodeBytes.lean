/- node.Fits, node.Bytes. -/
import Derived.Test.YtcfjooeagfollaaNodeGoodG
import Derived.Test.YtcfjooeagfollaaShelf
import Derived.StillTailTactics
namespace Go.Proofs.Ytcfjooeagfollaa.Node
open Go.RowKit Go.Proofs.Ytcfjooeagfollaa.Mem Go.Proofs.Ytcfjooeagfollaa.Bytes Go.Proofs.Ytcfjooeagfollaa.Ord
set_option linter.unusedSimpArgs false
set_option linter.unusedVariables false
set_option maxRecDepth 20000

theorem inb_iff {n top : Int} : inb n top = true ↔ 0 ≤ n ∧ n ≤ top := by simp [inb]
theorem good_nums {n : Nd} (h : n.good = true) : (0 ≤ n.tree ∧ n.tree ≤ 255) ∧ (0 ≤ n.level ∧ n.level ≤ 12) ∧ (0 ≤ n.stamp ∧ n.stamp ≤ 2147483647) ∧ (0 ≤ n.right ∧ n.right ≤ 255) ∧ n.list.length ≤ 100 ∧ highGood n = true ∧ ∀ e ∈ n.list, entGood e n.level = true := by
  obtain ⟨h1, h2, h3⟩ := (good_iff n).1 h
  simp only [headGood, Bool.and_eq_true, decide_eq_true_eq] at h1
  obtain ⟨⟨⟨⟨a, b⟩, c⟩, d⟩, e⟩ := h1
  refine ⟨inb_iff.1 a, inb_iff.1 b, inb_iff.1 c, inb_iff.1 d, e, h2, fun x hx => ?_⟩
  obtain ⟨i, hi, rfl⟩ := List.getElem_of_mem hx
  have := h3 i hi
  unfold entOk at this
  rw [Bool.and_eq_true] at this
  rw [List.getD_eq_getElem?_getD, List.getElem?_eq_getElem hi] at this
  exact this.1
theorem ent_nums {e : Ent} {l : Int} (h : entGood e l = true) : e.key.size = 9 ∧ e.val.size ≤ 100 := by
  simp [entGood] at h
  exact h.2

set_option maxHeartbeats 1000000 in
theorem fits_calls (n : Nd) (a : Option Addr) (cap : Nat) (w : World) (hE : Es w a n.list) (hl : n.list.length ≤ 9223372036854775807) :
    Calls Try.prog 41 #[.agg (n.cells (.slice a n.list.length cap)).toArray] w fun x w' => x = .returned (.bool n.fits) ∧ Below w.heap.size w w' := by
  have hX := Row.new w 85 (n.cells (.slice a n.list.length cap))
  have hb : Below w.heap.size w (w.alloc (.cells (n.cells (.slice a n.list.length cap)).toArray 85)) := (Below.refl _ _).alloc (Nat.le_refl _) _
  have hgc := good_calls n a cap _ (hE.keep hb) hl
  have hg0 : n.fits = (n.good && decide (n.size ≤ 252)) := rfl
  have G := Lib.hid hgc
  have X := Lib.hid hX
  have B := Lib.hid hb
  by_cases hg : n.good = true
  · have hn := good_nums hg
    have hs : ∀ w, Es w a n.list → Calls Try.prog 101 #[.agg (n.cells (.slice a n.list.length cap)).toArray] w fun x w' => x = .returned (.int .i64 (n.size : Int)) ∧ Below w.heap.size w w' := fun w hE => size_calls n a cap w hE (by have := hn.2.2.2.2.1; omega) (fun e he => by have := (ent_nums (hn.2.2.2.2.2.2 e he)).2; omega)
    rw [hg0, hg, Bool.true_and]
    rw [hg] at G
    have S := Lib.hid (fun w1 (h1 : Below w.heap.size w w1) => hs w1 (hE.keep h1))
    clear hs hn hg hg0 hgc hX hb
    go_enter Try.func41, Try.ntmps41
    go_wp2_with (refine load_row X.out 85 Try.underlying85 rfl (by kernel_rfl) rfl rfl rfl ?_)
    refine G.out.mono ?_
    rintro e w1 ⟨rfl, h1⟩
    have X1 := Lib.hid (X.out.below h1 X.out.lt)
    have B1 := Lib.hid (B.out.trans (h1.mono B.out.size))
    clear h1
    go_wp2_with (refine load_row_g X1.out 85 Try.underlying85 rfl (by kernel_rfl) (by rfl) rfl rfl ?_)
    refine (S.out _ B1.out).mono ?_
    rintro e w2 ⟨rfl, h2⟩
    have B2 := Lib.hid (B1.out.trans (h2.mono B1.out.size))
    clear h2
    go_wp2_with fail
    go_ret
    exact ⟨by first | rfl | (congr 2; exact decide_eq_decide.2 (by omega)) | (simp; omega), B2.out⟩
  · rw [Bool.not_eq_true] at hg
    rw [hg0, hg, Bool.false_and]
    rw [hg] at G
    clear hg hg0 hgc hX hb
    go_enter Try.func41, Try.ntmps41
    go_wp2_with (refine load_row X.out 85 Try.underlying85 rfl (by kernel_rfl) rfl rfl rfl ?_)
    refine G.out.mono ?_
    rintro e w1 ⟨rfl, h1⟩
    have B1 := Lib.hid (B.out.trans (h1.mono B.out.size))
    clear h1
    go_wp2_with fail
    go_ret
    exact ⟨rfl, B1.out⟩

end Go.Proofs.Ytcfjooeagfollaa.Node
