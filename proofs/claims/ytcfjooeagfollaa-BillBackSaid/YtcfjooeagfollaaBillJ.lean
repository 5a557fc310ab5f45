/- What BillBack wants of scripts: plain laws. -/
import Derived.Test.YtcfjooeagfollaaBillI
namespace Go.Proofs.Ytcfjooeagfollaa.Bill
open Go.RowKit Go.Proofs.Ytcfjooeagfollaa.Mem Go.Proofs.Ytcfjooeagfollaa.Bytes Go.Proofs.Ytcfjooeagfollaa.Num Go.Proofs.Ytcfjooeagfollaa.Sign
set_option linter.unusedSimpArgs false
set_option linter.unusedVariables false
set_option maxRecDepth 20000

theorem strip_bytes (m : Mv) : m.strip.bytes = m.bytes := rfl
theorem strip_good (m : Mv) : m.strip.good = m.good := at_good m none 0
theorem strip_fits (m : Mv) : m.strip.fits ↔ m.fits := Iff.rfl
theorem strip_row (m : Mv) : m.strip.w.row = m.w.row := rfl
/-- A move that can be written has a short row. -/
theorem good_row {m : Mv} (h : m.good = true) : m.w.row.length ≤ 4 := by
  obtain ⟨hb, hs⟩ := (good_iff m).1 h
  obtain ⟨k, n, a, ⟨wk, wt, key, high, ra, rc, row, c, val, wn⟩, p, q⟩ := m
  unfold Mv.eqv Mv.told at hs
  unfold Mv.bad at hb
  simp only at hs hb ⊢
  by_cases c1 : k = 1
  · simp only [c1, if_true, Bool.or_eq_false_iff] at hs hb
    obtain ⟨_, _, _, hw, _, _⟩ := hs
    by_cases c4 : a = 4
    · simp only [c4, if_true] at hw hb
      unfold Wsh.eqv Wsh.told at hw
      unfold Wsh.bad at hb
      simp only at hw hb
      by_cases d1 : wk = 1
      · have h5 := hb.2.2
        simp only [d1, if_true, Bool.or_eq_false_iff, decide_eq_false_iff_not] at h5
        have := h5.2.1.1
        omega
      · simp only [d1, if_false] at hw
        have hr : row = [] := by
          have h5 := hw.2.2.2.2.1
          split at h5
          · exact h5.symm
          · split at h5
            · exact h5.symm
            · split at h5
              · exact h5.symm
              · split at h5 <;> exact h5.symm
        rw [hr]
        simp
    · simp only [c4, if_false] at hw
      have hr : row = [] := hw.2.2.2.2.1.symm
      rw [hr]
      simp
  · simp only [c1, if_false] at hs
    have hr : row = [] := by
      split at hs
      · exact hs.2.2.2.1.2.2.2.2.1.symm
      · split at hs <;> exact hs.2.2.2.1.2.2.2.2.1.symm
    rw [hr]
    simp
theorem flat_strip : ∀ (l : List Mv), (l.map Mv.strip).flatMap Mv.bytes = l.flatMap Mv.bytes
  | [] => rfl
  | m :: l => by rw [List.map_cons, List.flatMap_cons, List.flatMap_cons, flat_strip l, strip_bytes]
/-- Of what was read: each can be written, and its bytes are what it was read of. -/
theorem read_props {ls : List Mv} {n : Nat} {l : List UInt8} (h : ls.map Mv.strip = (rd n l).1) : ls.length ≤ n ∧ (∀ m ∈ ls, m.good = true ∧ m.fits ∧ m.w.row.length ≤ 4) ∧ l = ls.flatMap Mv.bytes ++ (rd n l).2 := by
  obtain ⟨a, b, c⟩ := rd_inv n l
  rw [← h] at b c a
  rw [flat_strip] at a
  refine ⟨by simpa using c, fun m hm => ?_, a⟩
  obtain ⟨g, f⟩ := b m.strip (List.mem_map_of_mem hm)
  rw [strip_good] at g
  exact ⟨g, (strip_fits m).1 f, good_row g⟩
theorem read_out {ls : List Mv} {l : List UInt8} (h : ls.map Mv.strip = (rd 400 l).1) : bytesOut ls = (l.take (l.length - (rd 400 l).2.length), 0) := by
  obtain ⟨a, b, c⟩ := read_props h
  unfold bytesOut
  rw [if_pos ⟨a, fun m hm => (b m hm).1⟩]
  congr 1
  have e : l.length - (rd 400 l).2.length = (ls.flatMap Mv.bytes).length := by
    have := congrArg List.length c
    rw [List.length_append] at this
    omega
  rw [e]
  generalize (rd 400 l).2 = r at c
  rw [c, List.take_left]
/-- Two scripts, one behind the other. -/
theorem two_scripts {a b : List Mv} (ha : ∀ m ∈ a, m.good = true ∧ m.fits) (hb : ∀ m ∈ b, m.good = true ∧ m.fits) (hn : a.length + b.length ≤ 400) : rd 400 (a.flatMap Mv.bytes ++ b.flatMap Mv.bytes) = ((a ++ b).map Mv.strip, []) := by
  have h := rd_app (a ++ b) 400 [] (fun m hm => by
    rcases List.mem_append.1 hm with hm | hm
    · exact ha m hm
    · exact hb m hm) (by rw [List.length_append]; exact hn)
  rw [rd_nil, List.flatMap_append, List.append_nil, List.append_nil] at h
  exact h
theorem out_ok {l : List Mv} (h : (bytesOut l).2 = 0) : l.length ≤ 400 ∧ (∀ m ∈ l, m.good = true) ∧ (bytesOut l).1 = l.flatMap Mv.bytes := by
  unfold bytesOut at h ⊢
  split
  · rename_i c
    exact ⟨c.1, c.2, rfl⟩
  · rename_i c
    rw [if_neg c] at h
    cases h
end Go.Proofs.Ytcfjooeagfollaa.Bill
