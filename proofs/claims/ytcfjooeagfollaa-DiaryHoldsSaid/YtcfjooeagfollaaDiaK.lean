/- The law DiaryHolds: a log's room, step by step. -/
import Derived.Test.YtcfjooeagfollaaDiaW
import Derived.Test.YtcfjooeagfollaaDiaN
import Derived.LoopTactic
namespace Go.Proofs.Ytcfjooeagfollaa.Dia
open Go.RowKit Go.Proofs.Ytcfjooeagfollaa.Mem Go.Proofs.Ytcfjooeagfollaa.Bytes Go.Proofs.Ytcfjooeagfollaa.Mains Go.Proofs.Ytcfjooeagfollaa.Reel Go.Proofs.Ytcfjooeagfollaa.Note
set_option linter.unusedSimpArgs false
set_option linter.unusedVariables false
set_option maxRecDepth 20000

/-- A log with power, all of it made since w1; N: at least its records, left: its room. -/
structure St (w1 : World) (B b L mb N : Nat) (sz : Nat) (held left : Int) (wr : World) : Prop where
  all : ∃ d r n g last, Dia wr d B b L mb M.fresh r n g last held ∧ (∀ k, d = some k → w1.heap.size ≤ k) ∧ n ≤ N ∧ (∀ k, (r.data.length : Int) < k → g k = none) ∧ r.size = sz ∧ ((r.size - r.data.length : Nat) : Int) - held = left
  below : Below w1.heap.size w1 wr
  high : w1.heap.size ≤ B ∧ w1.heap.size ≤ b ∧ w1.heap.size ≤ L ∧ w1.heap.size ≤ mb
section
variable {w1 wr : World} {B b L mb N sz : Nat} {held left : Int}
theorem St.next (h : St w1 B b L mb N sz held left wr) {w' : World} (hb : Below wr.heap.size wr w') : St w1 B b L mb N sz held left w' := by
  obtain ⟨d, r, n, g, last, h1, h2⟩ := h.all
  exact ⟨⟨d, r, n, g, last, h1.below hb, h2⟩, h.below.trans (hb.mono h.below.size), h.high⟩
theorem St.room (h : St w1 B b L mb N sz held left wr) : Calls Try.prog 61 #[.pointer (some ⟨L, 0, none⟩)] wr fun e w' => e = .returned (.int .i64 left) ∧ ∃ q, w' = wr.drewN q := by
  obtain ⟨d, r, n, g, last, h1, h2, h3, h4, h5, h6⟩ := h.all
  have := room_calls h1
  rwa [h6] at this
theorem St.add_full (h : St w1 B b L mb N sz held left wr) (k q : Int) (hg : (bare k q).good = true) (hl : left < 29) : Calls Try.prog 52 #[.pointer (some ⟨L, 0, none⟩), .agg (bareS k q).recCells.toArray] wr fun e w' => e = .returned (.tuple #[.int .i64 0, .int .i64 5]) ∧ St w1 B b L mb N sz held left w' := by
  obtain ⟨d, r, n, g, last, h1, h2, h3, h4, h5, h6⟩ := h.all
  refine (Dia.add_full h1 (bareS k q) (bareS_has _ _ _) hg (by show _ < (((bare k q).bytes.length : Nat) : Int); rw [h6, bare_len hg]; exact hl)).mono ?_
  rintro e w' ⟨rfl, hb⟩
  exact ⟨rfl, h.next hb⟩
theorem St.add (h : St w1 B b L mb N sz held left wr) (k q : Int) (hg : (bare k q).good = true) (hl : 29 ≤ left) (hN : N < 1000000) : Calls Try.prog 52 #[.pointer (some ⟨L, 0, none⟩), .agg (bareS k q).recCells.toArray] wr fun e w' => (∃ z, e = .returned (.tuple #[.int .i64 z, .int .i64 0])) ∧ St w1 B b L mb (N + 1) sz held (left - 29) w' := by
  obtain ⟨d, r, n, g, last, h1, h2, h3, h4, h5, h6⟩ := h.all
  have hh := h1.hl
  refine (add_calls h1 (bareS k q) (bareS_has _ _ _) (bareS_caps _ _) (bareS_off _ _ _) hg (by show (((bare k q).bytes.length : Nat) : Int) ≤ _; rw [h6, bare_len hg]; exact hl) rfl rfl (h4 _ (by omega)) (by omega)).mono ?_
  rintro e w' ⟨rfl, ⟨d', hD, hd⟩, hc⟩
  have hlen : (r.add (bs (bareS k q).r.bytes)).data.length = r.data.length + 29 := by
    show (r.data ++ (bare k q).bytes).length = _
    rw [List.length_append, bare_len hg]
  refine ⟨⟨_, rfl⟩, ⟨d', _, n + 1, _, _, hD, fun j e => ?_, by omega, fun j hj => ?_, h5, ?_⟩, h.below.trans (hc.below (B := w1.heap.size) h.below.size (fun i e => ?_)), h.high⟩
  · rcases hd j e with e | e
    · exact h2 j e
    · have := h.below.size; omega
  · rw [hlen] at hj
    rw [if_neg (by omega)]
    exact h4 j (by omega)
  · rw [hlen]
    show ((r.size - (r.data.length + 29) : Nat) : Int) - held = _
    omega
  · obtain ⟨a1, a2, a3, a4⟩ := h.high
    have := h.below.size
    rcases e with (e | e | e | e) | e | e
    · omega
    · omega
    · exact h2 i e
    · omega
    · omega
    · omega
theorem St.free (h : St w1 B b L mb N sz held left wr) : Calls Try.prog 60 #[.pointer (some ⟨L, 0, none⟩), .int .i64 held] wr fun e w' => e = .returned (.tuple #[]) ∧ St w1 B b L mb N sz 0 (left + held) w' := by
  obtain ⟨d, r, n, g, last, h1, h2, h3, h4, h5, h6⟩ := h.all
  have hh := h1.hl
  have hf : freeH held held = 0 := by
    unfold freeH
    split
    · rw [if_neg (by omega)]; omega
    · omega
  refine (free_calls h1 held).mono ?_
  rintro e w' ⟨rfl, hD, hc⟩
  rw [hf] at hD
  refine ⟨rfl, ⟨d, r, n, g, last, hD, h2, h3, h4, h5, by omega⟩, h.below.trans (hc.below (B := w1.heap.size) h.below.size (fun i e => ?_)), h.high⟩
  have e : i = L := e
  have := h.high
  omega
theorem St.hold (h : St w1 B b L mb N sz 0 left wr) (k : Int) (hk : 0 ≤ k) (hl : k ≤ left) : Calls Try.prog 59 #[.pointer (some ⟨L, 0, none⟩), .int .i64 k] wr fun e w' => e = .returned (.int .i64 0) ∧ St w1 B b L mb N sz k (left - k) w' := by
  obtain ⟨d, r, n, g, last, h1, h2, h3, h4, h5, h6⟩ := h.all
  have hE : holdE r 0 k = 0 := by unfold holdE; rw [if_neg (by omega), if_neg (by omega)]
  have hH : holdH r 0 k = k := by unfold holdH; rw [hE, if_pos rfl]; omega
  have := hold_calls h1 k
  rw [hE, hH] at this
  refine this.mono ?_
  rintro e w' ⟨rfl, hD, hc⟩
  refine ⟨rfl, ⟨d, r, n, g, last, hD, h2, h3, h4, h5, by omega⟩, h.below.trans (hc.below (B := w1.heap.size) h.below.size (fun i e => ?_)), h.high⟩
  have e : i = L := e
  have := h.high
  omega
theorem St.hold_full (h : St w1 B b L mb N sz 0 left wr) (k : Int) (hk : 0 ≤ k) (hl : left < k) : Calls Try.prog 59 #[.pointer (some ⟨L, 0, none⟩), .int .i64 k] wr fun e w' => e = .returned (.int .i64 5) ∧ St w1 B b L mb N sz 0 left w' := by
  obtain ⟨d, r, n, g, last, h1, h2, h3, h4, h5, h6⟩ := h.all
  have hE : holdE r 0 k = 5 := by unfold holdE; rw [if_neg (by omega), if_pos (by omega)]
  have hH : holdH r 0 k = 0 := by unfold holdH; rw [hE]; rfl
  have := hold_calls h1 k
  rw [hE, hH] at this
  refine this.mono ?_
  rintro e w' ⟨rfl, hD, hc⟩
  refine ⟨rfl, ⟨d, r, n, g, last, hD, h2, h3, h4, h5, by omega⟩, h.below.trans (hc.below (B := w1.heap.size) h.below.size (fun i e => ?_)), h.high⟩
  have e : i = L := e
  have := h.high
  omega
end
theorem St.alloc0 {w1 w : World} {B b : Nat} (sz : Nat) (hR : Reel.Is w (Tight none w) B b (R.fresh sz)) {e : Ending} {w' : World} (h : OpenPost w none B b M.fresh (R.fresh sz) [] e w') (hb : Below w1.heap.size w1 w) (hB : w1.heap.size ≤ B) (hbb : w1.heap.size ≤ b) :
    ∃ la lcap L mb, e = .returned (.tuple #[.pointer (some ⟨L, 0, none⟩), .slice la 0 lcap, .int .i64 0]) ∧ St w1 B b L mb 0 sz 0 sz w' := by
  obtain ⟨ls, la, lcap, L, mb, n, d', rfl, hE, hV, hst, hD, hc, hL, hmb, hn, ht⟩ := h
  obtain rfl : ls = [] := by
    have := congrArg List.length hst
    rw [List.length_map] at this
    exact List.eq_nil_of_length_eq_zero this
  obtain rfl : n = 0 := hn
  have hs := hb.size
  refine ⟨la, lcap, L, mb, rfl, ⟨d', R.fresh sz, 0, _, _, hD, fun k e => ?_, Nat.le_refl _, fun k _ => rfl, rfl, ?_⟩, hb.trans (hc.below (B := w1.heap.size) hs (fun i e => ?_)), hB, hbb, by omega, by omega⟩
  · rcases ht k e with h | h
    · cases h
    · omega
  · show ((sz - 0 : Nat) : Int) - 0 = sz
    omega
  · rcases e with e | e | e | e
    · omega
    · omega
    · cases e
    · omega
end Go.Proofs.Ytcfjooeagfollaa.Dia
