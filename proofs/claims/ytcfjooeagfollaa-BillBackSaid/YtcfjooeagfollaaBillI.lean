/- Moves that came in. -/
import Derived.Test.YtcfjooeagfollaaBillU
namespace Go.Proofs.Ytcfjooeagfollaa.Bill
open Go.RowKit Go.Proofs.Ytcfjooeagfollaa.Mem Go.Proofs.Ytcfjooeagfollaa.Bytes Go.Proofs.Ytcfjooeagfollaa.Num Go.Proofs.Ytcfjooeagfollaa.Sign
set_option linter.unusedSimpArgs false
set_option linter.unusedVariables false
set_option maxRecDepth 20000

abbrev wishC := Cod.pair (Cod.int .i64) (Cod.pair (Cod.int .i64) (Cod.pair valC (Cod.pair valC (Cod.pair (Cod.slice valC) (Cod.pair (Cod.int .i64) (Cod.pair valC (Cod.pair (Cod.int .i64) Cod.unit)))))))
abbrev moveC := Cod.pair (Cod.int .i64) (Cod.pair (Cod.int .i64) (Cod.pair (Cod.pair (Cod.int .i64) (Cod.pair wishC Cod.unit)) (Cod.pair (Cod.int .i64) (Cod.pair (Cod.int .i64) Cod.unit))))
theorem val_in {w : World} {cs : List Value} {y : Int × Int × ByteArray × Unit} (h : valC.R w cs y) : ∃ v : V, cs = [.int .i64 v.k, .int .i64 v.n, .string v.s] ∧ v.fits := by
  obtain ⟨c1, r1, rfl, ⟨rfl, _⟩, c2, r2, rfl, ⟨rfl, h2⟩, c3, r3, rfl, ⟨rfl, _⟩, hu⟩ := h
  obtain rfl : r3 = [] := hu
  refine ⟨⟨y.1, y.2.1, y.2.2.1⟩, rfl, ?_⟩
  simp [Lit.wf, IntKind.min, IntKind.max, IntKind.signed, IntKind.bits] at h2
  exact ⟨by show _ ≤ y.2.1; omega, by show y.2.1 ≤ _; omega⟩
theorem i64_in {n : Int} (h : (Lit.int .i64 n).wf = true) : i64 n := by
  simp [Lit.wf, IntKind.min, IntKind.max, IntKind.signed, IntKind.bits] at h
  exact ⟨by omega, by omega⟩
def MIn (w : World) (m : Mv) : Prop := Vs w m.w.ra m.w.row ∧ m.fits ∧ m.w.row.length ≤ 9223372036854775807
theorem move_in {w : World} {cs : List Value} {y : _} (h : moveC.R w cs y) : ∃ m : Mv, cs = m.cells ∧ MIn w m := by
  obtain ⟨c1, r1, rfl, ⟨rfl, _⟩, c2, r2, rfl, ⟨rfl, _⟩, c3, r3, rfl, ⟨d1, e1, rfl, ⟨rfl, _⟩, d2, e2, rfl, hw, hu⟩, c4, r4, rfl, ⟨rfl, h4⟩, c5, r5, rfl, ⟨rfl, h5⟩, hu2⟩ := h
  obtain rfl : e2 = [] := hu
  obtain rfl : r5 = [] := hu2
  obtain ⟨f1, g1, rfl, ⟨rfl, _⟩, f2, g2, rfl, ⟨rfl, _⟩, f3, g3, rfl, h3, f4, g4, rfl, h6, f5, g5, rfl, ⟨a, n, cap, rfl, hn, hc, h0, hrow⟩, f6, g6, rfl, ⟨rfl, _⟩, f7, g7, rfl, h7, f8, g8, rfl, ⟨rfl, _⟩, hu3⟩ := hw
  obtain rfl : g8 = [] := hu3
  obtain ⟨key, rfl, k1⟩ := val_in h3
  obtain ⟨high, rfl, k2⟩ := val_in h6
  obtain ⟨val, rfl, k3⟩ := val_in h7
  obtain ⟨l, hl, hll, hV, hf⟩ := vs_of (show SlcIn valC w a n cap _ from ⟨hn, hc, h0, hrow⟩)
  subst hl
  exact ⟨⟨_, _, _, ⟨_, _, key, high, a, cap, l, _, val, _⟩, _, _⟩, rfl, hV, ⟨⟨k1, k2, k3, fun v hv => (hf v hv).1⟩, i64_in h4, i64_in h5⟩, hll⟩
theorem moves_in {w : World} {a : Option Addr} {n cap : Nat} {xs : List _} (h : SlcIn moveC w a n cap xs) : ∃ l : List Mv, l.length = n ∧ n ≤ 9223372036854775807 ∧ Els Mv.cells 19 w a l ∧ ∀ m ∈ l, MIn w m := by
  obtain ⟨l, h1, h2, h3⟩ := Plan.els_ex (enc := Mv.cells) h.2.2.2 (by decide) (fun cs x hx => move_in hx)
  exact ⟨l, h1, h.len.2, h2, h3⟩
end Go.Proofs.Ytcfjooeagfollaa.Bill
