/- Numbers of node, without the pen. Taken from XNodePen. -/
import Derived.Test.YtcfjooeagfollaaBld
import Derived.Test.YtcfjooeagfollaaAgg
import Derived.LoopTactic
namespace Go.Proofs.Ytcfjooeagfollaa.Node
open Go.RowKit Go.Proofs.Ytcfjooeagfollaa.Mem Go.Proofs.Ytcfjooeagfollaa.Bytes
set_option linter.unusedSimpArgs false
set_option linter.unusedVariables false
set_option maxRecDepth 20000

/-- A number's bytes, the lowest first. -/
def le (n : Nat) : Nat → List UInt8
  | 0 => []
  | k + 1 => le n k ++ [UInt8.ofNat (n / 256 ^ k)]
theorem le_length (n k : Nat) : (le n k).length = k := by
  induction k with
  | zero => rfl
  | succ k ih => simp [le, ih]
def inb (n top : Int) : Bool := decide (0 ≤ n) && decide (n ≤ top)
set_option maxHeartbeats 400000 in
theorem in_calls (n top : Int) (w : World) : Calls Try.prog 147 #[.int .i64 n, .int .i64 top] w fun e w' => e = .returned (.bool (inb n top)) ∧ w' = w := by
  by_cases h : 0 ≤ n
  · have h' : inb n top = decide (n ≤ top) := by simp [inb, h]
    rw [h']
    clear h'
    go_enter Try.func147, Try.ntmps147
    go_wp2
    go_ret
    exact ⟨rfl, rfl⟩
  · have h' : inb n top = false := by simp [inb, h]
    rw [h']
    clear h'
    have h2 : decide (0 ≤ n) = false := by simp; omega
    go_enter Try.func147, Try.ntmps147
    go_wp2
    go_ret
    exact ⟨rfl, rfl⟩
def one (b : Bool) : Nat := if b then 1 else 0
end Go.Proofs.Ytcfjooeagfollaa.Node
