/-
  No cell of these rows narrows 'for every input' (looked for: loops, veiled, ifaces, maps, wideKeys, modest, calm, conditions, laid).
  DERIVED. THE GIVEN ROWS OF THIS SEAT. 5 by the template 'for every input the law returns true; each argument reads behind the call as it read before'; 0 by the template 'total and deterministic' (their statements: YtebmalmciakhcaaTotals.lean).
  GIVEN WITH THE SEED: the statements are not yours to turn. If you find one false, say at which input.
  Laid BY PROGRAM, IN A SANDBOX (cutbox-rows.mjs): the forced cells as the released guide's own fill.sh prints them over the translation 79fa04022814284f… (all of the seat's roots in one cut). By AI agents, Wed Nov 11 2026. No macro, syntax, notation, axiom, sorry.
-/
import Derived.Test.YtebmalmciakhcaaChecked
import GoSem.Claim
import GoSem.ClaimJoined
import GoSem.ClaimMapViews
import Derived.JoinedTies
import Derived.KernelRfl
namespace Go.Proofs.Ytebmalmciakhcaa
/- THE CELL 'sum', in the pinned program and in every row, IS THE sha256 OF THE DUMP (.gsa) THAT YtebmalmciakhcaaProg.lean LOADS. Nothing in Lean hashes anything: it is a label: what it is worth is what the hold of that sum in a sandbox is worth. -/
noncomputable def Try.pinned : Pinned := { name := "ytebmalmciakhcaa", sum := "79fa04022814284f16bd4682d7e62f8f36e685b14f4fba9694d6ff07238c1b6a", checked := Try.checked }
namespace Rows
def none {H : Type} : Left H := { results := [], args := [] }

/-- 'gaugerlaw08.NodeExact': WHATEVER THE INPUT: true; the input reads as it did. -/
def nodeExactSpec : ChangeSpec := { name := "nodeExact", fn := fun _ => fun
  | [d1, d2] => { results := [.lit (.bool true)], args := [d1, d2] }
  | _ => none }
def nodeExactRow : OpenClaim := { program := "ytebmalmciakhcaa", sum := "79fa04022814284f16bd4682d7e62f8f36e685b14f4fba9694d6ff07238c1b6a", func := "gauger/gaugerlaw08.NodeExact", spec := "nodeExact", inPlace := ["internal/abi.NoEscape", "internal/bytealg.MakeNoZero"], apart := false }
def NodeExactSaid : Prop := nodeExactRow.holds Try.pinned (OpenSpec.ofChange nodeExactSpec)

/-- ITS FALSE NEIGHBOUR: 'it returns false'. Refute it at one input. -/
def nodeExactWrong : ChangeSpec := { name := "nodeExact", fn := fun _ => fun
  | [d1, d2] => { results := [.lit (.bool false)], args := [d1, d2] }
  | _ => none }
def NodeExactWrongFalsely : Prop := nodeExactRow.holds Try.pinned (OpenSpec.ofChange nodeExactWrong)

/-- 'gaugerlaw08.NodeBack': WHATEVER THE INPUT: true; the input reads as it did. -/
def nodeBackSpec : ChangeSpec := { name := "nodeBack", fn := fun _ => fun
  | [d1, d2, d3] => { results := [.lit (.bool true)], args := [d1, d2, d3] }
  | _ => none }
def nodeBackRow : OpenClaim := { program := "ytebmalmciakhcaa", sum := "79fa04022814284f16bd4682d7e62f8f36e685b14f4fba9694d6ff07238c1b6a", func := "gauger/gaugerlaw08.NodeBack", spec := "nodeBack", inPlace := ["internal/abi.NoEscape", "internal/bytealg.MakeNoZero"], apart := false }
def NodeBackSaid : Prop := nodeBackRow.holds Try.pinned (OpenSpec.ofChange nodeBackSpec)

/-- ITS FALSE NEIGHBOUR: 'it returns false'. Refute it at one input. -/
def nodeBackWrong : ChangeSpec := { name := "nodeBack", fn := fun _ => fun
  | [d1, d2, d3] => { results := [.lit (.bool false)], args := [d1, d2, d3] }
  | _ => none }
def NodeBackWrongFalsely : Prop := nodeBackRow.holds Try.pinned (OpenSpec.ofChange nodeBackWrong)

/-- 'gaugerlaw08.NodeTurned': WHATEVER THE INPUT: true; the input reads as it did. -/
def nodeTurnedSpec : ChangeSpec := { name := "nodeTurned", fn := fun _ => fun
  | [d1, d2, d3] => { results := [.lit (.bool true)], args := [d1, d2, d3] }
  | _ => none }
def nodeTurnedRow : OpenClaim := { program := "ytebmalmciakhcaa", sum := "79fa04022814284f16bd4682d7e62f8f36e685b14f4fba9694d6ff07238c1b6a", func := "gauger/gaugerlaw08.NodeTurned", spec := "nodeTurned", inPlace := ["internal/abi.NoEscape", "internal/bytealg.MakeNoZero"], apart := false }
def NodeTurnedSaid : Prop := nodeTurnedRow.holds Try.pinned (OpenSpec.ofChange nodeTurnedSpec)

/-- ITS FALSE NEIGHBOUR: 'it returns false'. Refute it at one input. -/
def nodeTurnedWrong : ChangeSpec := { name := "nodeTurned", fn := fun _ => fun
  | [d1, d2, d3] => { results := [.lit (.bool false)], args := [d1, d2, d3] }
  | _ => none }
def NodeTurnedWrongFalsely : Prop := nodeTurnedRow.holds Try.pinned (OpenSpec.ofChange nodeTurnedWrong)

/-- 'gaugerlaw08.NodeLeads': WHATEVER THE INPUT: true; the input reads as it did. -/
def nodeLeadsSpec : ChangeSpec := { name := "nodeLeads", fn := fun _ => fun
  | [d1, d2, d3] => { results := [.lit (.bool true)], args := [d1, d2, d3] }
  | _ => none }
def nodeLeadsRow : OpenClaim := { program := "ytebmalmciakhcaa", sum := "79fa04022814284f16bd4682d7e62f8f36e685b14f4fba9694d6ff07238c1b6a", func := "gauger/gaugerlaw08.NodeLeads", spec := "nodeLeads", inPlace := ["internal/abi.NoEscape", "internal/bytealg.MakeNoZero"], apart := false }
def NodeLeadsSaid : Prop := nodeLeadsRow.holds Try.pinned (OpenSpec.ofChange nodeLeadsSpec)

/-- ITS FALSE NEIGHBOUR: 'it returns false'. Refute it at one input. -/
def nodeLeadsWrong : ChangeSpec := { name := "nodeLeads", fn := fun _ => fun
  | [d1, d2, d3] => { results := [.lit (.bool false)], args := [d1, d2, d3] }
  | _ => none }
def NodeLeadsWrongFalsely : Prop := nodeLeadsRow.holds Try.pinned (OpenSpec.ofChange nodeLeadsWrong)

/-- 'gaugerlaw08.NodeFinds': WHATEVER THE INPUT: true; the input reads as it did. -/
def nodeFindsSpec : ChangeSpec := { name := "nodeFinds", fn := fun _ => fun
  | [d1, d2, d3] => { results := [.lit (.bool true)], args := [d1, d2, d3] }
  | _ => none }
def nodeFindsRow : OpenClaim := { program := "ytebmalmciakhcaa", sum := "79fa04022814284f16bd4682d7e62f8f36e685b14f4fba9694d6ff07238c1b6a", func := "gauger/gaugerlaw08.NodeFinds", spec := "nodeFinds", inPlace := ["internal/abi.NoEscape", "internal/bytealg.MakeNoZero", "internal/bytealg.abigen_runtime_cmpstring"], unfollowed := true, recurses := true, apart := false }
def NodeFindsSaid : Prop := nodeFindsRow.holds Try.pinned (OpenSpec.ofChange nodeFindsSpec)

/-- ITS FALSE NEIGHBOUR: 'it returns false'. Refute it at one input. -/
def nodeFindsWrong : ChangeSpec := { name := "nodeFinds", fn := fun _ => fun
  | [d1, d2, d3] => { results := [.lit (.bool false)], args := [d1, d2, d3] }
  | _ => none }
def NodeFindsWrongFalsely : Prop := nodeFindsRow.holds Try.pinned (OpenSpec.ofChange nodeFindsWrong)

/- THE SECOND FORM. 'bulk': how many values and letters a reading holds, each counted each time it is reached (what is shared counts as often as it is met; a slice's spare places count too). A statement '..UptoSaid' is the law's where the arguments, and the package variables that the reading takes, are together of bulk at most 1048576: NARROWER than '..Said'. Prove '..Said' where nothing that the law and all that it calls make is longer than what came in: it says more and counts as full. Else prove '..UptoSaid'. A law counts once. -/
mutual
def uptoBulk {H : Type} : DataW H → Nat
  | .lit (.string bytes) => bytes.length + 1
  | .lit _ => 1
  | .nil => 1
  | .ptr d => uptoBulk d + 1
  | .slice elems spare => uptoBulkAll elems + uptoBulkAll spare + 1
  | .agg parts => uptoBulkAll parts + 1
  | .iface _ d => uptoBulk d + 1
  | .map entries => uptoBulkEntries entries + 1
  | .held _ => 1
def uptoBulkAll {H : Type} : List (DataW H) → Nat
  | [] => 0
  | d :: r => uptoBulk d + uptoBulkAll r
def uptoBulkEntries {H : Type} : List (Lit × DataW H) → Nat
  | [] => 0
  | x :: r => uptoBulkEntry x + uptoBulkEntries r
def uptoBulkEntry {H : Type} : Lit × DataW H → Nat
  | (.string bytes, d) => bytes.length + uptoBulk d + 1
  | (_, d) => uptoBulk d + 1
 end
def uptoSmall : (H : Type) → List (DataW H) → Bool := fun _ ds => decide (uptoBulkAll ds ≤ 1048576)
def OpenSpec.upto (s : _root_.Go.ChangeSpec) : _root_.Go.OpenSpec := { _root_.Go.OpenSpec.ofChange s with cond := some uptoSmall }

/-- 'gaugerlaw08.NodeExact', WHERE WHAT IT READS IS OF BULK AT MOST 1048576: true; the input reads as it did. -/
def nodeExactUptoRow : OpenClaim := { program := "ytebmalmciakhcaa", sum := "79fa04022814284f16bd4682d7e62f8f36e685b14f4fba9694d6ff07238c1b6a", func := "gauger/gaugerlaw08.NodeExact", spec := "nodeExact", inPlace := ["internal/abi.NoEscape", "internal/bytealg.MakeNoZero"], apart := false, narrowed := true }
def NodeExactUptoSaid : Prop := nodeExactUptoRow.holds Try.pinned (OpenSpec.upto nodeExactSpec)

/-- 'gaugerlaw08.NodeBack', WHERE WHAT IT READS IS OF BULK AT MOST 1048576: true; the input reads as it did. -/
def nodeBackUptoRow : OpenClaim := { program := "ytebmalmciakhcaa", sum := "79fa04022814284f16bd4682d7e62f8f36e685b14f4fba9694d6ff07238c1b6a", func := "gauger/gaugerlaw08.NodeBack", spec := "nodeBack", inPlace := ["internal/abi.NoEscape", "internal/bytealg.MakeNoZero"], apart := false, narrowed := true }
def NodeBackUptoSaid : Prop := nodeBackUptoRow.holds Try.pinned (OpenSpec.upto nodeBackSpec)

/-- 'gaugerlaw08.NodeTurned', WHERE WHAT IT READS IS OF BULK AT MOST 1048576: true; the input reads as it did. -/
def nodeTurnedUptoRow : OpenClaim := { program := "ytebmalmciakhcaa", sum := "79fa04022814284f16bd4682d7e62f8f36e685b14f4fba9694d6ff07238c1b6a", func := "gauger/gaugerlaw08.NodeTurned", spec := "nodeTurned", inPlace := ["internal/abi.NoEscape", "internal/bytealg.MakeNoZero"], apart := false, narrowed := true }
def NodeTurnedUptoSaid : Prop := nodeTurnedUptoRow.holds Try.pinned (OpenSpec.upto nodeTurnedSpec)

/-- 'gaugerlaw08.NodeLeads', WHERE WHAT IT READS IS OF BULK AT MOST 1048576: true; the input reads as it did. -/
def nodeLeadsUptoRow : OpenClaim := { program := "ytebmalmciakhcaa", sum := "79fa04022814284f16bd4682d7e62f8f36e685b14f4fba9694d6ff07238c1b6a", func := "gauger/gaugerlaw08.NodeLeads", spec := "nodeLeads", inPlace := ["internal/abi.NoEscape", "internal/bytealg.MakeNoZero"], apart := false, narrowed := true }
def NodeLeadsUptoSaid : Prop := nodeLeadsUptoRow.holds Try.pinned (OpenSpec.upto nodeLeadsSpec)

/-- 'gaugerlaw08.NodeFinds', WHERE WHAT IT READS IS OF BULK AT MOST 1048576: true; the input reads as it did. -/
def nodeFindsUptoRow : OpenClaim := { program := "ytebmalmciakhcaa", sum := "79fa04022814284f16bd4682d7e62f8f36e685b14f4fba9694d6ff07238c1b6a", func := "gauger/gaugerlaw08.NodeFinds", spec := "nodeFinds", inPlace := ["internal/abi.NoEscape", "internal/bytealg.MakeNoZero", "internal/bytealg.abigen_runtime_cmpstring"], unfollowed := true, recurses := true, apart := false, narrowed := true }
def NodeFindsUptoSaid : Prop := nodeFindsUptoRow.holds Try.pinned (OpenSpec.upto nodeFindsSpec)

end Rows
end Go.Proofs.Ytebmalmciakhcaa
