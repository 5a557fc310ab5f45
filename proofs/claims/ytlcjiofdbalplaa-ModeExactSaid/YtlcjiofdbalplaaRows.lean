/-
  No cell of these rows narrows 'for every input' (looked for: loops, veiled, ifaces, maps, wideKeys, modest, calm, conditions, laid).
  DERIVED. THE GIVEN ROWS OF THIS SEAT. 9 by the template 'for every input the law returns true; each argument reads behind the call as it read before'; 0 by the template 'total and deterministic' (their statements: YtlcjiofdbalplaaTotals.lean).
  GIVEN WITH THE SEED: the statements are not yours to turn. If you find one false, say at which input.
  Laid BY PROGRAM, IN A SANDBOX (cutbox-rows.mjs): the forced cells as the released guide's own fill.sh prints them over the translation 40c3789d744fc787… (all of the seat's roots in one cut). By AI agents, Wed Nov 11 2026. No macro, syntax, notation, axiom, sorry.
-/
import Derived.Test.YtlcjiofdbalplaaChecked
import GoSem.Claim
import GoSem.ClaimJoined
import GoSem.ClaimMapViews
import Derived.JoinedTies
import Derived.KernelRfl
namespace Go.Proofs.Ytlcjiofdbalplaa
/- THE CELL 'sum', in the pinned program and in every row, IS THE sha256 OF THE DUMP (.gsa) THAT YtlcjiofdbalplaaProg.lean LOADS. Nothing in Lean hashes anything: it is a label: what it is worth is what the hold of that sum in a sandbox is worth. -/
noncomputable def Try.pinned : Pinned := { name := "ytlcjiofdbalplaa", sum := "40c3789d744fc787bca01a9d7886e7f1eda7c3ee18d5ebfc7464894de08eb816", checked := Try.checked }
namespace Rows
def none {H : Type} : Left H := { results := [], args := [] }

/-- 'gaugerlaw02.CrcExact': WHATEVER THE INPUT: true; the input reads as it did. -/
def crcExactSpec : ChangeSpec := { name := "crcExact", fn := fun _ => fun
  | [d1, d2] => { results := [.lit (.bool true)], args := [d1, d2] }
  | _ => none }
def crcExactRow : OpenClaim := { program := "ytlcjiofdbalplaa", sum := "40c3789d744fc787bca01a9d7886e7f1eda7c3ee18d5ebfc7464894de08eb816", func := "gauger/gaugerlaw02.CrcExact", spec := "crcExact", apart := false }
def CrcExactSaid : Prop := crcExactRow.holds Try.pinned (OpenSpec.ofChange crcExactSpec)

/-- ITS FALSE NEIGHBOUR: 'it returns false'. Refute it at one input. -/
def crcExactWrong : ChangeSpec := { name := "crcExact", fn := fun _ => fun
  | [d1, d2] => { results := [.lit (.bool false)], args := [d1, d2] }
  | _ => none }
def CrcExactWrongFalsely : Prop := crcExactRow.holds Try.pinned (OpenSpec.ofChange crcExactWrong)

/-- 'gaugerlaw02.CrcTells': WHATEVER THE INPUT: true; the input reads as it did. -/
def crcTellsSpec : ChangeSpec := { name := "crcTells", fn := fun _ => fun
  | [d1, d2, d3] => { results := [.lit (.bool true)], args := [d1, d2, d3] }
  | _ => none }
def crcTellsRow : OpenClaim := { program := "ytlcjiofdbalplaa", sum := "40c3789d744fc787bca01a9d7886e7f1eda7c3ee18d5ebfc7464894de08eb816", func := "gauger/gaugerlaw02.CrcTells", spec := "crcTells", apart := false }
def CrcTellsSaid : Prop := crcTellsRow.holds Try.pinned (OpenSpec.ofChange crcTellsSpec)

/-- ITS FALSE NEIGHBOUR: 'it returns false'. Refute it at one input. -/
def crcTellsWrong : ChangeSpec := { name := "crcTells", fn := fun _ => fun
  | [d1, d2, d3] => { results := [.lit (.bool false)], args := [d1, d2, d3] }
  | _ => none }
def CrcTellsWrongFalsely : Prop := crcTellsRow.holds Try.pinned (OpenSpec.ofChange crcTellsWrong)

/-- 'gaugerlaw02.CrcLinear': WHATEVER THE INPUT: true; the input reads as it did. -/
def crcLinearSpec : ChangeSpec := { name := "crcLinear", fn := fun _ => fun
  | [d1, d2, d3] => { results := [.lit (.bool true)], args := [d1, d2, d3] }
  | _ => none }
def crcLinearRow : OpenClaim := { program := "ytlcjiofdbalplaa", sum := "40c3789d744fc787bca01a9d7886e7f1eda7c3ee18d5ebfc7464894de08eb816", func := "gauger/gaugerlaw02.CrcLinear", spec := "crcLinear", apart := false }
def CrcLinearSaid : Prop := crcLinearRow.holds Try.pinned (OpenSpec.ofChange crcLinearSpec)

/-- ITS FALSE NEIGHBOUR: 'it returns false'. Refute it at one input. -/
def crcLinearWrong : ChangeSpec := { name := "crcLinear", fn := fun _ => fun
  | [d1, d2, d3] => { results := [.lit (.bool false)], args := [d1, d2, d3] }
  | _ => none }
def CrcLinearWrongFalsely : Prop := crcLinearRow.holds Try.pinned (OpenSpec.ofChange crcLinearWrong)

/-- 'gaugerlaw03.MainsExact': WHATEVER THE INPUT: true; the input reads as it did. -/
def mainsExactSpec : ChangeSpec := { name := "mainsExact", fn := fun _ => fun
  | [d1, d2] => { results := [.lit (.bool true)], args := [d1, d2] }
  | _ => none }
def mainsExactRow : OpenClaim := { program := "ytlcjiofdbalplaa", sum := "40c3789d744fc787bca01a9d7886e7f1eda7c3ee18d5ebfc7464894de08eb816", func := "gauger/gaugerlaw03.MainsExact", spec := "mainsExact", apart := false }
def MainsExactSaid : Prop := mainsExactRow.holds Try.pinned (OpenSpec.ofChange mainsExactSpec)

/-- ITS FALSE NEIGHBOUR: 'it returns false'. Refute it at one input. -/
def mainsExactWrong : ChangeSpec := { name := "mainsExact", fn := fun _ => fun
  | [d1, d2] => { results := [.lit (.bool false)], args := [d1, d2] }
  | _ => none }
def MainsExactWrongFalsely : Prop := mainsExactRow.holds Try.pinned (OpenSpec.ofChange mainsExactWrong)

/-- 'gaugerlaw03.MainsFuse': WHATEVER THE INPUT: true; the input reads as it did. -/
def mainsFuseSpec : ChangeSpec := { name := "mainsFuse", fn := fun _ => fun
  | [d1, d2] => { results := [.lit (.bool true)], args := [d1, d2] }
  | _ => none }
def mainsFuseRow : OpenClaim := { program := "ytlcjiofdbalplaa", sum := "40c3789d744fc787bca01a9d7886e7f1eda7c3ee18d5ebfc7464894de08eb816", func := "gauger/gaugerlaw03.MainsFuse", spec := "mainsFuse", apart := false }
def MainsFuseSaid : Prop := mainsFuseRow.holds Try.pinned (OpenSpec.ofChange mainsFuseSpec)

/-- ITS FALSE NEIGHBOUR: 'it returns false'. Refute it at one input. -/
def mainsFuseWrong : ChangeSpec := { name := "mainsFuse", fn := fun _ => fun
  | [d1, d2] => { results := [.lit (.bool false)], args := [d1, d2] }
  | _ => none }
def MainsFuseWrongFalsely : Prop := mainsFuseRow.holds Try.pinned (OpenSpec.ofChange mainsFuseWrong)

/-- 'gaugerlaw03.MainsTwice': WHATEVER THE INPUT: true; the input reads as it did. -/
def mainsTwiceSpec : ChangeSpec := { name := "mainsTwice", fn := fun _ => fun
  | [d1, d2] => { results := [.lit (.bool true)], args := [d1, d2] }
  | _ => none }
def mainsTwiceRow : OpenClaim := { program := "ytlcjiofdbalplaa", sum := "40c3789d744fc787bca01a9d7886e7f1eda7c3ee18d5ebfc7464894de08eb816", func := "gauger/gaugerlaw03.MainsTwice", spec := "mainsTwice", apart := false }
def MainsTwiceSaid : Prop := mainsTwiceRow.holds Try.pinned (OpenSpec.ofChange mainsTwiceSpec)

/-- ITS FALSE NEIGHBOUR: 'it returns false'. Refute it at one input. -/
def mainsTwiceWrong : ChangeSpec := { name := "mainsTwice", fn := fun _ => fun
  | [d1, d2] => { results := [.lit (.bool false)], args := [d1, d2] }
  | _ => none }
def MainsTwiceWrongFalsely : Prop := mainsTwiceRow.holds Try.pinned (OpenSpec.ofChange mainsTwiceWrong)

/-- 'gaugerlaw12.ModeExact': WHATEVER THE INPUT: true; the input reads as it did. -/
def modeExactSpec : ChangeSpec := { name := "modeExact", fn := fun _ => fun
  | [d1, d2] => { results := [.lit (.bool true)], args := [d1, d2] }
  | _ => none }
def modeExactRow : OpenClaim := { program := "ytlcjiofdbalplaa", sum := "40c3789d744fc787bca01a9d7886e7f1eda7c3ee18d5ebfc7464894de08eb816", func := "gauger/gaugerlaw12.ModeExact", spec := "modeExact", apart := false }
def ModeExactSaid : Prop := modeExactRow.holds Try.pinned (OpenSpec.ofChange modeExactSpec)

/-- ITS FALSE NEIGHBOUR: 'it returns false'. Refute it at one input. -/
def modeExactWrong : ChangeSpec := { name := "modeExact", fn := fun _ => fun
  | [d1, d2] => { results := [.lit (.bool false)], args := [d1, d2] }
  | _ => none }
def ModeExactWrongFalsely : Prop := modeExactRow.holds Try.pinned (OpenSpec.ofChange modeExactWrong)

/-- 'gaugerlaw12.ModeJoins': WHATEVER THE INPUT: true; the input reads as it did. -/
def modeJoinsSpec : ChangeSpec := { name := "modeJoins", fn := fun _ => fun
  | [d1, d2, d3] => { results := [.lit (.bool true)], args := [d1, d2, d3] }
  | _ => none }
def modeJoinsRow : OpenClaim := { program := "ytlcjiofdbalplaa", sum := "40c3789d744fc787bca01a9d7886e7f1eda7c3ee18d5ebfc7464894de08eb816", func := "gauger/gaugerlaw12.ModeJoins", spec := "modeJoins", apart := false }
def ModeJoinsSaid : Prop := modeJoinsRow.holds Try.pinned (OpenSpec.ofChange modeJoinsSpec)

/-- ITS FALSE NEIGHBOUR: 'it returns false'. Refute it at one input. -/
def modeJoinsWrong : ChangeSpec := { name := "modeJoins", fn := fun _ => fun
  | [d1, d2, d3] => { results := [.lit (.bool false)], args := [d1, d2, d3] }
  | _ => none }
def ModeJoinsWrongFalsely : Prop := modeJoinsRow.holds Try.pinned (OpenSpec.ofChange modeJoinsWrong)

/-- 'gaugerlaw12.ModeOrder': WHATEVER THE INPUT: true; the input reads as it did. -/
def modeOrderSpec : ChangeSpec := { name := "modeOrder", fn := fun _ => fun
  | [d1, d2, d3] => { results := [.lit (.bool true)], args := [d1, d2, d3] }
  | _ => none }
def modeOrderRow : OpenClaim := { program := "ytlcjiofdbalplaa", sum := "40c3789d744fc787bca01a9d7886e7f1eda7c3ee18d5ebfc7464894de08eb816", func := "gauger/gaugerlaw12.ModeOrder", spec := "modeOrder", apart := false }
def ModeOrderSaid : Prop := modeOrderRow.holds Try.pinned (OpenSpec.ofChange modeOrderSpec)

/-- ITS FALSE NEIGHBOUR: 'it returns false'. Refute it at one input. -/
def modeOrderWrong : ChangeSpec := { name := "modeOrder", fn := fun _ => fun
  | [d1, d2, d3] => { results := [.lit (.bool false)], args := [d1, d2, d3] }
  | _ => none }
def ModeOrderWrongFalsely : Prop := modeOrderRow.holds Try.pinned (OpenSpec.ofChange modeOrderWrong)

/- THE SECOND FORM. 'bulk': how many values and letters a reading holds, each counted each time it is reached (what is shared counts as often as it is met; a slice's spare places count too). A statement '..UptoSaid' is the law's where the arguments, and the package variables that the reading takes, are together of bulk at most 1048576: NARROWER than '..Said'. Prove '..Said' where nothing that the law and all that it calls make is longer than what came in: it says more and counts as full. Else prove '..UptoSaid'. A law counts once. -/
mutual
def uptoBulk {H : Type} : DataW H → Nat
  | .lit (.string bytes) => bytes.length + 1
  | .lit _ => 1
  | .nil => 1
  | .ptr d => uptoBulk d + 1
  | .slice elems spare => uptoBulkAll elems + uptoBulkAll spare + 1
  | .agg parts => uptoBulkAll parts + 1
  | .iface _ d => uptoBulk d + 1
  | .map entries => uptoBulkEntries entries + 1
  | .held _ => 1
def uptoBulkAll {H : Type} : List (DataW H) → Nat
  | [] => 0
  | d :: r => uptoBulk d + uptoBulkAll r
def uptoBulkEntries {H : Type} : List (Lit × DataW H) → Nat
  | [] => 0
  | x :: r => uptoBulkEntry x + uptoBulkEntries r
def uptoBulkEntry {H : Type} : Lit × DataW H → Nat
  | (.string bytes, d) => bytes.length + uptoBulk d + 1
  | (_, d) => uptoBulk d + 1
 end
def uptoSmall : (H : Type) → List (DataW H) → Bool := fun _ ds => decide (uptoBulkAll ds ≤ 1048576)
def OpenSpec.upto (s : _root_.Go.ChangeSpec) : _root_.Go.OpenSpec := { _root_.Go.OpenSpec.ofChange s with cond := some uptoSmall }

/-- 'gaugerlaw02.CrcExact', WHERE WHAT IT READS IS OF BULK AT MOST 1048576: true; the input reads as it did. -/
def crcExactUptoRow : OpenClaim := { program := "ytlcjiofdbalplaa", sum := "40c3789d744fc787bca01a9d7886e7f1eda7c3ee18d5ebfc7464894de08eb816", func := "gauger/gaugerlaw02.CrcExact", spec := "crcExact", apart := false, narrowed := true }
def CrcExactUptoSaid : Prop := crcExactUptoRow.holds Try.pinned (OpenSpec.upto crcExactSpec)

/-- 'gaugerlaw02.CrcTells', WHERE WHAT IT READS IS OF BULK AT MOST 1048576: true; the input reads as it did. -/
def crcTellsUptoRow : OpenClaim := { program := "ytlcjiofdbalplaa", sum := "40c3789d744fc787bca01a9d7886e7f1eda7c3ee18d5ebfc7464894de08eb816", func := "gauger/gaugerlaw02.CrcTells", spec := "crcTells", apart := false, narrowed := true }
def CrcTellsUptoSaid : Prop := crcTellsUptoRow.holds Try.pinned (OpenSpec.upto crcTellsSpec)

/-- 'gaugerlaw02.CrcLinear', WHERE WHAT IT READS IS OF BULK AT MOST 1048576: true; the input reads as it did. -/
def crcLinearUptoRow : OpenClaim := { program := "ytlcjiofdbalplaa", sum := "40c3789d744fc787bca01a9d7886e7f1eda7c3ee18d5ebfc7464894de08eb816", func := "gauger/gaugerlaw02.CrcLinear", spec := "crcLinear", apart := false, narrowed := true }
def CrcLinearUptoSaid : Prop := crcLinearUptoRow.holds Try.pinned (OpenSpec.upto crcLinearSpec)

/-- 'gaugerlaw03.MainsExact', WHERE WHAT IT READS IS OF BULK AT MOST 1048576: true; the input reads as it did. -/
def mainsExactUptoRow : OpenClaim := { program := "ytlcjiofdbalplaa", sum := "40c3789d744fc787bca01a9d7886e7f1eda7c3ee18d5ebfc7464894de08eb816", func := "gauger/gaugerlaw03.MainsExact", spec := "mainsExact", apart := false, narrowed := true }
def MainsExactUptoSaid : Prop := mainsExactUptoRow.holds Try.pinned (OpenSpec.upto mainsExactSpec)

/-- 'gaugerlaw03.MainsFuse', WHERE WHAT IT READS IS OF BULK AT MOST 1048576: true; the input reads as it did. -/
def mainsFuseUptoRow : OpenClaim := { program := "ytlcjiofdbalplaa", sum := "40c3789d744fc787bca01a9d7886e7f1eda7c3ee18d5ebfc7464894de08eb816", func := "gauger/gaugerlaw03.MainsFuse", spec := "mainsFuse", apart := false, narrowed := true }
def MainsFuseUptoSaid : Prop := mainsFuseUptoRow.holds Try.pinned (OpenSpec.upto mainsFuseSpec)

/-- 'gaugerlaw03.MainsTwice', WHERE WHAT IT READS IS OF BULK AT MOST 1048576: true; the input reads as it did. -/
def mainsTwiceUptoRow : OpenClaim := { program := "ytlcjiofdbalplaa", sum := "40c3789d744fc787bca01a9d7886e7f1eda7c3ee18d5ebfc7464894de08eb816", func := "gauger/gaugerlaw03.MainsTwice", spec := "mainsTwice", apart := false, narrowed := true }
def MainsTwiceUptoSaid : Prop := mainsTwiceUptoRow.holds Try.pinned (OpenSpec.upto mainsTwiceSpec)

/-- 'gaugerlaw12.ModeExact', WHERE WHAT IT READS IS OF BULK AT MOST 1048576: true; the input reads as it did. -/
def modeExactUptoRow : OpenClaim := { program := "ytlcjiofdbalplaa", sum := "40c3789d744fc787bca01a9d7886e7f1eda7c3ee18d5ebfc7464894de08eb816", func := "gauger/gaugerlaw12.ModeExact", spec := "modeExact", apart := false, narrowed := true }
def ModeExactUptoSaid : Prop := modeExactUptoRow.holds Try.pinned (OpenSpec.upto modeExactSpec)

/-- 'gaugerlaw12.ModeJoins', WHERE WHAT IT READS IS OF BULK AT MOST 1048576: true; the input reads as it did. -/
def modeJoinsUptoRow : OpenClaim := { program := "ytlcjiofdbalplaa", sum := "40c3789d744fc787bca01a9d7886e7f1eda7c3ee18d5ebfc7464894de08eb816", func := "gauger/gaugerlaw12.ModeJoins", spec := "modeJoins", apart := false, narrowed := true }
def ModeJoinsUptoSaid : Prop := modeJoinsUptoRow.holds Try.pinned (OpenSpec.upto modeJoinsSpec)

/-- 'gaugerlaw12.ModeOrder', WHERE WHAT IT READS IS OF BULK AT MOST 1048576: true; the input reads as it did. -/
def modeOrderUptoRow : OpenClaim := { program := "ytlcjiofdbalplaa", sum := "40c3789d744fc787bca01a9d7886e7f1eda7c3ee18d5ebfc7464894de08eb816", func := "gauger/gaugerlaw12.ModeOrder", spec := "modeOrder", apart := false, narrowed := true }
def ModeOrderUptoSaid : Prop := modeOrderUptoRow.holds Try.pinned (OpenSpec.upto modeOrderSpec)

end Rows
end Go.Proofs.Ytlcjiofdbalplaa
