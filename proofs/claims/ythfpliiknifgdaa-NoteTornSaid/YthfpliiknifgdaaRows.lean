/-
  No cell of these rows narrows 'for every input' (looked for: loops, veiled, ifaces, maps, wideKeys, modest, calm, conditions, laid).
  DERIVED. THE GIVEN ROWS OF THIS SEAT. 6 by the template 'for every input the law returns true; each argument reads behind the call as it read before'; 0 by the template 'total and deterministic' (their statements: YthfpliiknifgdaaTotals.lean).
  GIVEN WITH THE SEED: the statements are not yours to turn. If you find one false, say at which input.
  Laid BY PROGRAM, IN A SANDBOX (cutbox-rows.mjs): the forced cells as the released guide's own fill.sh prints them over the translation db07fde13455f890… (all of the seat's roots in one cut). By AI agents, Wed Nov 11 2026. No macro, syntax, notation, axiom, sorry.
-/
import Derived.Test.YthfpliiknifgdaaChecked
import GoSem.Claim
import GoSem.ClaimJoined
import GoSem.ClaimMapViews
import Derived.JoinedTies
import Derived.KernelRfl
namespace Go.Proofs.Ythfpliiknifgdaa
/- THE CELL 'sum', in the pinned program and in every row, IS THE sha256 OF THE DUMP (.gsa) THAT YthfpliiknifgdaaProg.lean LOADS. Nothing in Lean hashes anything: it is a label: what it is worth is what the hold of that sum in a sandbox is worth. -/
noncomputable def Try.pinned : Pinned := { name := "ythfpliiknifgdaa", sum := "db07fde13455f8906dac273ccae832764021c6cdcab64d301cb56a52ee0b899f", checked := Try.checked }
namespace Rows
def none {H : Type} : Left H := { results := [], args := [] }

/-- 'gaugerlaw05.ReelFull': WHATEVER THE INPUT: true; the input reads as it did. -/
def reelFullSpec : ChangeSpec := { name := "reelFull", fn := fun _ => fun
  | [d1, d2] => { results := [.lit (.bool true)], args := [d1, d2] }
  | _ => none }
def reelFullRow : OpenClaim := { program := "ythfpliiknifgdaa", sum := "db07fde13455f8906dac273ccae832764021c6cdcab64d301cb56a52ee0b899f", func := "gauger/gaugerlaw05.ReelFull", spec := "reelFull", apart := false }
def ReelFullSaid : Prop := reelFullRow.holds Try.pinned (OpenSpec.ofChange reelFullSpec)

/-- ITS FALSE NEIGHBOUR: 'it returns false'. Refute it at one input. -/
def reelFullWrong : ChangeSpec := { name := "reelFull", fn := fun _ => fun
  | [d1, d2] => { results := [.lit (.bool false)], args := [d1, d2] }
  | _ => none }
def ReelFullWrongFalsely : Prop := reelFullRow.holds Try.pinned (OpenSpec.ofChange reelFullWrong)

/-- 'gaugerlaw05.ReelKeeps': WHATEVER THE INPUT: true; the input reads as it did. -/
def reelKeepsSpec : ChangeSpec := { name := "reelKeeps", fn := fun _ => fun
  | [d1, d2, d3] => { results := [.lit (.bool true)], args := [d1, d2, d3] }
  | _ => none }
def reelKeepsRow : OpenClaim := { program := "ythfpliiknifgdaa", sum := "db07fde13455f8906dac273ccae832764021c6cdcab64d301cb56a52ee0b899f", func := "gauger/gaugerlaw05.ReelKeeps", spec := "reelKeeps", apart := false }
def ReelKeepsSaid : Prop := reelKeepsRow.holds Try.pinned (OpenSpec.ofChange reelKeepsSpec)

/-- ITS FALSE NEIGHBOUR: 'it returns false'. Refute it at one input. -/
def reelKeepsWrong : ChangeSpec := { name := "reelKeeps", fn := fun _ => fun
  | [d1, d2, d3] => { results := [.lit (.bool false)], args := [d1, d2, d3] }
  | _ => none }
def ReelKeepsWrongFalsely : Prop := reelKeepsRow.holds Try.pinned (OpenSpec.ofChange reelKeepsWrong)

/-- 'gaugerlaw05.ReelExact': WHATEVER THE INPUT: true; the input reads as it did. -/
def reelExactSpec : ChangeSpec := { name := "reelExact", fn := fun _ => fun
  | [d1, d2] => { results := [.lit (.bool true)], args := [d1, d2] }
  | _ => none }
def reelExactRow : OpenClaim := { program := "ythfpliiknifgdaa", sum := "db07fde13455f8906dac273ccae832764021c6cdcab64d301cb56a52ee0b899f", func := "gauger/gaugerlaw05.ReelExact", spec := "reelExact", apart := false }
def ReelExactSaid : Prop := reelExactRow.holds Try.pinned (OpenSpec.ofChange reelExactSpec)

/-- ITS FALSE NEIGHBOUR: 'it returns false'. Refute it at one input. -/
def reelExactWrong : ChangeSpec := { name := "reelExact", fn := fun _ => fun
  | [d1, d2] => { results := [.lit (.bool false)], args := [d1, d2] }
  | _ => none }
def ReelExactWrongFalsely : Prop := reelExactRow.holds Try.pinned (OpenSpec.ofChange reelExactWrong)

/-- 'gaugerlaw06.NoteExact': WHATEVER THE INPUT: true; the input reads as it did. -/
def noteExactSpec : ChangeSpec := { name := "noteExact", fn := fun _ => fun
  | [d1, d2] => { results := [.lit (.bool true)], args := [d1, d2] }
  | _ => none }
def noteExactRow : OpenClaim := { program := "ythfpliiknifgdaa", sum := "db07fde13455f8906dac273ccae832764021c6cdcab64d301cb56a52ee0b899f", func := "gauger/gaugerlaw06.NoteExact", spec := "noteExact", inPlace := ["internal/abi.NoEscape"], unfollowed := true, recurses := true, apart := false }
def NoteExactSaid : Prop := noteExactRow.holds Try.pinned (OpenSpec.ofChange noteExactSpec)

/-- ITS FALSE NEIGHBOUR: 'it returns false'. Refute it at one input. -/
def noteExactWrong : ChangeSpec := { name := "noteExact", fn := fun _ => fun
  | [d1, d2] => { results := [.lit (.bool false)], args := [d1, d2] }
  | _ => none }
def NoteExactWrongFalsely : Prop := noteExactRow.holds Try.pinned (OpenSpec.ofChange noteExactWrong)

/-- 'gaugerlaw06.NoteBack': WHATEVER THE INPUT: true; the input reads as it did. -/
def noteBackSpec : ChangeSpec := { name := "noteBack", fn := fun _ => fun
  | [d1, d2, d3] => { results := [.lit (.bool true)], args := [d1, d2, d3] }
  | _ => none }
def noteBackRow : OpenClaim := { program := "ythfpliiknifgdaa", sum := "db07fde13455f8906dac273ccae832764021c6cdcab64d301cb56a52ee0b899f", func := "gauger/gaugerlaw06.NoteBack", spec := "noteBack", inPlace := ["internal/abi.NoEscape"], unfollowed := true, recurses := true, apart := false }
def NoteBackSaid : Prop := noteBackRow.holds Try.pinned (OpenSpec.ofChange noteBackSpec)

/-- ITS FALSE NEIGHBOUR: 'it returns false'. Refute it at one input. -/
def noteBackWrong : ChangeSpec := { name := "noteBack", fn := fun _ => fun
  | [d1, d2, d3] => { results := [.lit (.bool false)], args := [d1, d2, d3] }
  | _ => none }
def NoteBackWrongFalsely : Prop := noteBackRow.holds Try.pinned (OpenSpec.ofChange noteBackWrong)

/-- 'gaugerlaw06.NoteTorn': WHATEVER THE INPUT: true; the input reads as it did. -/
def noteTornSpec : ChangeSpec := { name := "noteTorn", fn := fun _ => fun
  | [d1, d2, d3, d4] => { results := [.lit (.bool true)], args := [d1, d2, d3, d4] }
  | _ => none }
def noteTornRow : OpenClaim := { program := "ythfpliiknifgdaa", sum := "db07fde13455f8906dac273ccae832764021c6cdcab64d301cb56a52ee0b899f", func := "gauger/gaugerlaw06.NoteTorn", spec := "noteTorn", inPlace := ["internal/abi.NoEscape"], unfollowed := true, recurses := true, apart := false }
def NoteTornSaid : Prop := noteTornRow.holds Try.pinned (OpenSpec.ofChange noteTornSpec)

/-- ITS FALSE NEIGHBOUR: 'it returns false'. Refute it at one input. -/
def noteTornWrong : ChangeSpec := { name := "noteTorn", fn := fun _ => fun
  | [d1, d2, d3, d4] => { results := [.lit (.bool false)], args := [d1, d2, d3, d4] }
  | _ => none }
def NoteTornWrongFalsely : Prop := noteTornRow.holds Try.pinned (OpenSpec.ofChange noteTornWrong)

/- THE SECOND FORM. 'bulk': how many values and letters a reading holds, each counted each time it is reached (what is shared counts as often as it is met; a slice's spare places count too). A statement '..UptoSaid' is the law's where the arguments, and the package variables that the reading takes, are together of bulk at most 1048576: NARROWER than '..Said'. Prove '..Said' where nothing that the law and all that it calls make is longer than what came in: it says more and counts as full. Else prove '..UptoSaid'. A law counts once. -/
mutual
def uptoBulk {H : Type} : DataW H → Nat
  | .lit (.string bytes) => bytes.length + 1
  | .lit _ => 1
  | .nil => 1
  | .ptr d => uptoBulk d + 1
  | .slice elems spare => uptoBulkAll elems + uptoBulkAll spare + 1
  | .agg parts => uptoBulkAll parts + 1
  | .iface _ d => uptoBulk d + 1
  | .map entries => uptoBulkEntries entries + 1
  | .held _ => 1
def uptoBulkAll {H : Type} : List (DataW H) → Nat
  | [] => 0
  | d :: r => uptoBulk d + uptoBulkAll r
def uptoBulkEntries {H : Type} : List (Lit × DataW H) → Nat
  | [] => 0
  | x :: r => uptoBulkEntry x + uptoBulkEntries r
def uptoBulkEntry {H : Type} : Lit × DataW H → Nat
  | (.string bytes, d) => bytes.length + uptoBulk d + 1
  | (_, d) => uptoBulk d + 1
 end
def uptoSmall : (H : Type) → List (DataW H) → Bool := fun _ ds => decide (uptoBulkAll ds ≤ 1048576)
def OpenSpec.upto (s : _root_.Go.ChangeSpec) : _root_.Go.OpenSpec := { _root_.Go.OpenSpec.ofChange s with cond := some uptoSmall }

/-- 'gaugerlaw05.ReelFull', WHERE WHAT IT READS IS OF BULK AT MOST 1048576: true; the input reads as it did. -/
def reelFullUptoRow : OpenClaim := { program := "ythfpliiknifgdaa", sum := "db07fde13455f8906dac273ccae832764021c6cdcab64d301cb56a52ee0b899f", func := "gauger/gaugerlaw05.ReelFull", spec := "reelFull", apart := false, narrowed := true }
def ReelFullUptoSaid : Prop := reelFullUptoRow.holds Try.pinned (OpenSpec.upto reelFullSpec)

/-- 'gaugerlaw05.ReelKeeps', WHERE WHAT IT READS IS OF BULK AT MOST 1048576: true; the input reads as it did. -/
def reelKeepsUptoRow : OpenClaim := { program := "ythfpliiknifgdaa", sum := "db07fde13455f8906dac273ccae832764021c6cdcab64d301cb56a52ee0b899f", func := "gauger/gaugerlaw05.ReelKeeps", spec := "reelKeeps", apart := false, narrowed := true }
def ReelKeepsUptoSaid : Prop := reelKeepsUptoRow.holds Try.pinned (OpenSpec.upto reelKeepsSpec)

/-- 'gaugerlaw05.ReelExact', WHERE WHAT IT READS IS OF BULK AT MOST 1048576: true; the input reads as it did. -/
def reelExactUptoRow : OpenClaim := { program := "ythfpliiknifgdaa", sum := "db07fde13455f8906dac273ccae832764021c6cdcab64d301cb56a52ee0b899f", func := "gauger/gaugerlaw05.ReelExact", spec := "reelExact", apart := false, narrowed := true }
def ReelExactUptoSaid : Prop := reelExactUptoRow.holds Try.pinned (OpenSpec.upto reelExactSpec)

/-- 'gaugerlaw06.NoteExact', WHERE WHAT IT READS IS OF BULK AT MOST 1048576: true; the input reads as it did. -/
def noteExactUptoRow : OpenClaim := { program := "ythfpliiknifgdaa", sum := "db07fde13455f8906dac273ccae832764021c6cdcab64d301cb56a52ee0b899f", func := "gauger/gaugerlaw06.NoteExact", spec := "noteExact", inPlace := ["internal/abi.NoEscape"], unfollowed := true, recurses := true, apart := false, narrowed := true }
def NoteExactUptoSaid : Prop := noteExactUptoRow.holds Try.pinned (OpenSpec.upto noteExactSpec)

/-- 'gaugerlaw06.NoteBack', WHERE WHAT IT READS IS OF BULK AT MOST 1048576: true; the input reads as it did. -/
def noteBackUptoRow : OpenClaim := { program := "ythfpliiknifgdaa", sum := "db07fde13455f8906dac273ccae832764021c6cdcab64d301cb56a52ee0b899f", func := "gauger/gaugerlaw06.NoteBack", spec := "noteBack", inPlace := ["internal/abi.NoEscape"], unfollowed := true, recurses := true, apart := false, narrowed := true }
def NoteBackUptoSaid : Prop := noteBackUptoRow.holds Try.pinned (OpenSpec.upto noteBackSpec)

/-- 'gaugerlaw06.NoteTorn', WHERE WHAT IT READS IS OF BULK AT MOST 1048576: true; the input reads as it did. -/
def noteTornUptoRow : OpenClaim := { program := "ythfpliiknifgdaa", sum := "db07fde13455f8906dac273ccae832764021c6cdcab64d301cb56a52ee0b899f", func := "gauger/gaugerlaw06.NoteTorn", spec := "noteTorn", inPlace := ["internal/abi.NoEscape"], unfollowed := true, recurses := true, apart := false, narrowed := true }
def NoteTornUptoSaid : Prop := noteTornUptoRow.holds Try.pinned (OpenSpec.upto noteTornSpec)

end Rows
end Go.Proofs.Ythfpliiknifgdaa
