/-
  No cell of these rows narrows 'for every input' (looked for: loops, veiled, ifaces, maps, wideKeys, modest, calm, conditions, laid).
  DERIVED. THE GIVEN ROWS OF THIS SEAT. 4 by the template 'for every input the law returns true; each argument reads behind the call as it read before'; 0 by the template 'total and deterministic' (their statements: YtdnkgnlkipaboaaTotals.lean).
  GIVEN WITH THE SEED: the statements are not yours to turn. If you find one false, say at which input.
  Laid BY PROGRAM, IN A SANDBOX (cutbox-rows.mjs): the forced cells as the released guide's own fill.sh prints them over the translation ff2a131a77fd2f9f… (all of the seat's roots in one cut). By AI agents, Wed Nov 11 2026. No macro, syntax, notation, axiom, sorry.
-/
import Derived.Test.YtdnkgnlkipaboaaChecked
import GoSem.Claim
import GoSem.ClaimJoined
import GoSem.ClaimMapViews
import Derived.JoinedTies
import Derived.KernelRfl
namespace Go.Proofs.Ytdnkgnlkipaboaa
/- THE CELL 'sum', in the pinned program and in every row, IS THE sha256 OF THE DUMP (.gsa) THAT YtdnkgnlkipaboaaProg.lean LOADS. Nothing in Lean hashes anything: it is a label: what it is worth is what the hold of that sum in a sandbox is worth. -/
noncomputable def Try.pinned : Pinned := { name := "ytdnkgnlkipaboaa", sum := "ff2a131a77fd2f9f39088ccb9198aac5ce691749f4cffdbac4bd2ec6f2086d51", checked := Try.checked }
namespace Rows
def none {H : Type} : Left H := { results := [], args := [] }

/-- 'gaugerlaw01.SignRows': WHATEVER THE INPUT: true; the input reads as it did. -/
def signRowsSpec : ChangeSpec := { name := "signRows", fn := fun _ => fun
  | [d1, d2] => { results := [.lit (.bool true)], args := [d1, d2] }
  | _ => none }
def signRowsRow : OpenClaim := { program := "ytdnkgnlkipaboaa", sum := "ff2a131a77fd2f9f39088ccb9198aac5ce691749f4cffdbac4bd2ec6f2086d51", func := "gauger/gaugerlaw01.SignRows", spec := "signRows", inPlace := ["internal/abi.NoEscape", "internal/bytealg.MakeNoZero"], apart := false }
def SignRowsSaid : Prop := signRowsRow.holds Try.pinned (OpenSpec.ofChange signRowsSpec)

/-- ITS FALSE NEIGHBOUR: 'it returns false'. Refute it at one input. -/
def signRowsWrong : ChangeSpec := { name := "signRows", fn := fun _ => fun
  | [d1, d2] => { results := [.lit (.bool false)], args := [d1, d2] }
  | _ => none }
def SignRowsWrongFalsely : Prop := signRowsRow.holds Try.pinned (OpenSpec.ofChange signRowsWrong)

/-- 'gaugerlaw01.SignBack': WHATEVER THE INPUT: true; the input reads as it did. -/
def signBackSpec : ChangeSpec := { name := "signBack", fn := fun _ => fun
  | [d1, d2] => { results := [.lit (.bool true)], args := [d1, d2] }
  | _ => none }
def signBackRow : OpenClaim := { program := "ytdnkgnlkipaboaa", sum := "ff2a131a77fd2f9f39088ccb9198aac5ce691749f4cffdbac4bd2ec6f2086d51", func := "gauger/gaugerlaw01.SignBack", spec := "signBack", inPlace := ["internal/abi.NoEscape", "internal/bytealg.MakeNoZero"], apart := false }
def SignBackSaid : Prop := signBackRow.holds Try.pinned (OpenSpec.ofChange signBackSpec)

/-- ITS FALSE NEIGHBOUR: 'it returns false'. Refute it at one input. -/
def signBackWrong : ChangeSpec := { name := "signBack", fn := fun _ => fun
  | [d1, d2] => { results := [.lit (.bool false)], args := [d1, d2] }
  | _ => none }
def SignBackWrongFalsely : Prop := signBackRow.holds Try.pinned (OpenSpec.ofChange signBackWrong)

/-- 'gaugerlaw01.SignExact': WHATEVER THE INPUT: true; the input reads as it did. -/
def signExactSpec : ChangeSpec := { name := "signExact", fn := fun _ => fun
  | [d1, d2, d3] => { results := [.lit (.bool true)], args := [d1, d2, d3] }
  | _ => none }
def signExactRow : OpenClaim := { program := "ytdnkgnlkipaboaa", sum := "ff2a131a77fd2f9f39088ccb9198aac5ce691749f4cffdbac4bd2ec6f2086d51", func := "gauger/gaugerlaw01.SignExact", spec := "signExact", inPlace := ["internal/abi.NoEscape", "internal/bytealg.MakeNoZero"], apart := false }
def SignExactSaid : Prop := signExactRow.holds Try.pinned (OpenSpec.ofChange signExactSpec)

/-- ITS FALSE NEIGHBOUR: 'it returns false'. Refute it at one input. -/
def signExactWrong : ChangeSpec := { name := "signExact", fn := fun _ => fun
  | [d1, d2, d3] => { results := [.lit (.bool false)], args := [d1, d2, d3] }
  | _ => none }
def SignExactWrongFalsely : Prop := signExactRow.holds Try.pinned (OpenSpec.ofChange signExactWrong)

/-- 'gaugerlaw01.SignOrder': WHATEVER THE INPUT: true; the input reads as it did. -/
def signOrderSpec : ChangeSpec := { name := "signOrder", fn := fun _ => fun
  | [d1, d2] => { results := [.lit (.bool true)], args := [d1, d2] }
  | _ => none }
def signOrderRow : OpenClaim := { program := "ytdnkgnlkipaboaa", sum := "ff2a131a77fd2f9f39088ccb9198aac5ce691749f4cffdbac4bd2ec6f2086d51", func := "gauger/gaugerlaw01.SignOrder", spec := "signOrder", inPlace := ["internal/abi.NoEscape", "internal/bytealg.MakeNoZero"], apart := false }
def SignOrderSaid : Prop := signOrderRow.holds Try.pinned (OpenSpec.ofChange signOrderSpec)

/-- ITS FALSE NEIGHBOUR: 'it returns false'. Refute it at one input. -/
def signOrderWrong : ChangeSpec := { name := "signOrder", fn := fun _ => fun
  | [d1, d2] => { results := [.lit (.bool false)], args := [d1, d2] }
  | _ => none }
def SignOrderWrongFalsely : Prop := signOrderRow.holds Try.pinned (OpenSpec.ofChange signOrderWrong)

/- THE SECOND FORM. 'bulk': how many values and letters a reading holds, each counted each time it is reached (what is shared counts as often as it is met; a slice's spare places count too). A statement '..UptoSaid' is the law's where the arguments, and the package variables that the reading takes, are together of bulk at most 1048576: NARROWER than '..Said'. Prove '..Said' where nothing that the law and all that it calls make is longer than what came in: it says more and counts as full. Else prove '..UptoSaid'. A law counts once. -/
mutual
def uptoBulk {H : Type} : DataW H → Nat
  | .lit (.string bytes) => bytes.length + 1
  | .lit _ => 1
  | .nil => 1
  | .ptr d => uptoBulk d + 1
  | .slice elems spare => uptoBulkAll elems + uptoBulkAll spare + 1
  | .agg parts => uptoBulkAll parts + 1
  | .iface _ d => uptoBulk d + 1
  | .map entries => uptoBulkEntries entries + 1
  | .held _ => 1
def uptoBulkAll {H : Type} : List (DataW H) → Nat
  | [] => 0
  | d :: r => uptoBulk d + uptoBulkAll r
def uptoBulkEntries {H : Type} : List (Lit × DataW H) → Nat
  | [] => 0
  | x :: r => uptoBulkEntry x + uptoBulkEntries r
def uptoBulkEntry {H : Type} : Lit × DataW H → Nat
  | (.string bytes, d) => bytes.length + uptoBulk d + 1
  | (_, d) => uptoBulk d + 1
 end
def uptoSmall : (H : Type) → List (DataW H) → Bool := fun _ ds => decide (uptoBulkAll ds ≤ 1048576)
def OpenSpec.upto (s : _root_.Go.ChangeSpec) : _root_.Go.OpenSpec := { _root_.Go.OpenSpec.ofChange s with cond := some uptoSmall }

/-- 'gaugerlaw01.SignRows', WHERE WHAT IT READS IS OF BULK AT MOST 1048576: true; the input reads as it did. -/
def signRowsUptoRow : OpenClaim := { program := "ytdnkgnlkipaboaa", sum := "ff2a131a77fd2f9f39088ccb9198aac5ce691749f4cffdbac4bd2ec6f2086d51", func := "gauger/gaugerlaw01.SignRows", spec := "signRows", inPlace := ["internal/abi.NoEscape", "internal/bytealg.MakeNoZero"], apart := false, narrowed := true }
def SignRowsUptoSaid : Prop := signRowsUptoRow.holds Try.pinned (OpenSpec.upto signRowsSpec)

/-- 'gaugerlaw01.SignBack', WHERE WHAT IT READS IS OF BULK AT MOST 1048576: true; the input reads as it did. -/
def signBackUptoRow : OpenClaim := { program := "ytdnkgnlkipaboaa", sum := "ff2a131a77fd2f9f39088ccb9198aac5ce691749f4cffdbac4bd2ec6f2086d51", func := "gauger/gaugerlaw01.SignBack", spec := "signBack", inPlace := ["internal/abi.NoEscape", "internal/bytealg.MakeNoZero"], apart := false, narrowed := true }
def SignBackUptoSaid : Prop := signBackUptoRow.holds Try.pinned (OpenSpec.upto signBackSpec)

/-- 'gaugerlaw01.SignExact', WHERE WHAT IT READS IS OF BULK AT MOST 1048576: true; the input reads as it did. -/
def signExactUptoRow : OpenClaim := { program := "ytdnkgnlkipaboaa", sum := "ff2a131a77fd2f9f39088ccb9198aac5ce691749f4cffdbac4bd2ec6f2086d51", func := "gauger/gaugerlaw01.SignExact", spec := "signExact", inPlace := ["internal/abi.NoEscape", "internal/bytealg.MakeNoZero"], apart := false, narrowed := true }
def SignExactUptoSaid : Prop := signExactUptoRow.holds Try.pinned (OpenSpec.upto signExactSpec)

/-- 'gaugerlaw01.SignOrder', WHERE WHAT IT READS IS OF BULK AT MOST 1048576: true; the input reads as it did. -/
def signOrderUptoRow : OpenClaim := { program := "ytdnkgnlkipaboaa", sum := "ff2a131a77fd2f9f39088ccb9198aac5ce691749f4cffdbac4bd2ec6f2086d51", func := "gauger/gaugerlaw01.SignOrder", spec := "signOrder", inPlace := ["internal/abi.NoEscape", "internal/bytealg.MakeNoZero"], apart := false, narrowed := true }
def SignOrderUptoSaid : Prop := signOrderUptoRow.holds Try.pinned (OpenSpec.upto signOrderSpec)

end Rows
end Go.Proofs.Ytdnkgnlkipaboaa
