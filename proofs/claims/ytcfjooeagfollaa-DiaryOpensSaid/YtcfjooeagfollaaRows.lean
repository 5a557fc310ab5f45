/-
  No cell of these rows narrows 'for every input' (looked for: loops, veiled, ifaces, maps, wideKeys, modest, calm, conditions, laid).
  DERIVED. THE GIVEN ROWS OF THIS SEAT. 10 by the template 'for every input the law returns true; each argument reads behind the call as it read before'; 0 by the template 'total and deterministic' (their statements: YtcfjooeagfollaaTotals.lean).
  GIVEN WITH THE SEED: the statements are not yours to turn. If you find one false, say at which input.
  Laid BY PROGRAM, IN A SANDBOX (cutbox-rows.mjs): the forced cells as the released guide's own fill.sh prints them over the translation df475a011b24e99d… (all of the seat's roots in one cut). By AI agents, Wed Nov 11 2026. No macro, syntax, notation, axiom, sorry.
-/
import Derived.Test.YtcfjooeagfollaaChecked
import GoSem.Claim
import GoSem.ClaimJoined
import GoSem.ClaimMapViews
import Derived.JoinedTies
import Derived.KernelRfl
namespace Go.Proofs.Ytcfjooeagfollaa
/- THE CELL 'sum', in the pinned program and in every row, IS THE sha256 OF THE DUMP (.gsa) THAT YtcfjooeagfollaaProg.lean LOADS. Nothing in Lean hashes anything: it is a label: what it is worth is what the hold of that sum in a sandbox is worth. -/
noncomputable def Try.pinned : Pinned := { name := "ytcfjooeagfollaa", sum := "df475a011b24e99d319d31aff87f5691daae6f4f8ff03fa727dc15e9a8deb1bc", checked := Try.checked }
namespace Rows
def none {H : Type} : Left H := { results := [], args := [] }

/-- 'gaugerlaw17.PlanTotals': WHATEVER THE INPUT: true; the input reads as it did. -/
def planTotalsSpec : ChangeSpec := { name := "planTotals", fn := fun _ => fun
  | [d1, d2, d3, d4] => { results := [.lit (.bool true)], args := [d1, d2, d3, d4] }
  | _ => none }
def planTotalsRow : OpenClaim := { program := "ytcfjooeagfollaa", sum := "df475a011b24e99d319d31aff87f5691daae6f4f8ff03fa727dc15e9a8deb1bc", func := "gauger/gaugerlaw17.PlanTotals", spec := "planTotals", inPlace := ["internal/abi.NoEscape", "internal/bytealg.MakeNoZero", "math/bits.Add64"], unfollowed := true, recurses := true, apart := false }
def PlanTotalsSaid : Prop := planTotalsRow.holds Try.pinned (OpenSpec.ofChange planTotalsSpec)

/-- ITS FALSE NEIGHBOUR: 'it returns false'. Refute it at one input. -/
def planTotalsWrong : ChangeSpec := { name := "planTotals", fn := fun _ => fun
  | [d1, d2, d3, d4] => { results := [.lit (.bool false)], args := [d1, d2, d3, d4] }
  | _ => none }
def PlanTotalsWrongFalsely : Prop := planTotalsRow.holds Try.pinned (OpenSpec.ofChange planTotalsWrong)

/-- 'gaugerlaw17.PlanSums': WHATEVER THE INPUT: true; the input reads as it did. -/
def planSumsSpec : ChangeSpec := { name := "planSums", fn := fun _ => fun
  | [d1, d2, d3] => { results := [.lit (.bool true)], args := [d1, d2, d3] }
  | _ => none }
def planSumsRow : OpenClaim := { program := "ytcfjooeagfollaa", sum := "df475a011b24e99d319d31aff87f5691daae6f4f8ff03fa727dc15e9a8deb1bc", func := "gauger/gaugerlaw17.PlanSums", spec := "planSums", inPlace := ["internal/abi.NoEscape", "internal/bytealg.MakeNoZero", "math/bits.Add64"], unfollowed := true, recurses := true, apart := false }
def PlanSumsSaid : Prop := planSumsRow.holds Try.pinned (OpenSpec.ofChange planSumsSpec)

/-- ITS FALSE NEIGHBOUR: 'it returns false'. Refute it at one input. -/
def planSumsWrong : ChangeSpec := { name := "planSums", fn := fun _ => fun
  | [d1, d2, d3] => { results := [.lit (.bool false)], args := [d1, d2, d3] }
  | _ => none }
def PlanSumsWrongFalsely : Prop := planSumsRow.holds Try.pinned (OpenSpec.ofChange planSumsWrong)

/-- 'gaugerlaw07.DiaryOpens': WHATEVER THE INPUT: true; the input reads as it did. -/
def diaryOpensSpec : ChangeSpec := { name := "diaryOpens", fn := fun _ => fun
  | [d] => { results := [.lit (.bool true)], args := [d] }
  | _ => none }
def diaryOpensRow : OpenClaim := { program := "ytcfjooeagfollaa", sum := "df475a011b24e99d319d31aff87f5691daae6f4f8ff03fa727dc15e9a8deb1bc", func := "gauger/gaugerlaw07.DiaryOpens", spec := "diaryOpens", inPlace := ["internal/abi.NoEscape"], unfollowed := true, recurses := true, apart := false }
def DiaryOpensSaid : Prop := diaryOpensRow.holds Try.pinned (OpenSpec.ofChange diaryOpensSpec)

/-- ITS FALSE NEIGHBOUR: 'it returns false'. Refute it at one input. -/
def diaryOpensWrong : ChangeSpec := { name := "diaryOpens", fn := fun _ => fun
  | [d] => { results := [.lit (.bool false)], args := [d] }
  | _ => none }
def DiaryOpensWrongFalsely : Prop := diaryOpensRow.holds Try.pinned (OpenSpec.ofChange diaryOpensWrong)

/-- 'gaugerlaw17.PlanBack': WHATEVER THE INPUT: true; the input reads as it did. -/
def planBackSpec : ChangeSpec := { name := "planBack", fn := fun _ => fun
  | [d1, d2, d3, d4, d5] => { results := [.lit (.bool true)], args := [d1, d2, d3, d4, d5] }
  | _ => none }
def planBackRow : OpenClaim := { program := "ytcfjooeagfollaa", sum := "df475a011b24e99d319d31aff87f5691daae6f4f8ff03fa727dc15e9a8deb1bc", func := "gauger/gaugerlaw17.PlanBack", spec := "planBack", inPlace := ["internal/abi.NoEscape", "internal/bytealg.MakeNoZero"], unfollowed := true, recurses := true, apart := false }
def PlanBackSaid : Prop := planBackRow.holds Try.pinned (OpenSpec.ofChange planBackSpec)

/-- ITS FALSE NEIGHBOUR: 'it returns false'. Refute it at one input. -/
def planBackWrong : ChangeSpec := { name := "planBack", fn := fun _ => fun
  | [d1, d2, d3, d4, d5] => { results := [.lit (.bool false)], args := [d1, d2, d3, d4, d5] }
  | _ => none }
def PlanBackWrongFalsely : Prop := planBackRow.holds Try.pinned (OpenSpec.ofChange planBackWrong)

/-- 'gaugerlaw26.BillExact': WHATEVER THE INPUT: true; the input reads as it did. -/
def billExactSpec : ChangeSpec := { name := "billExact", fn := fun _ => fun
  | [d1, d2] => { results := [.lit (.bool true)], args := [d1, d2] }
  | _ => none }
def billExactRow : OpenClaim := { program := "ytcfjooeagfollaa", sum := "df475a011b24e99d319d31aff87f5691daae6f4f8ff03fa727dc15e9a8deb1bc", func := "gauger/gaugerlaw26.BillExact", spec := "billExact", inPlace := ["internal/abi.NoEscape", "internal/bytealg.MakeNoZero"], apart := false }
def BillExactSaid : Prop := billExactRow.holds Try.pinned (OpenSpec.ofChange billExactSpec)

/-- ITS FALSE NEIGHBOUR: 'it returns false'. Refute it at one input. -/
def billExactWrong : ChangeSpec := { name := "billExact", fn := fun _ => fun
  | [d1, d2] => { results := [.lit (.bool false)], args := [d1, d2] }
  | _ => none }
def BillExactWrongFalsely : Prop := billExactRow.holds Try.pinned (OpenSpec.ofChange billExactWrong)

/-- 'gaugerlaw26.BillBack': WHATEVER THE INPUT: true; the input reads as it did. -/
def billBackSpec : ChangeSpec := { name := "billBack", fn := fun _ => fun
  | [d1, d2, d3] => { results := [.lit (.bool true)], args := [d1, d2, d3] }
  | _ => none }
def billBackRow : OpenClaim := { program := "ytcfjooeagfollaa", sum := "df475a011b24e99d319d31aff87f5691daae6f4f8ff03fa727dc15e9a8deb1bc", func := "gauger/gaugerlaw26.BillBack", spec := "billBack", inPlace := ["internal/abi.NoEscape", "internal/bytealg.MakeNoZero"], apart := false }
def BillBackSaid : Prop := billBackRow.holds Try.pinned (OpenSpec.ofChange billBackSpec)

/-- ITS FALSE NEIGHBOUR: 'it returns false'. Refute it at one input. -/
def billBackWrong : ChangeSpec := { name := "billBack", fn := fun _ => fun
  | [d1, d2, d3] => { results := [.lit (.bool false)], args := [d1, d2, d3] }
  | _ => none }
def BillBackWrongFalsely : Prop := billBackRow.holds Try.pinned (OpenSpec.ofChange billBackWrong)

/-- 'gaugerlaw26.BillMany': WHATEVER THE INPUT: true; the input reads as it did. -/
def billManySpec : ChangeSpec := { name := "billMany", fn := fun _ => fun
  | [d1, d2] => { results := [.lit (.bool true)], args := [d1, d2] }
  | _ => none }
def billManyRow : OpenClaim := { program := "ytcfjooeagfollaa", sum := "df475a011b24e99d319d31aff87f5691daae6f4f8ff03fa727dc15e9a8deb1bc", func := "gauger/gaugerlaw26.BillMany", spec := "billMany", inPlace := ["internal/abi.NoEscape", "internal/bytealg.MakeNoZero"], apart := false }
def BillManySaid : Prop := billManyRow.holds Try.pinned (OpenSpec.ofChange billManySpec)

/-- ITS FALSE NEIGHBOUR: 'it returns false'. Refute it at one input. -/
def billManyWrong : ChangeSpec := { name := "billMany", fn := fun _ => fun
  | [d1, d2] => { results := [.lit (.bool false)], args := [d1, d2] }
  | _ => none }
def BillManyWrongFalsely : Prop := billManyRow.holds Try.pinned (OpenSpec.ofChange billManyWrong)

/-- 'gaugerlaw07.DiaryExact': WHATEVER THE INPUT: true; the input reads as it did. -/
def diaryExactSpec : ChangeSpec := { name := "diaryExact", fn := fun _ => fun
  | [d1, d2] => { results := [.lit (.bool true)], args := [d1, d2] }
  | _ => none }
def diaryExactRow : OpenClaim := { program := "ytcfjooeagfollaa", sum := "df475a011b24e99d319d31aff87f5691daae6f4f8ff03fa727dc15e9a8deb1bc", func := "gauger/gaugerlaw07.DiaryExact", spec := "diaryExact", inPlace := ["internal/abi.NoEscape"], unfollowed := true, recurses := true, apart := false }
def DiaryExactSaid : Prop := diaryExactRow.holds Try.pinned (OpenSpec.ofChange diaryExactSpec)

/-- ITS FALSE NEIGHBOUR: 'it returns false'. Refute it at one input. -/
def diaryExactWrong : ChangeSpec := { name := "diaryExact", fn := fun _ => fun
  | [d1, d2] => { results := [.lit (.bool false)], args := [d1, d2] }
  | _ => none }
def DiaryExactWrongFalsely : Prop := diaryExactRow.holds Try.pinned (OpenSpec.ofChange diaryExactWrong)

/-- 'gaugerlaw07.DiaryHolds': WHATEVER THE INPUT: true; the input reads as it did. -/
def diaryHoldsSpec : ChangeSpec := { name := "diaryHolds", fn := fun _ => fun
  | [d1, d2, d3] => { results := [.lit (.bool true)], args := [d1, d2, d3] }
  | _ => none }
def diaryHoldsRow : OpenClaim := { program := "ytcfjooeagfollaa", sum := "df475a011b24e99d319d31aff87f5691daae6f4f8ff03fa727dc15e9a8deb1bc", func := "gauger/gaugerlaw07.DiaryHolds", spec := "diaryHolds", inPlace := ["internal/abi.NoEscape"], unfollowed := true, recurses := true, apart := false }
def DiaryHoldsSaid : Prop := diaryHoldsRow.holds Try.pinned (OpenSpec.ofChange diaryHoldsSpec)

/-- ITS FALSE NEIGHBOUR: 'it returns false'. Refute it at one input. -/
def diaryHoldsWrong : ChangeSpec := { name := "diaryHolds", fn := fun _ => fun
  | [d1, d2, d3] => { results := [.lit (.bool false)], args := [d1, d2, d3] }
  | _ => none }
def DiaryHoldsWrongFalsely : Prop := diaryHoldsRow.holds Try.pinned (OpenSpec.ofChange diaryHoldsWrong)

/-- 'gaugerlaw07.DiaryKeeps': WHATEVER THE INPUT: true; the input reads as it did. -/
def diaryKeepsSpec : ChangeSpec := { name := "diaryKeeps", fn := fun _ => fun
  | [d1, d2, d3] => { results := [.lit (.bool true)], args := [d1, d2, d3] }
  | _ => none }
def diaryKeepsRow : OpenClaim := { program := "ytcfjooeagfollaa", sum := "df475a011b24e99d319d31aff87f5691daae6f4f8ff03fa727dc15e9a8deb1bc", func := "gauger/gaugerlaw07.DiaryKeeps", spec := "diaryKeeps", inPlace := ["internal/abi.NoEscape"], unfollowed := true, recurses := true, apart := false }
def DiaryKeepsSaid : Prop := diaryKeepsRow.holds Try.pinned (OpenSpec.ofChange diaryKeepsSpec)

/-- ITS FALSE NEIGHBOUR: 'it returns false'. Refute it at one input. -/
def diaryKeepsWrong : ChangeSpec := { name := "diaryKeeps", fn := fun _ => fun
  | [d1, d2, d3] => { results := [.lit (.bool false)], args := [d1, d2, d3] }
  | _ => none }
def DiaryKeepsWrongFalsely : Prop := diaryKeepsRow.holds Try.pinned (OpenSpec.ofChange diaryKeepsWrong)

/- THE SECOND FORM. 'bulk': how many values and letters a reading holds, each counted each time it is reached (what is shared counts as often as it is met; a slice's spare places count too). A statement '..UptoSaid' is the law's where the arguments, and the package variables that the reading takes, are together of bulk at most 1048576: NARROWER than '..Said'. Prove '..Said' where nothing that the law and all that it calls make is longer than what came in: it says more and counts as full. Else prove '..UptoSaid'. A law counts once. -/
mutual
def uptoBulk {H : Type} : DataW H → Nat
  | .lit (.string bytes) => bytes.length + 1
  | .lit _ => 1
  | .nil => 1
  | .ptr d => uptoBulk d + 1
  | .slice elems spare => uptoBulkAll elems + uptoBulkAll spare + 1
  | .agg parts => uptoBulkAll parts + 1
  | .iface _ d => uptoBulk d + 1
  | .map entries => uptoBulkEntries entries + 1
  | .held _ => 1
def uptoBulkAll {H : Type} : List (DataW H) → Nat
  | [] => 0
  | d :: r => uptoBulk d + uptoBulkAll r
def uptoBulkEntries {H : Type} : List (Lit × DataW H) → Nat
  | [] => 0
  | x :: r => uptoBulkEntry x + uptoBulkEntries r
def uptoBulkEntry {H : Type} : Lit × DataW H → Nat
  | (.string bytes, d) => bytes.length + uptoBulk d + 1
  | (_, d) => uptoBulk d + 1
 end
def uptoSmall : (H : Type) → List (DataW H) → Bool := fun _ ds => decide (uptoBulkAll ds ≤ 1048576)
def OpenSpec.upto (s : _root_.Go.ChangeSpec) : _root_.Go.OpenSpec := { _root_.Go.OpenSpec.ofChange s with cond := some uptoSmall }

/-- 'gaugerlaw17.PlanTotals', WHERE WHAT IT READS IS OF BULK AT MOST 1048576: true; the input reads as it did. -/
def planTotalsUptoRow : OpenClaim := { program := "ytcfjooeagfollaa", sum := "df475a011b24e99d319d31aff87f5691daae6f4f8ff03fa727dc15e9a8deb1bc", func := "gauger/gaugerlaw17.PlanTotals", spec := "planTotals", inPlace := ["internal/abi.NoEscape", "internal/bytealg.MakeNoZero", "math/bits.Add64"], unfollowed := true, recurses := true, apart := false, narrowed := true }
def PlanTotalsUptoSaid : Prop := planTotalsUptoRow.holds Try.pinned (OpenSpec.upto planTotalsSpec)

/-- 'gaugerlaw17.PlanSums', WHERE WHAT IT READS IS OF BULK AT MOST 1048576: true; the input reads as it did. -/
def planSumsUptoRow : OpenClaim := { program := "ytcfjooeagfollaa", sum := "df475a011b24e99d319d31aff87f5691daae6f4f8ff03fa727dc15e9a8deb1bc", func := "gauger/gaugerlaw17.PlanSums", spec := "planSums", inPlace := ["internal/abi.NoEscape", "internal/bytealg.MakeNoZero", "math/bits.Add64"], unfollowed := true, recurses := true, apart := false, narrowed := true }
def PlanSumsUptoSaid : Prop := planSumsUptoRow.holds Try.pinned (OpenSpec.upto planSumsSpec)

/-- 'gaugerlaw07.DiaryOpens', WHERE WHAT IT READS IS OF BULK AT MOST 1048576: true; the input reads as it did. -/
def diaryOpensUptoRow : OpenClaim := { program := "ytcfjooeagfollaa", sum := "df475a011b24e99d319d31aff87f5691daae6f4f8ff03fa727dc15e9a8deb1bc", func := "gauger/gaugerlaw07.DiaryOpens", spec := "diaryOpens", inPlace := ["internal/abi.NoEscape"], unfollowed := true, recurses := true, apart := false, narrowed := true }
def DiaryOpensUptoSaid : Prop := diaryOpensUptoRow.holds Try.pinned (OpenSpec.upto diaryOpensSpec)

/-- 'gaugerlaw17.PlanBack', WHERE WHAT IT READS IS OF BULK AT MOST 1048576: true; the input reads as it did. -/
def planBackUptoRow : OpenClaim := { program := "ytcfjooeagfollaa", sum := "df475a011b24e99d319d31aff87f5691daae6f4f8ff03fa727dc15e9a8deb1bc", func := "gauger/gaugerlaw17.PlanBack", spec := "planBack", inPlace := ["internal/abi.NoEscape", "internal/bytealg.MakeNoZero"], unfollowed := true, recurses := true, apart := false, narrowed := true }
def PlanBackUptoSaid : Prop := planBackUptoRow.holds Try.pinned (OpenSpec.upto planBackSpec)

/-- 'gaugerlaw26.BillExact', WHERE WHAT IT READS IS OF BULK AT MOST 1048576: true; the input reads as it did. -/
def billExactUptoRow : OpenClaim := { program := "ytcfjooeagfollaa", sum := "df475a011b24e99d319d31aff87f5691daae6f4f8ff03fa727dc15e9a8deb1bc", func := "gauger/gaugerlaw26.BillExact", spec := "billExact", inPlace := ["internal/abi.NoEscape", "internal/bytealg.MakeNoZero"], apart := false, narrowed := true }
def BillExactUptoSaid : Prop := billExactUptoRow.holds Try.pinned (OpenSpec.upto billExactSpec)

/-- 'gaugerlaw26.BillBack', WHERE WHAT IT READS IS OF BULK AT MOST 1048576: true; the input reads as it did. -/
def billBackUptoRow : OpenClaim := { program := "ytcfjooeagfollaa", sum := "df475a011b24e99d319d31aff87f5691daae6f4f8ff03fa727dc15e9a8deb1bc", func := "gauger/gaugerlaw26.BillBack", spec := "billBack", inPlace := ["internal/abi.NoEscape", "internal/bytealg.MakeNoZero"], apart := false, narrowed := true }
def BillBackUptoSaid : Prop := billBackUptoRow.holds Try.pinned (OpenSpec.upto billBackSpec)

/-- 'gaugerlaw26.BillMany', WHERE WHAT IT READS IS OF BULK AT MOST 1048576: true; the input reads as it did. -/
def billManyUptoRow : OpenClaim := { program := "ytcfjooeagfollaa", sum := "df475a011b24e99d319d31aff87f5691daae6f4f8ff03fa727dc15e9a8deb1bc", func := "gauger/gaugerlaw26.BillMany", spec := "billMany", inPlace := ["internal/abi.NoEscape", "internal/bytealg.MakeNoZero"], apart := false, narrowed := true }
def BillManyUptoSaid : Prop := billManyUptoRow.holds Try.pinned (OpenSpec.upto billManySpec)

/-- 'gaugerlaw07.DiaryExact', WHERE WHAT IT READS IS OF BULK AT MOST 1048576: true; the input reads as it did. -/
def diaryExactUptoRow : OpenClaim := { program := "ytcfjooeagfollaa", sum := "df475a011b24e99d319d31aff87f5691daae6f4f8ff03fa727dc15e9a8deb1bc", func := "gauger/gaugerlaw07.DiaryExact", spec := "diaryExact", inPlace := ["internal/abi.NoEscape"], unfollowed := true, recurses := true, apart := false, narrowed := true }
def DiaryExactUptoSaid : Prop := diaryExactUptoRow.holds Try.pinned (OpenSpec.upto diaryExactSpec)

/-- 'gaugerlaw07.DiaryHolds', WHERE WHAT IT READS IS OF BULK AT MOST 1048576: true; the input reads as it did. -/
def diaryHoldsUptoRow : OpenClaim := { program := "ytcfjooeagfollaa", sum := "df475a011b24e99d319d31aff87f5691daae6f4f8ff03fa727dc15e9a8deb1bc", func := "gauger/gaugerlaw07.DiaryHolds", spec := "diaryHolds", inPlace := ["internal/abi.NoEscape"], unfollowed := true, recurses := true, apart := false, narrowed := true }
def DiaryHoldsUptoSaid : Prop := diaryHoldsUptoRow.holds Try.pinned (OpenSpec.upto diaryHoldsSpec)

/-- 'gaugerlaw07.DiaryKeeps', WHERE WHAT IT READS IS OF BULK AT MOST 1048576: true; the input reads as it did. -/
def diaryKeepsUptoRow : OpenClaim := { program := "ytcfjooeagfollaa", sum := "df475a011b24e99d319d31aff87f5691daae6f4f8ff03fa727dc15e9a8deb1bc", func := "gauger/gaugerlaw07.DiaryKeeps", spec := "diaryKeeps", inPlace := ["internal/abi.NoEscape"], unfollowed := true, recurses := true, apart := false, narrowed := true }
def DiaryKeepsUptoSaid : Prop := diaryKeepsUptoRow.holds Try.pinned (OpenSpec.upto diaryKeepsSpec)

end Rows
end Go.Proofs.Ytcfjooeagfollaa
