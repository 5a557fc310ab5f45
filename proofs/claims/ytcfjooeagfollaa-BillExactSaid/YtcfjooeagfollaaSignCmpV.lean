/- The order of values, where the program has no sign.Compare. -/
import Derived.Test.YtcfjooeagfollaaSignRead
import Derived.Test.YtcfjooeagfollaaOrd
import Derived.Lib.Small
namespace Go.Proofs.Ytcfjooeagfollaa.Sign
open Go.RowKit Go.Proofs.Ytcfjooeagfollaa.Mem Go.Proofs.Ytcfjooeagfollaa.Bytes Go.Proofs.Ytcfjooeagfollaa.Num Go.Proofs.Ytcfjooeagfollaa.Ord
set_option linter.unusedSimpArgs false
set_option linter.unusedVariables false
set_option maxRecDepth 20000

def orL : List Int → Int
  | [] => 0
  | a :: l => if a = 0 then orL l else a
def cmpG (v u : V) : Int := orL [Lib.compareInt v.k u.k, Lib.compareInt v.n u.n, cmpB v.s.data.toList u.s.data.toList]
def cmpV (v u : V) : Int := if v.good = true ∧ u.good = true then cmpG v u else 0
end Go.Proofs.Ytcfjooeagfollaa.Sign
