/- Print words that this claim needs, out of YtnojcnmnkkgkgaaWInvWords. -/
import Derived.Test.YtnojcnmnkkgkgaaVWInv
import Derived.Test.YtnojcnmnkkgkgaaVWFootNe
namespace Go.Proofs.YtnojcnmnkkgkgaaW.PrintWords
open Go.RowKit
end Go.Proofs.YtnojcnmnkkgkgaaW.PrintWords
namespace Go.Proofs.YtnojcnmnkkgkgaaW.PrintLast
section
variable {ops : Array Oper} {a : Act} {o og : Oper} {g : Nat} {t : Tmp} {u : Bool}
end
end Go.Proofs.YtnojcnmnkkgkgaaW.PrintLast
