/- Print words that this claim needs, out of YtkcjcdkmdooofaaWInvWords. -/
import Derived.Test.YtkcjcdkmdooofaaVWInv
import Derived.Test.YtkcjcdkmdooofaaVWFootNe
namespace Go.Proofs.YtkcjcdkmdooofaaW.PrintWords
open Go.RowKit
end Go.Proofs.YtkcjcdkmdooofaaW.PrintWords
namespace Go.Proofs.YtkcjcdkmdooofaaW.PrintLast
section
variable {ops : Array Oper} {a : Act} {o og : Oper} {g : Nat} {t : Tmp} {u : Bool}
end
end Go.Proofs.YtkcjcdkmdooofaaW.PrintLast
