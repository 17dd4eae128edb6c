/- Print words that this claim needs, out of YtkcjcdkmdooofaaGreatWInvWords. -/
import Derived.Test.YtkcjcdkmdooofaaGreatVWInv
import Derived.Test.YtkcjcdkmdooofaaGreatVWFootNe
namespace Go.Proofs.YtkcjcdkmdooofaaGreatW.PrintWords
open Go.RowKit
end Go.Proofs.YtkcjcdkmdooofaaGreatW.PrintWords
namespace Go.Proofs.YtkcjcdkmdooofaaGreatW.PrintLast
section
variable {ops : Array Oper} {a : Act} {o og : Oper} {g : Nat} {t : Tmp} {u : Bool}
end
end Go.Proofs.YtkcjcdkmdooofaaGreatW.PrintLast
