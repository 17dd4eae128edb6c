/- Print words that this claim needs, out of YtkcjcdkmdooofaaGreatWFour. -/
import Derived.Test.YtkcjcdkmdooofaaGreatVWTab
namespace Go.Proofs.YtkcjcdkmdooofaaGreatW.PrintLast
section
variable {P : Program} {ops : Array Oper} {Q : Exit → Act → World → Prop} {md : Region.Mode} {S : World → Prop} {ds : List Nat} {T : Bool × List (List Nat × List Nat)}
end
end Go.Proofs.YtkcjcdkmdooofaaGreatW.PrintLast
