/- Print words that this claim needs, out of YtnojcnmnkkgkgaaWFour. -/
import Derived.Test.YtnojcnmnkkgkgaaVWTab
namespace Go.Proofs.YtnojcnmnkkgkgaaW.PrintLast
section
variable {P : Program} {ops : Array Oper} {Q : Exit → Act → World → Prop} {md : Region.Mode} {S : World → Prop} {ds : List Nat} {T : Bool × List (List Nat × List Nat)}
end
end Go.Proofs.YtnojcnmnkkgkgaaW.PrintLast
