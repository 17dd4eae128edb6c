/- Print words that this claim needs, out of YtnojcnmnkkgkgaaWTab. -/
import Derived.Test.YtnojcnmnkkgkgaaVWLast
import Derived.Test.YtnojcnmnkkgkgaaVWWords
namespace Go.Proofs.YtnojcnmnkkgkgaaW.PrintLast
open Go.Proofs.YtnojcnmnkkgkgaaW.PrintWords (Aside0)
section
variable {md : Region.Mode} {ops : Array Oper} {T : Bool × List (List Nat × List Nat)} {l l' li lj lk : Array Bool} {ds : List Nat} {i j k : Nat}
end
end Go.Proofs.YtnojcnmnkkgkgaaW.PrintLast
