/- Print words that this claim needs, out of YtnojcnmnkkgkgaaWEqStruct. -/
import Derived.Test.YtnojcnmnkkgkgaaVWWords
import Derived.Laws.StructEq
namespace Go.Proofs.YtnojcnmnkkgkgaaW.PrintWords
open Go.RowKit
section
variable {P : Program} {d : Nat} {xs ys : Array Value} {f : Field} {fs : List Field} {a b : Value} {r s : Bool} {w : World}
end
end Go.Proofs.YtnojcnmnkkgkgaaW.PrintWords
