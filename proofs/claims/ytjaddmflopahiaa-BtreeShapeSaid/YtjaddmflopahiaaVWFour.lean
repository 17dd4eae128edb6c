/- Print words that this claim needs, out of YtjaddmflopahiaaWFour. -/
import Derived.Test.YtjaddmflopahiaaVWTab
namespace Go.Proofs.YtjaddmflopahiaaW.PrintLast
section
variable {P : Program} {ops : Array Oper} {Q : Exit → Act → World → Prop} {md : Region.Mode} {S : World → Prop} {ds : List Nat} {T : Bool × List (List Nat × List Nat)}
end
end Go.Proofs.YtjaddmflopahiaaW.PrintLast
