/- Print words that this claim needs, out of YtjaddmflopahiaaWGuard. -/
import Derived.Test.YtjaddmflopahiaaVWWords
namespace Go.Proofs.YtjaddmflopahiaaW.PrintWords
open Go.RowKit
section
variable {P : Program} {ops : Array Oper} {rest : List Oper} {o : Oper} {a : Act} {Q : Exit → Act → World → Prop} {W : World}
end
end Go.Proofs.YtjaddmflopahiaaW.PrintWords
