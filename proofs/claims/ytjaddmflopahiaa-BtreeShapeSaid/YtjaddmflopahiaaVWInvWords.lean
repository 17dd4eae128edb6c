/- Print words that this claim needs, out of YtjaddmflopahiaaWInvWords. -/
import Derived.Test.YtjaddmflopahiaaVWInv
import Derived.Test.YtjaddmflopahiaaVWFootNe
namespace Go.Proofs.YtjaddmflopahiaaW.PrintWords
open Go.RowKit
end Go.Proofs.YtjaddmflopahiaaW.PrintWords
namespace Go.Proofs.YtjaddmflopahiaaW.PrintLast
section
variable {ops : Array Oper} {a : Act} {o og : Oper} {g : Nat} {t : Tmp} {u : Bool}
end
end Go.Proofs.YtjaddmflopahiaaW.PrintLast
