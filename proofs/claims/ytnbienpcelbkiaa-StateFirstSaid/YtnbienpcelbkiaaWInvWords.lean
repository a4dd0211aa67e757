-- Words of the kit's print: those that the texts which stand on them name.
import Derived.Test.YtnbienpcelbkiaaWInv
import Derived.Test.YtnbienpcelbkiaaWFootNe
namespace Go.Proofs.YtnbienpcelbkiaaW.PrintWords
open Go.RowKit
end Go.Proofs.YtnbienpcelbkiaaW.PrintWords
namespace Go.Proofs.YtnbienpcelbkiaaW.PrintLast
section
variable {ops : Array Oper} {a : Act} {o og : Oper} {g : Nat} {t : Tmp} {u : Bool}
end
end Go.Proofs.YtnbienpcelbkiaaW.PrintLast
