-- Words of the kit's print: those that the texts which stand on them name.
import Derived.Test.YtnboncbekcodnaaWInv
import Derived.Test.YtnboncbekcodnaaWFootNe
namespace Go.Proofs.YtnboncbekcodnaaW.PrintWords
open Go.RowKit
end Go.Proofs.YtnboncbekcodnaaW.PrintWords
namespace Go.Proofs.YtnboncbekcodnaaW.PrintLast
section
variable {ops : Array Oper} {a : Act} {o og : Oper} {g : Nat} {t : Tmp} {u : Bool}
end
end Go.Proofs.YtnboncbekcodnaaW.PrintLast
