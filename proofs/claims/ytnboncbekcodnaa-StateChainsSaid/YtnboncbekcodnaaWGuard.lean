-- Words of the kit's print: those that the texts which stand on them name.
import Derived.Test.YtnboncbekcodnaaWWords
namespace Go.Proofs.YtnboncbekcodnaaW.PrintWords
open Go.RowKit
section
variable {P : Program} {ops : Array Oper} {rest : List Oper} {o : Oper} {a : Act} {Q : Exit → Act → World → Prop} {W : World}
end
end Go.Proofs.YtnboncbekcodnaaW.PrintWords
