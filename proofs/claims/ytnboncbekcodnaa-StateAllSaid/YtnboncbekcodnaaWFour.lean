-- Words of the kit's print: those that the texts which stand on them name.
import Derived.Test.YtnboncbekcodnaaWTab
namespace Go.Proofs.YtnboncbekcodnaaW.PrintLast
section
variable {P : Program} {ops : Array Oper} {Q : Exit → Act → World → Prop} {md : Region.Mode} {S : World → Prop} {ds : List Nat} {T : Bool × List (List Nat × List Nat)}
end
end Go.Proofs.YtnboncbekcodnaaW.PrintLast
