-- Words of the kit's print: those that the texts which stand on them name.
import Derived.Test.YtnboncbekcodnaaWLast
import Derived.Test.YtnboncbekcodnaaWWords
namespace Go.Proofs.YtnboncbekcodnaaW.PrintLast
open Go.Proofs.YtnboncbekcodnaaW.PrintWords (Aside0)
section
variable {md : Region.Mode} {ops : Array Oper} {T : Bool × List (List Nat × List Nat)} {l l' li lj lk : Array Bool} {ds : List Nat} {i j k : Nat}
end
end Go.Proofs.YtnboncbekcodnaaW.PrintLast
