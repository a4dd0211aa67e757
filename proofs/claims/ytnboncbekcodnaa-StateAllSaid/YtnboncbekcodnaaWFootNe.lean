-- Words of the kit's print: those that the texts which stand on them name.
import Derived.Test.YtnboncbekcodnaaWN
namespace Go.Proofs.YtnboncbekcodnaaW.PrintWords
open Go.RowKit
namespace Kd
section
variable {α : Type} {d : Kd α} {W : World} {g n : Nat} {S ok : Nat → Prop} {A : Option Addr} {ad : Addr} {xs : List α}
end
end Kd
end Go.Proofs.YtnboncbekcodnaaW.PrintWords
