-- Words of the kit's print: those that the texts which stand on them name.
import Derived.Test.YtnbienpcelbkiaaWN
namespace Go.Proofs.YtnbienpcelbkiaaW.PrintWords
open Go.RowKit
namespace Kd
section
variable {α : Type} {d : Kd α} {W : World} {g n : Nat} {S ok : Nat → Prop} {A : Option Addr} {ad : Addr} {xs : List α}
end
end Kd
end Go.Proofs.YtnbienpcelbkiaaW.PrintWords
