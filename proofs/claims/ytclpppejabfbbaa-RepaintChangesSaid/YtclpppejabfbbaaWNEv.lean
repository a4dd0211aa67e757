/- Texts of this claim, one behind the other: each begins with its own remark. -/
import Derived.Test.YtclpppejabfbbaaWN
-- Words of the kit's print: those that the texts which stand on them name.
namespace Go.Proofs.YtclpppejabfbbaaW.PrintWords
open Go.RowKit
namespace Kd
section
variable {α : Type} {d : Kd α} {W : World} {g n : Nat} {S ok : Nat → Prop} {A : Option Addr} {ad : Addr} {xs : List α}
end
end Kd
end Go.Proofs.YtclpppejabfbbaaW.PrintWords
-- Words of the kit's print: those that the texts which stand on them name.
namespace Go.Proofs.YtclpppejabfbbaaW.PrintWords
open Go.RowKit
section
variable {w w' u : World} {m B g : Nat} {o : Obj} {row : Option Nat} {S : Nat → Prop} {a : Addr} {v : Value}
end
namespace Kd
section
variable {α : Type} {d : Kd α} {e base n m : Nat} {ok : Nat → Prop} {w w' : World} {v : Value} {A : Option Addr} {xs : List α}
end
end Kd
end Go.Proofs.YtclpppejabfbbaaW.PrintWords
-- Words of the kit's print: those that the texts which stand on them name.
namespace Go.Proofs.YtclpppejabfbbaaW.PrintWords
open Go.RowKit
namespace Kd
section
variable {α : Type} {d : Kd α} {e base n cap g : Nat} {ok ok' okp : Nat → Prop} {w w1 W : World} {v v1 : Value} {xs ys : List α}
end
section
variable {P : Program} {ops : Array Oper} {rest : List Oper} {o : Oper} {a : Act} {Q : Exit → Act → World → Prop} {Kc : Act → World → Prop} {α : Type}
end
end Kd
end Go.Proofs.YtclpppejabfbbaaW.PrintWords
