-- Words of the kit's print: those that the texts which stand on them name.
import Derived.Test.YtclpppejabfbbaaWInv
import Derived.Test.YtclpppejabfbbaaWNEv
namespace Go.Proofs.YtclpppejabfbbaaW.PrintWords
open Go.RowKit
theorem own_apart {v1 v2 : Value} {n : Nat} (hlt : ∀ k, v1.ownBlock = some k → k < n) (hge : ∀ k, v2.ownBlock = some k → n ≤ k) : v1.ownBlock = none ∨ v1.ownBlock ≠ v2.ownBlock := by
  cases h : v1.ownBlock with
  | none => exact .inl rfl
  | some k => exact .inr (fun e => by have := hlt k h; have := hge k e.symm; omega)
end Go.Proofs.YtclpppejabfbbaaW.PrintWords
namespace Go.Proofs.YtclpppejabfbbaaW.PrintLast
section
variable {ops : Array Oper} {a : Act} {o og : Oper} {g : Nat} {t : Tmp} {u : Bool}
end
end Go.Proofs.YtclpppejabfbbaaW.PrintLast
