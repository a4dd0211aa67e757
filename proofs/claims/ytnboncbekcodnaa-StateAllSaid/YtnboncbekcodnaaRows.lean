/-
  No cell of these rows narrows 'for every input' (looked for: loops, veiled, ifaces, maps, wideKeys, modest, calm, conditions, laid).
  DERIVED. THE GIVEN ROWS OF THIS SEAT. 4 by the template 'for every input the law returns true; each argument reads behind the call as it read before'; 0 by the template 'total and deterministic' (their statements: YtnboncbekcodnaaTotals.lean).
  GIVEN WITH THE SEED: the statements are not yours to turn. If you find one false, say at which input.
  Laid BY PROGRAM, IN A SANDBOX (cutbox-rows.mjs): the forced cells as the released guide's own fill.sh prints them over the translation caebf7799d323e0f… (all of the seat's roots in one cut). By AI agents, Wed Nov 11 2026. No macro, syntax, notation, axiom, sorry.
-/
import Derived.Test.YtnboncbekcodnaaChecked
import GoSem.Claim
import GoSem.ClaimJoined
import GoSem.ClaimMapViews
import Derived.JoinedTies
import Derived.KernelRfl
namespace Go.Proofs.Ytnboncbekcodnaa
/- THE CELL 'sum', in the pinned program and in every row, IS THE sha256 OF THE DUMP (.gsa) THAT YtnboncbekcodnaaProg.lean LOADS. Nothing in Lean hashes anything: it is a label: what it is worth is what the hold of that sum in a sandbox is worth. -/
noncomputable def Try.pinned : Pinned := { name := "ytnboncbekcodnaa", sum := "caebf7799d323e0f483ed10034f9250491e8302c62ddb30ffeb417a3ea15b179", checked := Try.checked }
namespace Rows
def none {H : Type} : Left H := { results := [], args := [] }

/-- 'tableaulaw15.StatePuts': WHATEVER THE INPUT: true; the input reads as it did. -/
def statePutsSpec : ChangeSpec := { name := "statePuts", fn := fun _ => fun
  | [d1, d2, d3] => { results := [.lit (.bool true)], args := [d1, d2, d3] }
  | _ => none }
def statePutsRow : OpenClaim := { program := "ytnboncbekcodnaa", sum := "caebf7799d323e0f483ed10034f9250491e8302c62ddb30ffeb417a3ea15b179", func := "tableau/tableaulaw15.StatePuts", spec := "statePuts", apart := false }
def StatePutsSaid : Prop := statePutsRow.holds Try.pinned (OpenSpec.ofChange statePutsSpec)

/-- ITS FALSE NEIGHBOUR: 'it returns false'. Refute it at one input. -/
def statePutsWrong : ChangeSpec := { name := "statePuts", fn := fun _ => fun
  | [d1, d2, d3] => { results := [.lit (.bool false)], args := [d1, d2, d3] }
  | _ => none }
def StatePutsWrongFalsely : Prop := statePutsRow.holds Try.pinned (OpenSpec.ofChange statePutsWrong)

/-- 'tableaulaw15.StateChains': WHATEVER THE INPUT: true; the input reads as it did. -/
def stateChainsSpec : ChangeSpec := { name := "stateChains", fn := fun _ => fun
  | [d1, d2, d3] => { results := [.lit (.bool true)], args := [d1, d2, d3] }
  | _ => none }
def stateChainsRow : OpenClaim := { program := "ytnboncbekcodnaa", sum := "caebf7799d323e0f483ed10034f9250491e8302c62ddb30ffeb417a3ea15b179", func := "tableau/tableaulaw15.StateChains", spec := "stateChains", apart := false }
def StateChainsSaid : Prop := stateChainsRow.holds Try.pinned (OpenSpec.ofChange stateChainsSpec)

/-- ITS FALSE NEIGHBOUR: 'it returns false'. Refute it at one input. -/
def stateChainsWrong : ChangeSpec := { name := "stateChains", fn := fun _ => fun
  | [d1, d2, d3] => { results := [.lit (.bool false)], args := [d1, d2, d3] }
  | _ => none }
def StateChainsWrongFalsely : Prop := stateChainsRow.holds Try.pinned (OpenSpec.ofChange stateChainsWrong)

/-- 'tableaulaw15.StateFirst': WHATEVER THE INPUT: true; the input reads as it did. -/
def stateFirstSpec : ChangeSpec := { name := "stateFirst", fn := fun _ => fun
  | [d] => { results := [.lit (.bool true)], args := [d] }
  | _ => none }
def stateFirstRow : OpenClaim := { program := "ytnboncbekcodnaa", sum := "caebf7799d323e0f483ed10034f9250491e8302c62ddb30ffeb417a3ea15b179", func := "tableau/tableaulaw15.StateFirst", spec := "stateFirst", apart := false }
def StateFirstSaid : Prop := stateFirstRow.holds Try.pinned (OpenSpec.ofChange stateFirstSpec)

/-- ITS FALSE NEIGHBOUR: 'it returns false'. Refute it at one input. -/
def stateFirstWrong : ChangeSpec := { name := "stateFirst", fn := fun _ => fun
  | [d] => { results := [.lit (.bool false)], args := [d] }
  | _ => none }
def StateFirstWrongFalsely : Prop := stateFirstRow.holds Try.pinned (OpenSpec.ofChange stateFirstWrong)

/-- 'tableaulaw15.StateAll': WHATEVER THE INPUT: true; the input reads as it did. -/
def stateAllSpec : ChangeSpec := { name := "stateAll", fn := fun _ => fun
  | [d1, d2, d3, d4] => { results := [.lit (.bool true)], args := [d1, d2, d3, d4] }
  | _ => none }
def stateAllRow : OpenClaim := { program := "ytnboncbekcodnaa", sum := "caebf7799d323e0f483ed10034f9250491e8302c62ddb30ffeb417a3ea15b179", func := "tableau/tableaulaw15.StateAll", spec := "stateAll", apart := false }
def StateAllSaid : Prop := stateAllRow.holds Try.pinned (OpenSpec.ofChange stateAllSpec)

/-- ITS FALSE NEIGHBOUR: 'it returns false'. Refute it at one input. -/
def stateAllWrong : ChangeSpec := { name := "stateAll", fn := fun _ => fun
  | [d1, d2, d3, d4] => { results := [.lit (.bool false)], args := [d1, d2, d3, d4] }
  | _ => none }
def StateAllWrongFalsely : Prop := stateAllRow.holds Try.pinned (OpenSpec.ofChange stateAllWrong)

/- THE SECOND FORM. 'bulk': how many values and letters a reading holds, each counted each time it is reached (what is shared counts as often as it is met; a slice's spare places count too). A statement '..UptoSaid' is the law's where the arguments, and the package variables that the reading takes, are together of bulk at most 1048576: NARROWER than '..Said'. Prove '..Said' where nothing that the law and all that it calls make is longer than what came in: it says more and counts as full. Else prove '..UptoSaid'. A law counts once. -/
mutual
def uptoBulk {H : Type} : DataW H → Nat
  | .lit (.string bytes) => bytes.length + 1
  | .lit _ => 1
  | .nil => 1
  | .ptr d => uptoBulk d + 1
  | .slice elems spare => uptoBulkAll elems + uptoBulkAll spare + 1
  | .agg parts => uptoBulkAll parts + 1
  | .iface _ d => uptoBulk d + 1
  | .map entries => uptoBulkEntries entries + 1
  | .held _ => 1
def uptoBulkAll {H : Type} : List (DataW H) → Nat
  | [] => 0
  | d :: r => uptoBulk d + uptoBulkAll r
def uptoBulkEntries {H : Type} : List (Lit × DataW H) → Nat
  | [] => 0
  | x :: r => uptoBulkEntry x + uptoBulkEntries r
def uptoBulkEntry {H : Type} : Lit × DataW H → Nat
  | (.string bytes, d) => bytes.length + uptoBulk d + 1
  | (_, d) => uptoBulk d + 1
 end
def uptoSmall : (H : Type) → List (DataW H) → Bool := fun _ ds => decide (uptoBulkAll ds ≤ 1048576)
def OpenSpec.upto (s : _root_.Go.ChangeSpec) : _root_.Go.OpenSpec := { _root_.Go.OpenSpec.ofChange s with cond := some uptoSmall }

/-- 'tableaulaw15.StatePuts', WHERE WHAT IT READS IS OF BULK AT MOST 1048576: true; the input reads as it did. -/
def statePutsUptoRow : OpenClaim := { program := "ytnboncbekcodnaa", sum := "caebf7799d323e0f483ed10034f9250491e8302c62ddb30ffeb417a3ea15b179", func := "tableau/tableaulaw15.StatePuts", spec := "statePuts", apart := false, narrowed := true }
def StatePutsUptoSaid : Prop := statePutsUptoRow.holds Try.pinned (OpenSpec.upto statePutsSpec)

/-- 'tableaulaw15.StateChains', WHERE WHAT IT READS IS OF BULK AT MOST 1048576: true; the input reads as it did. -/
def stateChainsUptoRow : OpenClaim := { program := "ytnboncbekcodnaa", sum := "caebf7799d323e0f483ed10034f9250491e8302c62ddb30ffeb417a3ea15b179", func := "tableau/tableaulaw15.StateChains", spec := "stateChains", apart := false, narrowed := true }
def StateChainsUptoSaid : Prop := stateChainsUptoRow.holds Try.pinned (OpenSpec.upto stateChainsSpec)

/-- 'tableaulaw15.StateFirst', WHERE WHAT IT READS IS OF BULK AT MOST 1048576: true; the input reads as it did. -/
def stateFirstUptoRow : OpenClaim := { program := "ytnboncbekcodnaa", sum := "caebf7799d323e0f483ed10034f9250491e8302c62ddb30ffeb417a3ea15b179", func := "tableau/tableaulaw15.StateFirst", spec := "stateFirst", apart := false, narrowed := true }
def StateFirstUptoSaid : Prop := stateFirstUptoRow.holds Try.pinned (OpenSpec.upto stateFirstSpec)

/-- 'tableaulaw15.StateAll', WHERE WHAT IT READS IS OF BULK AT MOST 1048576: true; the input reads as it did. -/
def stateAllUptoRow : OpenClaim := { program := "ytnboncbekcodnaa", sum := "caebf7799d323e0f483ed10034f9250491e8302c62ddb30ffeb417a3ea15b179", func := "tableau/tableaulaw15.StateAll", spec := "stateAll", apart := false, narrowed := true }
def StateAllUptoSaid : Prop := stateAllUptoRow.holds Try.pinned (OpenSpec.upto stateAllSpec)

end Rows
end Go.Proofs.Ytnboncbekcodnaa
