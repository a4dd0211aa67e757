/-
  DERIVED. GIVEN WITH THE SEED: THE CARDS: each row of YtjjdgbhplechbaaGreatDoorRows.lean that lists a variable, with what it lists TIED to the program's text (the seventh form; the later family's looks); each row that meets fmt, with fmt's text TOLD by the authors' own Lean function (tested against real Go, not proved from fmt's source: count such statements apart). THE CARD IS WHAT COUNTS. Prove the row's statement (the work); the ties are given (YtjjdgbhplechbaaGreatDoorTie.lean); close each card by the builder's one call (the guide's Derived/Test/ToyasCard.lean, 'card_holds'). Laid BY PROGRAM, IN A SANDBOX (cutbox-door.mjs). By AI agents, Wed Nov 11 2026. No macro, syntax, notation, axiom, sorry.
-/
import Derived.Test.YtjjdgbhplechbaaGreatDoorRows
import GoSem.ClaimSeven
namespace Go.Proofs.YtjjdgbhplechbaaGreatDoor
namespace Rows

/-- THE TIED CARD OF 'tableaulaw24.RepaintParts'. -/
def repaintPartsCard : Claim7 := { stood := { row := repaintPartsRow, standIns := [], harness := (true, "4ed1964eb133cfb43f6e4665e73c7454e7836f072625f8e831a61a4ead8b1374"), looks := false }, kinds := [], alts := [], laidByText := true, laidKinds := [.sentinel], laidTests := true, laidLooks := .later }
def RepaintPartsCardSaid : Prop := Claim7.holds Tryz.pinned (.plain (OpenSpec.ofChange repaintPartsSpec)) repaintPartsCard

/-- THE TIED CARD OF 'tableaulaw24.RepaintWhole'. -/
def repaintWholeCard : Claim7 := { stood := { row := repaintWholeRow, standIns := [], harness := (true, "4ed1964eb133cfb43f6e4665e73c7454e7836f072625f8e831a61a4ead8b1374"), looks := false }, kinds := [], alts := [], laidByText := true, laidKinds := [.sentinel], laidTests := true, laidLooks := .later }
def RepaintWholeCardSaid : Prop := Claim7.holds Tryz.pinned (.plain (OpenSpec.ofChange repaintWholeSpec)) repaintWholeCard

/-- THE SECOND FORM's CARD OF 'tableaulaw24.RepaintParts'. -/
def repaintPartsUptoCard : Claim7 := { stood := { row := repaintPartsUptoRow, standIns := [], harness := (true, "4ed1964eb133cfb43f6e4665e73c7454e7836f072625f8e831a61a4ead8b1374"), looks := false }, kinds := [], alts := [], laidByText := true, laidKinds := [.sentinel], laidTests := true, laidLooks := .later }
def RepaintPartsUptoCardSaid : Prop := Claim7.holds Tryz.pinned (.plain (OpenSpec.upto repaintPartsSpec)) repaintPartsUptoCard

/-- THE SECOND FORM's CARD OF 'tableaulaw24.RepaintWhole'. -/
def repaintWholeUptoCard : Claim7 := { stood := { row := repaintWholeUptoRow, standIns := [], harness := (true, "4ed1964eb133cfb43f6e4665e73c7454e7836f072625f8e831a61a4ead8b1374"), looks := false }, kinds := [], alts := [], laidByText := true, laidKinds := [.sentinel], laidTests := true, laidLooks := .later }
def RepaintWholeUptoCardSaid : Prop := Claim7.holds Tryz.pinned (.plain (OpenSpec.upto repaintWholeSpec)) repaintWholeUptoCard
end Rows
end Go.Proofs.YtjjdgbhplechbaaGreatDoor
