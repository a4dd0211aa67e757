/-
  DERIVED. GIVEN WITH THE SEED: THE CARDS: each row of YtjjdgbhplechbaaDoorRows.lean that lists a variable, with what it lists TIED to the program's text (the seventh form; the later family's looks); each row that meets fmt, with fmt's text TOLD by the authors' own Lean function (tested against real Go, not proved from fmt's source: count such statements apart). THE CARD IS WHAT COUNTS. Prove the row's statement (the work); the ties are given (YtjjdgbhplechbaaDoorTie.lean); close each card by the builder's one call (the guide's Derived/Test/ToyasCard.lean, 'card_holds'). Laid BY PROGRAM, IN A SANDBOX (cutbox-door.mjs). By AI agents, Wed Nov 11 2026. No macro, syntax, notation, axiom, sorry.
-/
import Derived.Test.YtjjdgbhplechbaaDoorRows
import GoSem.ClaimSeven
namespace Go.Proofs.YtjjdgbhplechbaaDoor
namespace Rows

/-- THE TIED CARD OF 'tableaulaw14.CanvasCopies'. -/
def canvasCopiesCard : Claim7 := { stood := { row := canvasCopiesRow, standIns := [], harness := (true, "da96d33da2f100ee56a6a3b5f66236e59e2e43b3d62d0a44e003fb6de8e97636"), looks := false }, kinds := [], alts := [], laidByText := true, laidKinds := [.sentinel], laidTests := true, laidLooks := .later }
def CanvasCopiesCardSaid : Prop := Claim7.holds Tryd.pinned (.plain (OpenSpec.ofChange canvasCopiesSpec)) canvasCopiesCard

/-- THE TIED CARD OF 'tableaulaw14.CanvasFills'. -/
def canvasFillsCard : Claim7 := { stood := { row := canvasFillsRow, standIns := [], harness := (true, "da96d33da2f100ee56a6a3b5f66236e59e2e43b3d62d0a44e003fb6de8e97636"), looks := false }, kinds := [], alts := [], laidByText := true, laidKinds := [.sentinel], laidTests := true, laidLooks := .later }
def CanvasFillsCardSaid : Prop := Claim7.holds Tryd.pinned (.plain (OpenSpec.ofChange canvasFillsSpec)) canvasFillsCard

/-- THE TIED CARD OF 'tableaulaw14.CanvasPlays'. -/
def canvasPlaysCard : Claim7 := { stood := { row := canvasPlaysRow, standIns := [], harness := (true, "da96d33da2f100ee56a6a3b5f66236e59e2e43b3d62d0a44e003fb6de8e97636"), looks := false }, kinds := [], alts := [], laidByText := true, laidKinds := [.sentinel], laidTests := true, laidLooks := .later }
def CanvasPlaysCardSaid : Prop := Claim7.holds Tryd.pinned (.plain (OpenSpec.ofChange canvasPlaysSpec)) canvasPlaysCard

/-- THE TIED CARD OF 'tableaulaw14.CanvasClips'. -/
def canvasClipsCard : Claim7 := { stood := { row := canvasClipsRow, standIns := [], harness := (true, "da96d33da2f100ee56a6a3b5f66236e59e2e43b3d62d0a44e003fb6de8e97636"), looks := false }, kinds := [], alts := [], laidByText := true, laidKinds := [.sentinel], laidTests := true, laidLooks := .later }
def CanvasClipsCardSaid : Prop := Claim7.holds Tryd.pinned (.plain (OpenSpec.ofChange canvasClipsSpec)) canvasClipsCard

/-- THE TIED CARD OF 'tableaulaw23.PaintFolds'. -/
def paintFoldsCard : Claim7 := { stood := { row := paintFoldsRow, standIns := [], harness := (true, "da96d33da2f100ee56a6a3b5f66236e59e2e43b3d62d0a44e003fb6de8e97636"), looks := false }, kinds := [], alts := [], laidByText := true, laidKinds := [.sentinel], laidTests := true, laidLooks := .later }
def PaintFoldsCardSaid : Prop := Claim7.holds Tryd.pinned (.plain (OpenSpec.ofChange paintFoldsSpec)) paintFoldsCard

/-- THE TIED CARD OF 'tableaulaw23.PaintPlays'. -/
def paintPlaysCard : Claim7 := { stood := { row := paintPlaysRow, standIns := [], harness := (true, "da96d33da2f100ee56a6a3b5f66236e59e2e43b3d62d0a44e003fb6de8e97636"), looks := false }, kinds := [], alts := [], laidByText := true, laidKinds := [.sentinel], laidTests := true, laidLooks := .later }
def PaintPlaysCardSaid : Prop := Claim7.holds Tryd.pinned (.plain (OpenSpec.ofChange paintPlaysSpec)) paintPlaysCard

/-- THE TIED CARD OF 'tableaulaw23.PaintLater'. -/
def paintLaterCard : Claim7 := { stood := { row := paintLaterRow, standIns := [], harness := (true, "da96d33da2f100ee56a6a3b5f66236e59e2e43b3d62d0a44e003fb6de8e97636"), looks := false }, kinds := [], alts := [], laidByText := true, laidKinds := [.sentinel], laidTests := true, laidLooks := .later }
def PaintLaterCardSaid : Prop := Claim7.holds Tryd.pinned (.plain (OpenSpec.ofChange paintLaterSpec)) paintLaterCard

/-- THE TIED CARD OF 'tableaulaw23.PaintLoads'. -/
def paintLoadsCard : Claim7 := { stood := { row := paintLoadsRow, standIns := [], harness := (true, "da96d33da2f100ee56a6a3b5f66236e59e2e43b3d62d0a44e003fb6de8e97636"), looks := false }, kinds := [], alts := [], laidByText := true, laidKinds := [.sentinel, .sentinel, .sentinel, .sentinel], laidTests := true, laidLooks := .later }
def PaintLoadsCardSaid : Prop := Claim7.holds Tryd.pinned (.plain (OpenSpec.ofChange paintLoadsSpec)) paintLoadsCard

/-- THE TIED CARD OF 'tableaulaw23.PaintMemory'. -/
def paintMemoryCard : Claim7 := { stood := { row := paintMemoryRow, standIns := [], harness := (true, "da96d33da2f100ee56a6a3b5f66236e59e2e43b3d62d0a44e003fb6de8e97636"), looks := false }, kinds := [], alts := [], laidByText := true, laidKinds := [.sentinel, .sentinel, .sentinel, .sentinel], laidTests := true, laidLooks := .later }
def PaintMemoryCardSaid : Prop := Claim7.holds Tryd.pinned (.plain (OpenSpec.ofChange paintMemorySpec)) paintMemoryCard

/-- THE TIED CARD OF 'tableaulaw24.RepaintDirty'. -/
def repaintDirtyCard : Claim7 := { stood := { row := repaintDirtyRow, standIns := [], harness := (true, "da96d33da2f100ee56a6a3b5f66236e59e2e43b3d62d0a44e003fb6de8e97636"), looks := false }, kinds := [], alts := [], laidByText := true, laidKinds := [.sentinel], laidTests := true, laidLooks := .later }
def RepaintDirtyCardSaid : Prop := Claim7.holds Tryd.pinned (.plain (OpenSpec.ofChange repaintDirtySpec)) repaintDirtyCard

/-- THE TIED CARD OF 'tableaulaw24.RepaintClips'. -/
def repaintClipsCard : Claim7 := { stood := { row := repaintClipsRow, standIns := [], harness := (true, "da96d33da2f100ee56a6a3b5f66236e59e2e43b3d62d0a44e003fb6de8e97636"), looks := false }, kinds := [], alts := [], laidByText := true, laidKinds := [.sentinel], laidTests := true, laidLooks := .later }
def RepaintClipsCardSaid : Prop := Claim7.holds Tryd.pinned (.plain (OpenSpec.ofChange repaintClipsSpec)) repaintClipsCard

/-- THE SECOND FORM's CARD OF 'tableaulaw14.CanvasCopies'. -/
def canvasCopiesUptoCard : Claim7 := { stood := { row := canvasCopiesUptoRow, standIns := [], harness := (true, "da96d33da2f100ee56a6a3b5f66236e59e2e43b3d62d0a44e003fb6de8e97636"), looks := false }, kinds := [], alts := [], laidByText := true, laidKinds := [.sentinel], laidTests := true, laidLooks := .later }
def CanvasCopiesUptoCardSaid : Prop := Claim7.holds Tryd.pinned (.plain (OpenSpec.upto canvasCopiesSpec)) canvasCopiesUptoCard

/-- THE SECOND FORM's CARD OF 'tableaulaw14.CanvasFills'. -/
def canvasFillsUptoCard : Claim7 := { stood := { row := canvasFillsUptoRow, standIns := [], harness := (true, "da96d33da2f100ee56a6a3b5f66236e59e2e43b3d62d0a44e003fb6de8e97636"), looks := false }, kinds := [], alts := [], laidByText := true, laidKinds := [.sentinel], laidTests := true, laidLooks := .later }
def CanvasFillsUptoCardSaid : Prop := Claim7.holds Tryd.pinned (.plain (OpenSpec.upto canvasFillsSpec)) canvasFillsUptoCard

/-- THE SECOND FORM's CARD OF 'tableaulaw14.CanvasPlays'. -/
def canvasPlaysUptoCard : Claim7 := { stood := { row := canvasPlaysUptoRow, standIns := [], harness := (true, "da96d33da2f100ee56a6a3b5f66236e59e2e43b3d62d0a44e003fb6de8e97636"), looks := false }, kinds := [], alts := [], laidByText := true, laidKinds := [.sentinel], laidTests := true, laidLooks := .later }
def CanvasPlaysUptoCardSaid : Prop := Claim7.holds Tryd.pinned (.plain (OpenSpec.upto canvasPlaysSpec)) canvasPlaysUptoCard

/-- THE SECOND FORM's CARD OF 'tableaulaw14.CanvasClips'. -/
def canvasClipsUptoCard : Claim7 := { stood := { row := canvasClipsUptoRow, standIns := [], harness := (true, "da96d33da2f100ee56a6a3b5f66236e59e2e43b3d62d0a44e003fb6de8e97636"), looks := false }, kinds := [], alts := [], laidByText := true, laidKinds := [.sentinel], laidTests := true, laidLooks := .later }
def CanvasClipsUptoCardSaid : Prop := Claim7.holds Tryd.pinned (.plain (OpenSpec.upto canvasClipsSpec)) canvasClipsUptoCard

/-- THE SECOND FORM's CARD OF 'tableaulaw23.PaintFolds'. -/
def paintFoldsUptoCard : Claim7 := { stood := { row := paintFoldsUptoRow, standIns := [], harness := (true, "da96d33da2f100ee56a6a3b5f66236e59e2e43b3d62d0a44e003fb6de8e97636"), looks := false }, kinds := [], alts := [], laidByText := true, laidKinds := [.sentinel], laidTests := true, laidLooks := .later }
def PaintFoldsUptoCardSaid : Prop := Claim7.holds Tryd.pinned (.plain (OpenSpec.upto paintFoldsSpec)) paintFoldsUptoCard

/-- THE SECOND FORM's CARD OF 'tableaulaw23.PaintPlays'. -/
def paintPlaysUptoCard : Claim7 := { stood := { row := paintPlaysUptoRow, standIns := [], harness := (true, "da96d33da2f100ee56a6a3b5f66236e59e2e43b3d62d0a44e003fb6de8e97636"), looks := false }, kinds := [], alts := [], laidByText := true, laidKinds := [.sentinel], laidTests := true, laidLooks := .later }
def PaintPlaysUptoCardSaid : Prop := Claim7.holds Tryd.pinned (.plain (OpenSpec.upto paintPlaysSpec)) paintPlaysUptoCard

/-- THE SECOND FORM's CARD OF 'tableaulaw23.PaintLater'. -/
def paintLaterUptoCard : Claim7 := { stood := { row := paintLaterUptoRow, standIns := [], harness := (true, "da96d33da2f100ee56a6a3b5f66236e59e2e43b3d62d0a44e003fb6de8e97636"), looks := false }, kinds := [], alts := [], laidByText := true, laidKinds := [.sentinel], laidTests := true, laidLooks := .later }
def PaintLaterUptoCardSaid : Prop := Claim7.holds Tryd.pinned (.plain (OpenSpec.upto paintLaterSpec)) paintLaterUptoCard

/-- THE SECOND FORM's CARD OF 'tableaulaw23.PaintLoads'. -/
def paintLoadsUptoCard : Claim7 := { stood := { row := paintLoadsUptoRow, standIns := [], harness := (true, "da96d33da2f100ee56a6a3b5f66236e59e2e43b3d62d0a44e003fb6de8e97636"), looks := false }, kinds := [], alts := [], laidByText := true, laidKinds := [.sentinel, .sentinel, .sentinel, .sentinel], laidTests := true, laidLooks := .later }
def PaintLoadsUptoCardSaid : Prop := Claim7.holds Tryd.pinned (.plain (OpenSpec.upto paintLoadsSpec)) paintLoadsUptoCard

/-- THE SECOND FORM's CARD OF 'tableaulaw23.PaintMemory'. -/
def paintMemoryUptoCard : Claim7 := { stood := { row := paintMemoryUptoRow, standIns := [], harness := (true, "da96d33da2f100ee56a6a3b5f66236e59e2e43b3d62d0a44e003fb6de8e97636"), looks := false }, kinds := [], alts := [], laidByText := true, laidKinds := [.sentinel, .sentinel, .sentinel, .sentinel], laidTests := true, laidLooks := .later }
def PaintMemoryUptoCardSaid : Prop := Claim7.holds Tryd.pinned (.plain (OpenSpec.upto paintMemorySpec)) paintMemoryUptoCard

/-- THE SECOND FORM's CARD OF 'tableaulaw24.RepaintDirty'. -/
def repaintDirtyUptoCard : Claim7 := { stood := { row := repaintDirtyUptoRow, standIns := [], harness := (true, "da96d33da2f100ee56a6a3b5f66236e59e2e43b3d62d0a44e003fb6de8e97636"), looks := false }, kinds := [], alts := [], laidByText := true, laidKinds := [.sentinel], laidTests := true, laidLooks := .later }
def RepaintDirtyUptoCardSaid : Prop := Claim7.holds Tryd.pinned (.plain (OpenSpec.upto repaintDirtySpec)) repaintDirtyUptoCard

/-- THE SECOND FORM's CARD OF 'tableaulaw24.RepaintClips'. -/
def repaintClipsUptoCard : Claim7 := { stood := { row := repaintClipsUptoRow, standIns := [], harness := (true, "da96d33da2f100ee56a6a3b5f66236e59e2e43b3d62d0a44e003fb6de8e97636"), looks := false }, kinds := [], alts := [], laidByText := true, laidKinds := [.sentinel], laidTests := true, laidLooks := .later }
def RepaintClipsUptoCardSaid : Prop := Claim7.holds Tryd.pinned (.plain (OpenSpec.upto repaintClipsSpec)) repaintClipsUptoCard
end Rows
end Go.Proofs.YtjjdgbhplechbaaDoor
