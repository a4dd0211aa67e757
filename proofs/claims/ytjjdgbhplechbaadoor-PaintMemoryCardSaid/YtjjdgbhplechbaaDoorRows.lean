/-
  NARROWER THAN 'FOR EVERY INPUT', by the rows' own cells (each row's printed sentence says how): CanvasCopies: laid · CanvasFills: laid · CanvasPlays: laid · CanvasClips: laid · PaintFolds: laid · PaintPlays: laid · PaintLater: laid · PaintLoads: laid · PaintMemory: laid · RepaintDirty: laid · RepaintClips: laid.
  DERIVED. THE GIVEN ROWS OF THIS SEAT. 11 by the template 'for every input the law returns true; each argument reads behind the call as it read before'; 0 by the template 'total and deterministic' (their statements: YtjjdgbhplechbaaDoorTotals.lean).
  GIVEN WITH THE SEED: the statements are not yours to turn. If you find one false, say at which input.
  Laid BY PROGRAM, IN A SANDBOX (cutbox-rows.mjs): the forced cells as the released guide's own fill.sh prints them over the translation c7308f22fb9df94b… (all of the seat's roots in one cut). By AI agents, Wed Nov 11 2026. No macro, syntax, notation, axiom, sorry.
-/
import Derived.Test.YtjjdgbhplechbaaDoorChecked
import GoSem.Claim
import GoSem.ClaimJoined
import GoSem.ClaimMapViews
import Derived.JoinedTies
import Derived.KernelRfl
namespace Go.Proofs.YtjjdgbhplechbaaDoor
/- THE CELL 'sum', in the pinned program and in every row, IS THE sha256 OF THE DUMP (.gsa) THAT YtjjdgbhplechbaaDoorProg.lean LOADS. Nothing in Lean hashes anything: it is a label: what it is worth is what the hold of that sum in a sandbox is worth. -/
noncomputable def Tryd.pinned : Pinned := { name := "ytjjdgbhplechbaadoor", sum := "c7308f22fb9df94b30cd4ef28aa25fe0892ac8b3833c2914259f18529b4fb93c", checked := Tryd.checked }
namespace Rows
def none {H : Type} : Left H := { results := [], args := [] }

/- WHAT THE LISTED PACKAGE-LEVEL VARIABLES READ AS WHEN THE CALL BEGINS. Each datum BY PROGRAM (the guide's laid-datum.mjs) off the statement by which the dump's own 'gosem.cut.vars' lays the variable. In a bare row this is a premise. The card (YtjjdgbhplechbaaDoorCards.lean) ties it to the program's text. -/
def laid_tableau_api_ErrArg {H : Type} : DataW H := .iface "*errors.errorString" (.ptr (.agg [.lit (.string [97, 114, 103, 117, 109, 101, 110, 116])]))
def laid_tableau_api_ErrFormat {H : Type} : DataW H := .iface "*errors.errorString" (.ptr (.agg [.lit (.string [102, 111, 114, 109, 97, 116])]))
def laid_tableau_api_ErrStride {H : Type} : DataW H := .iface "*errors.errorString" (.ptr (.agg [.lit (.string [115, 116, 114, 105, 100, 101])]))
def laid_tableau_api_ErrFile {H : Type} : DataW H := .iface "*errors.errorString" (.ptr (.agg [.lit (.string [102, 105, 108, 101])]))

/-- 'tableaulaw14.CanvasCopies': WHATEVER THE INPUT: true; the input reads as it did. -/
def canvasCopiesSpec : ChangeSpec := { name := "canvasCopies", fn := fun _ => fun
  | [d1, d2, d3, d4, d5] => { results := [.lit (.bool true)], args := [d1, d2, d3, d4, d5] }
  | _ => none }
def canvasCopiesRow : OpenClaim := { program := "ytjjdgbhplechbaadoor", sum := "c7308f22fb9df94b30cd4ef28aa25fe0892ac8b3833c2914259f18529b4fb93c", func := "tableau/tableaulaw14.CanvasCopies", spec := "canvasCopies", unfollowed := true, recurses := true, named := ["tableau/api.ErrArg"], apart := false, laid := [("tableau/api.ErrArg", laid_tableau_api_ErrArg)] }
def CanvasCopiesSaid : Prop := canvasCopiesRow.holds Tryd.pinned (OpenSpec.ofChange canvasCopiesSpec)

/-- ITS FALSE NEIGHBOUR: 'it returns false'. Refute it at one input. -/
def canvasCopiesWrong : ChangeSpec := { name := "canvasCopies", fn := fun _ => fun
  | [d1, d2, d3, d4, d5] => { results := [.lit (.bool false)], args := [d1, d2, d3, d4, d5] }
  | _ => none }
def CanvasCopiesWrongFalsely : Prop := canvasCopiesRow.holds Tryd.pinned (OpenSpec.ofChange canvasCopiesWrong)

/-- 'tableaulaw14.CanvasFills': WHATEVER THE INPUT: true; the input reads as it did. -/
def canvasFillsSpec : ChangeSpec := { name := "canvasFills", fn := fun _ => fun
  | [d1, d2, d3, d4, d5, d6] => { results := [.lit (.bool true)], args := [d1, d2, d3, d4, d5, d6] }
  | _ => none }
def canvasFillsRow : OpenClaim := { program := "ytjjdgbhplechbaadoor", sum := "c7308f22fb9df94b30cd4ef28aa25fe0892ac8b3833c2914259f18529b4fb93c", func := "tableau/tableaulaw14.CanvasFills", spec := "canvasFills", unfollowed := true, recurses := true, named := ["tableau/api.ErrArg"], apart := false, laid := [("tableau/api.ErrArg", laid_tableau_api_ErrArg)] }
def CanvasFillsSaid : Prop := canvasFillsRow.holds Tryd.pinned (OpenSpec.ofChange canvasFillsSpec)

/-- ITS FALSE NEIGHBOUR: 'it returns false'. Refute it at one input. -/
def canvasFillsWrong : ChangeSpec := { name := "canvasFills", fn := fun _ => fun
  | [d1, d2, d3, d4, d5, d6] => { results := [.lit (.bool false)], args := [d1, d2, d3, d4, d5, d6] }
  | _ => none }
def CanvasFillsWrongFalsely : Prop := canvasFillsRow.holds Tryd.pinned (OpenSpec.ofChange canvasFillsWrong)

/-- 'tableaulaw14.CanvasPlays': WHATEVER THE INPUT: true; the input reads as it did. -/
def canvasPlaysSpec : ChangeSpec := { name := "canvasPlays", fn := fun _ => fun
  | [d1, d2, d3] => { results := [.lit (.bool true)], args := [d1, d2, d3] }
  | _ => none }
def canvasPlaysRow : OpenClaim := { program := "ytjjdgbhplechbaadoor", sum := "c7308f22fb9df94b30cd4ef28aa25fe0892ac8b3833c2914259f18529b4fb93c", func := "tableau/tableaulaw14.CanvasPlays", spec := "canvasPlays", unfollowed := true, recurses := true, named := ["tableau/api.ErrArg"], apart := false, laid := [("tableau/api.ErrArg", laid_tableau_api_ErrArg)] }
def CanvasPlaysSaid : Prop := canvasPlaysRow.holds Tryd.pinned (OpenSpec.ofChange canvasPlaysSpec)

/-- ITS FALSE NEIGHBOUR: 'it returns false'. Refute it at one input. -/
def canvasPlaysWrong : ChangeSpec := { name := "canvasPlays", fn := fun _ => fun
  | [d1, d2, d3] => { results := [.lit (.bool false)], args := [d1, d2, d3] }
  | _ => none }
def CanvasPlaysWrongFalsely : Prop := canvasPlaysRow.holds Tryd.pinned (OpenSpec.ofChange canvasPlaysWrong)

/-- 'tableaulaw14.CanvasClips': WHATEVER THE INPUT: true; the input reads as it did. -/
def canvasClipsSpec : ChangeSpec := { name := "canvasClips", fn := fun _ => fun
  | [d1, d2, d3, d4] => { results := [.lit (.bool true)], args := [d1, d2, d3, d4] }
  | _ => none }
def canvasClipsRow : OpenClaim := { program := "ytjjdgbhplechbaadoor", sum := "c7308f22fb9df94b30cd4ef28aa25fe0892ac8b3833c2914259f18529b4fb93c", func := "tableau/tableaulaw14.CanvasClips", spec := "canvasClips", unfollowed := true, recurses := true, named := ["tableau/api.ErrArg"], apart := false, laid := [("tableau/api.ErrArg", laid_tableau_api_ErrArg)] }
def CanvasClipsSaid : Prop := canvasClipsRow.holds Tryd.pinned (OpenSpec.ofChange canvasClipsSpec)

/-- ITS FALSE NEIGHBOUR: 'it returns false'. Refute it at one input. -/
def canvasClipsWrong : ChangeSpec := { name := "canvasClips", fn := fun _ => fun
  | [d1, d2, d3, d4] => { results := [.lit (.bool false)], args := [d1, d2, d3, d4] }
  | _ => none }
def CanvasClipsWrongFalsely : Prop := canvasClipsRow.holds Tryd.pinned (OpenSpec.ofChange canvasClipsWrong)

/-- 'tableaulaw23.PaintFolds': WHATEVER THE INPUT: true; the input reads as it did. -/
def paintFoldsSpec : ChangeSpec := { name := "paintFolds", fn := fun _ => fun
  | [d1, d2, d3, d4, d5, d6, d7] => { results := [.lit (.bool true)], args := [d1, d2, d3, d4, d5, d6, d7] }
  | _ => none }
def paintFoldsRow : OpenClaim := { program := "ytjjdgbhplechbaadoor", sum := "c7308f22fb9df94b30cd4ef28aa25fe0892ac8b3833c2914259f18529b4fb93c", func := "tableau/tableaulaw23.PaintFolds", spec := "paintFolds", unfollowed := true, recurses := true, named := ["tableau/api.ErrArg"], apart := false, laid := [("tableau/api.ErrArg", laid_tableau_api_ErrArg)] }
def PaintFoldsSaid : Prop := paintFoldsRow.holds Tryd.pinned (OpenSpec.ofChange paintFoldsSpec)

/-- ITS FALSE NEIGHBOUR: 'it returns false'. Refute it at one input. -/
def paintFoldsWrong : ChangeSpec := { name := "paintFolds", fn := fun _ => fun
  | [d1, d2, d3, d4, d5, d6, d7] => { results := [.lit (.bool false)], args := [d1, d2, d3, d4, d5, d6, d7] }
  | _ => none }
def PaintFoldsWrongFalsely : Prop := paintFoldsRow.holds Tryd.pinned (OpenSpec.ofChange paintFoldsWrong)

/-- 'tableaulaw23.PaintPlays': WHATEVER THE INPUT: true; the input reads as it did. -/
def paintPlaysSpec : ChangeSpec := { name := "paintPlays", fn := fun _ => fun
  | [d1, d2, d3, d4, d5] => { results := [.lit (.bool true)], args := [d1, d2, d3, d4, d5] }
  | _ => none }
def paintPlaysRow : OpenClaim := { program := "ytjjdgbhplechbaadoor", sum := "c7308f22fb9df94b30cd4ef28aa25fe0892ac8b3833c2914259f18529b4fb93c", func := "tableau/tableaulaw23.PaintPlays", spec := "paintPlays", unfollowed := true, recurses := true, named := ["tableau/api.ErrArg"], apart := false, laid := [("tableau/api.ErrArg", laid_tableau_api_ErrArg)] }
def PaintPlaysSaid : Prop := paintPlaysRow.holds Tryd.pinned (OpenSpec.ofChange paintPlaysSpec)

/-- ITS FALSE NEIGHBOUR: 'it returns false'. Refute it at one input. -/
def paintPlaysWrong : ChangeSpec := { name := "paintPlays", fn := fun _ => fun
  | [d1, d2, d3, d4, d5] => { results := [.lit (.bool false)], args := [d1, d2, d3, d4, d5] }
  | _ => none }
def PaintPlaysWrongFalsely : Prop := paintPlaysRow.holds Tryd.pinned (OpenSpec.ofChange paintPlaysWrong)

/-- 'tableaulaw23.PaintLater': WHATEVER THE INPUT: true; the input reads as it did. -/
def paintLaterSpec : ChangeSpec := { name := "paintLater", fn := fun _ => fun
  | [d1, d2, d3, d4] => { results := [.lit (.bool true)], args := [d1, d2, d3, d4] }
  | _ => none }
def paintLaterRow : OpenClaim := { program := "ytjjdgbhplechbaadoor", sum := "c7308f22fb9df94b30cd4ef28aa25fe0892ac8b3833c2914259f18529b4fb93c", func := "tableau/tableaulaw23.PaintLater", spec := "paintLater", unfollowed := true, recurses := true, named := ["tableau/api.ErrArg"], apart := false, laid := [("tableau/api.ErrArg", laid_tableau_api_ErrArg)] }
def PaintLaterSaid : Prop := paintLaterRow.holds Tryd.pinned (OpenSpec.ofChange paintLaterSpec)

/-- ITS FALSE NEIGHBOUR: 'it returns false'. Refute it at one input. -/
def paintLaterWrong : ChangeSpec := { name := "paintLater", fn := fun _ => fun
  | [d1, d2, d3, d4] => { results := [.lit (.bool false)], args := [d1, d2, d3, d4] }
  | _ => none }
def PaintLaterWrongFalsely : Prop := paintLaterRow.holds Tryd.pinned (OpenSpec.ofChange paintLaterWrong)

/-- 'tableaulaw23.PaintLoads': WHATEVER THE INPUT: true; the input reads as it did. -/
def paintLoadsSpec : ChangeSpec := { name := "paintLoads", fn := fun _ => fun
  | [d1, d2, d3, d4, d5, d6, d7] => { results := [.lit (.bool true)], args := [d1, d2, d3, d4, d5, d6, d7] }
  | _ => none }
def paintLoadsRow : OpenClaim := { program := "ytjjdgbhplechbaadoor", sum := "c7308f22fb9df94b30cd4ef28aa25fe0892ac8b3833c2914259f18529b4fb93c", func := "tableau/tableaulaw23.PaintLoads", spec := "paintLoads", unfollowed := true, recurses := true, named := ["tableau/api.ErrArg", "tableau/api.ErrFile", "tableau/api.ErrStride", "tableau/api.ErrFormat"], apart := false, laid := [("tableau/api.ErrArg", laid_tableau_api_ErrArg), ("tableau/api.ErrFormat", laid_tableau_api_ErrFormat), ("tableau/api.ErrStride", laid_tableau_api_ErrStride), ("tableau/api.ErrFile", laid_tableau_api_ErrFile)] }
def PaintLoadsSaid : Prop := paintLoadsRow.holds Tryd.pinned (OpenSpec.ofChange paintLoadsSpec)

/-- ITS FALSE NEIGHBOUR: 'it returns false'. Refute it at one input. -/
def paintLoadsWrong : ChangeSpec := { name := "paintLoads", fn := fun _ => fun
  | [d1, d2, d3, d4, d5, d6, d7] => { results := [.lit (.bool false)], args := [d1, d2, d3, d4, d5, d6, d7] }
  | _ => none }
def PaintLoadsWrongFalsely : Prop := paintLoadsRow.holds Tryd.pinned (OpenSpec.ofChange paintLoadsWrong)

/-- 'tableaulaw23.PaintMemory': WHATEVER THE INPUT: true; the input reads as it did. -/
def paintMemorySpec : ChangeSpec := { name := "paintMemory", fn := fun _ => fun
  | [d1, d2, d3, d4, d5] => { results := [.lit (.bool true)], args := [d1, d2, d3, d4, d5] }
  | _ => none }
def paintMemoryRow : OpenClaim := { program := "ytjjdgbhplechbaadoor", sum := "c7308f22fb9df94b30cd4ef28aa25fe0892ac8b3833c2914259f18529b4fb93c", func := "tableau/tableaulaw23.PaintMemory", spec := "paintMemory", unfollowed := true, recurses := true, named := ["tableau/api.ErrArg", "tableau/api.ErrFile", "tableau/api.ErrStride", "tableau/api.ErrFormat"], apart := false, laid := [("tableau/api.ErrArg", laid_tableau_api_ErrArg), ("tableau/api.ErrFormat", laid_tableau_api_ErrFormat), ("tableau/api.ErrStride", laid_tableau_api_ErrStride), ("tableau/api.ErrFile", laid_tableau_api_ErrFile)] }
def PaintMemorySaid : Prop := paintMemoryRow.holds Tryd.pinned (OpenSpec.ofChange paintMemorySpec)

/-- ITS FALSE NEIGHBOUR: 'it returns false'. Refute it at one input. -/
def paintMemoryWrong : ChangeSpec := { name := "paintMemory", fn := fun _ => fun
  | [d1, d2, d3, d4, d5] => { results := [.lit (.bool false)], args := [d1, d2, d3, d4, d5] }
  | _ => none }
def PaintMemoryWrongFalsely : Prop := paintMemoryRow.holds Tryd.pinned (OpenSpec.ofChange paintMemoryWrong)

/-- 'tableaulaw24.RepaintDirty': WHATEVER THE INPUT: true; the input reads as it did. -/
def repaintDirtySpec : ChangeSpec := { name := "repaintDirty", fn := fun _ => fun
  | [d1, d2, d3, d4, d5, d6] => { results := [.lit (.bool true)], args := [d1, d2, d3, d4, d5, d6] }
  | _ => none }
def repaintDirtyRow : OpenClaim := { program := "ytjjdgbhplechbaadoor", sum := "c7308f22fb9df94b30cd4ef28aa25fe0892ac8b3833c2914259f18529b4fb93c", func := "tableau/tableaulaw24.RepaintDirty", spec := "repaintDirty", unfollowed := true, recurses := true, named := ["tableau/api.ErrArg"], apart := false, laid := [("tableau/api.ErrArg", laid_tableau_api_ErrArg)] }
def RepaintDirtySaid : Prop := repaintDirtyRow.holds Tryd.pinned (OpenSpec.ofChange repaintDirtySpec)

/-- ITS FALSE NEIGHBOUR: 'it returns false'. Refute it at one input. -/
def repaintDirtyWrong : ChangeSpec := { name := "repaintDirty", fn := fun _ => fun
  | [d1, d2, d3, d4, d5, d6] => { results := [.lit (.bool false)], args := [d1, d2, d3, d4, d5, d6] }
  | _ => none }
def RepaintDirtyWrongFalsely : Prop := repaintDirtyRow.holds Tryd.pinned (OpenSpec.ofChange repaintDirtyWrong)

/-- 'tableaulaw24.RepaintClips': WHATEVER THE INPUT: true; the input reads as it did. -/
def repaintClipsSpec : ChangeSpec := { name := "repaintClips", fn := fun _ => fun
  | [d1, d2, d3, d4, d5] => { results := [.lit (.bool true)], args := [d1, d2, d3, d4, d5] }
  | _ => none }
def repaintClipsRow : OpenClaim := { program := "ytjjdgbhplechbaadoor", sum := "c7308f22fb9df94b30cd4ef28aa25fe0892ac8b3833c2914259f18529b4fb93c", func := "tableau/tableaulaw24.RepaintClips", spec := "repaintClips", unfollowed := true, recurses := true, named := ["tableau/api.ErrArg"], apart := false, laid := [("tableau/api.ErrArg", laid_tableau_api_ErrArg)] }
def RepaintClipsSaid : Prop := repaintClipsRow.holds Tryd.pinned (OpenSpec.ofChange repaintClipsSpec)

/-- ITS FALSE NEIGHBOUR: 'it returns false'. Refute it at one input. -/
def repaintClipsWrong : ChangeSpec := { name := "repaintClips", fn := fun _ => fun
  | [d1, d2, d3, d4, d5] => { results := [.lit (.bool false)], args := [d1, d2, d3, d4, d5] }
  | _ => none }
def RepaintClipsWrongFalsely : Prop := repaintClipsRow.holds Tryd.pinned (OpenSpec.ofChange repaintClipsWrong)

/- THE SECOND FORM. 'bulk': how many values and letters a reading holds, each counted each time it is reached (what is shared counts as often as it is met; a slice's spare places count too). A statement '..UptoSaid' is the law's where the arguments, and the package variables that the reading takes, are together of bulk at most 1048576: NARROWER than '..Said'. Prove '..Said' where nothing that the law and all that it calls make is longer than what came in: it says more and counts as full. Else prove '..UptoSaid'. A law counts once. -/
mutual
def uptoBulk {H : Type} : DataW H → Nat
  | .lit (.string bytes) => bytes.length + 1
  | .lit _ => 1
  | .nil => 1
  | .ptr d => uptoBulk d + 1
  | .slice elems spare => uptoBulkAll elems + uptoBulkAll spare + 1
  | .agg parts => uptoBulkAll parts + 1
  | .iface _ d => uptoBulk d + 1
  | .map entries => uptoBulkEntries entries + 1
  | .held _ => 1
def uptoBulkAll {H : Type} : List (DataW H) → Nat
  | [] => 0
  | d :: r => uptoBulk d + uptoBulkAll r
def uptoBulkEntries {H : Type} : List (Lit × DataW H) → Nat
  | [] => 0
  | x :: r => uptoBulkEntry x + uptoBulkEntries r
def uptoBulkEntry {H : Type} : Lit × DataW H → Nat
  | (.string bytes, d) => bytes.length + uptoBulk d + 1
  | (_, d) => uptoBulk d + 1
 end
def uptoSmall : (H : Type) → List (DataW H) → Bool := fun _ ds => decide (uptoBulkAll ds ≤ 1048576)
def OpenSpec.upto (s : _root_.Go.ChangeSpec) : _root_.Go.OpenSpec := { _root_.Go.OpenSpec.ofChange s with cond := some uptoSmall }

/-- 'tableaulaw14.CanvasCopies', WHERE WHAT IT READS IS OF BULK AT MOST 1048576: true; the input reads as it did. -/
def canvasCopiesUptoRow : OpenClaim := { program := "ytjjdgbhplechbaadoor", sum := "c7308f22fb9df94b30cd4ef28aa25fe0892ac8b3833c2914259f18529b4fb93c", func := "tableau/tableaulaw14.CanvasCopies", spec := "canvasCopies", unfollowed := true, recurses := true, named := ["tableau/api.ErrArg"], apart := false, laid := [("tableau/api.ErrArg", laid_tableau_api_ErrArg)], narrowed := true }
def CanvasCopiesUptoSaid : Prop := canvasCopiesUptoRow.holds Tryd.pinned (OpenSpec.upto canvasCopiesSpec)

/-- 'tableaulaw14.CanvasFills', WHERE WHAT IT READS IS OF BULK AT MOST 1048576: true; the input reads as it did. -/
def canvasFillsUptoRow : OpenClaim := { program := "ytjjdgbhplechbaadoor", sum := "c7308f22fb9df94b30cd4ef28aa25fe0892ac8b3833c2914259f18529b4fb93c", func := "tableau/tableaulaw14.CanvasFills", spec := "canvasFills", unfollowed := true, recurses := true, named := ["tableau/api.ErrArg"], apart := false, laid := [("tableau/api.ErrArg", laid_tableau_api_ErrArg)], narrowed := true }
def CanvasFillsUptoSaid : Prop := canvasFillsUptoRow.holds Tryd.pinned (OpenSpec.upto canvasFillsSpec)

/-- 'tableaulaw14.CanvasPlays', WHERE WHAT IT READS IS OF BULK AT MOST 1048576: true; the input reads as it did. -/
def canvasPlaysUptoRow : OpenClaim := { program := "ytjjdgbhplechbaadoor", sum := "c7308f22fb9df94b30cd4ef28aa25fe0892ac8b3833c2914259f18529b4fb93c", func := "tableau/tableaulaw14.CanvasPlays", spec := "canvasPlays", unfollowed := true, recurses := true, named := ["tableau/api.ErrArg"], apart := false, laid := [("tableau/api.ErrArg", laid_tableau_api_ErrArg)], narrowed := true }
def CanvasPlaysUptoSaid : Prop := canvasPlaysUptoRow.holds Tryd.pinned (OpenSpec.upto canvasPlaysSpec)

/-- 'tableaulaw14.CanvasClips', WHERE WHAT IT READS IS OF BULK AT MOST 1048576: true; the input reads as it did. -/
def canvasClipsUptoRow : OpenClaim := { program := "ytjjdgbhplechbaadoor", sum := "c7308f22fb9df94b30cd4ef28aa25fe0892ac8b3833c2914259f18529b4fb93c", func := "tableau/tableaulaw14.CanvasClips", spec := "canvasClips", unfollowed := true, recurses := true, named := ["tableau/api.ErrArg"], apart := false, laid := [("tableau/api.ErrArg", laid_tableau_api_ErrArg)], narrowed := true }
def CanvasClipsUptoSaid : Prop := canvasClipsUptoRow.holds Tryd.pinned (OpenSpec.upto canvasClipsSpec)

/-- 'tableaulaw23.PaintFolds', WHERE WHAT IT READS IS OF BULK AT MOST 1048576: true; the input reads as it did. -/
def paintFoldsUptoRow : OpenClaim := { program := "ytjjdgbhplechbaadoor", sum := "c7308f22fb9df94b30cd4ef28aa25fe0892ac8b3833c2914259f18529b4fb93c", func := "tableau/tableaulaw23.PaintFolds", spec := "paintFolds", unfollowed := true, recurses := true, named := ["tableau/api.ErrArg"], apart := false, laid := [("tableau/api.ErrArg", laid_tableau_api_ErrArg)], narrowed := true }
def PaintFoldsUptoSaid : Prop := paintFoldsUptoRow.holds Tryd.pinned (OpenSpec.upto paintFoldsSpec)

/-- 'tableaulaw23.PaintPlays', WHERE WHAT IT READS IS OF BULK AT MOST 1048576: true; the input reads as it did. -/
def paintPlaysUptoRow : OpenClaim := { program := "ytjjdgbhplechbaadoor", sum := "c7308f22fb9df94b30cd4ef28aa25fe0892ac8b3833c2914259f18529b4fb93c", func := "tableau/tableaulaw23.PaintPlays", spec := "paintPlays", unfollowed := true, recurses := true, named := ["tableau/api.ErrArg"], apart := false, laid := [("tableau/api.ErrArg", laid_tableau_api_ErrArg)], narrowed := true }
def PaintPlaysUptoSaid : Prop := paintPlaysUptoRow.holds Tryd.pinned (OpenSpec.upto paintPlaysSpec)

/-- 'tableaulaw23.PaintLater', WHERE WHAT IT READS IS OF BULK AT MOST 1048576: true; the input reads as it did. -/
def paintLaterUptoRow : OpenClaim := { program := "ytjjdgbhplechbaadoor", sum := "c7308f22fb9df94b30cd4ef28aa25fe0892ac8b3833c2914259f18529b4fb93c", func := "tableau/tableaulaw23.PaintLater", spec := "paintLater", unfollowed := true, recurses := true, named := ["tableau/api.ErrArg"], apart := false, laid := [("tableau/api.ErrArg", laid_tableau_api_ErrArg)], narrowed := true }
def PaintLaterUptoSaid : Prop := paintLaterUptoRow.holds Tryd.pinned (OpenSpec.upto paintLaterSpec)

/-- 'tableaulaw23.PaintLoads', WHERE WHAT IT READS IS OF BULK AT MOST 1048576: true; the input reads as it did. -/
def paintLoadsUptoRow : OpenClaim := { program := "ytjjdgbhplechbaadoor", sum := "c7308f22fb9df94b30cd4ef28aa25fe0892ac8b3833c2914259f18529b4fb93c", func := "tableau/tableaulaw23.PaintLoads", spec := "paintLoads", unfollowed := true, recurses := true, named := ["tableau/api.ErrArg", "tableau/api.ErrFile", "tableau/api.ErrStride", "tableau/api.ErrFormat"], apart := false, laid := [("tableau/api.ErrArg", laid_tableau_api_ErrArg), ("tableau/api.ErrFormat", laid_tableau_api_ErrFormat), ("tableau/api.ErrStride", laid_tableau_api_ErrStride), ("tableau/api.ErrFile", laid_tableau_api_ErrFile)], narrowed := true }
def PaintLoadsUptoSaid : Prop := paintLoadsUptoRow.holds Tryd.pinned (OpenSpec.upto paintLoadsSpec)

/-- 'tableaulaw23.PaintMemory', WHERE WHAT IT READS IS OF BULK AT MOST 1048576: true; the input reads as it did. -/
def paintMemoryUptoRow : OpenClaim := { program := "ytjjdgbhplechbaadoor", sum := "c7308f22fb9df94b30cd4ef28aa25fe0892ac8b3833c2914259f18529b4fb93c", func := "tableau/tableaulaw23.PaintMemory", spec := "paintMemory", unfollowed := true, recurses := true, named := ["tableau/api.ErrArg", "tableau/api.ErrFile", "tableau/api.ErrStride", "tableau/api.ErrFormat"], apart := false, laid := [("tableau/api.ErrArg", laid_tableau_api_ErrArg), ("tableau/api.ErrFormat", laid_tableau_api_ErrFormat), ("tableau/api.ErrStride", laid_tableau_api_ErrStride), ("tableau/api.ErrFile", laid_tableau_api_ErrFile)], narrowed := true }
def PaintMemoryUptoSaid : Prop := paintMemoryUptoRow.holds Tryd.pinned (OpenSpec.upto paintMemorySpec)

/-- 'tableaulaw24.RepaintDirty', WHERE WHAT IT READS IS OF BULK AT MOST 1048576: true; the input reads as it did. -/
def repaintDirtyUptoRow : OpenClaim := { program := "ytjjdgbhplechbaadoor", sum := "c7308f22fb9df94b30cd4ef28aa25fe0892ac8b3833c2914259f18529b4fb93c", func := "tableau/tableaulaw24.RepaintDirty", spec := "repaintDirty", unfollowed := true, recurses := true, named := ["tableau/api.ErrArg"], apart := false, laid := [("tableau/api.ErrArg", laid_tableau_api_ErrArg)], narrowed := true }
def RepaintDirtyUptoSaid : Prop := repaintDirtyUptoRow.holds Tryd.pinned (OpenSpec.upto repaintDirtySpec)

/-- 'tableaulaw24.RepaintClips', WHERE WHAT IT READS IS OF BULK AT MOST 1048576: true; the input reads as it did. -/
def repaintClipsUptoRow : OpenClaim := { program := "ytjjdgbhplechbaadoor", sum := "c7308f22fb9df94b30cd4ef28aa25fe0892ac8b3833c2914259f18529b4fb93c", func := "tableau/tableaulaw24.RepaintClips", spec := "repaintClips", unfollowed := true, recurses := true, named := ["tableau/api.ErrArg"], apart := false, laid := [("tableau/api.ErrArg", laid_tableau_api_ErrArg)], narrowed := true }
def RepaintClipsUptoSaid : Prop := repaintClipsUptoRow.holds Tryd.pinned (OpenSpec.upto repaintClipsSpec)

end Rows
end Go.Proofs.YtjjdgbhplechbaaDoor
