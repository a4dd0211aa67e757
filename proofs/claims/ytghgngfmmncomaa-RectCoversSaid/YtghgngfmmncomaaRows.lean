/-
  No cell of these rows narrows 'for every input' (looked for: loops, veiled, ifaces, maps, wideKeys, modest, calm, conditions, laid).
  DERIVED. THE GIVEN ROWS OF THIS SEAT. 12 by the template 'for every input the law returns true; each argument reads behind the call as it read before'; 0 by the template 'total and deterministic' (their statements: YtghgngfmmncomaaTotals.lean).
  GIVEN WITH THE SEED: the statements are not yours to turn. If you find one false, say at which input.
  Laid BY PROGRAM, IN A SANDBOX (cutbox-rows.mjs): the forced cells as the released guide's own fill.sh prints them over the translation 5c18d812ed71770a… (all of the seat's roots in one cut). By AI agents, Wed Nov 11 2026. No macro, syntax, notation, axiom, sorry.
-/
import Derived.Test.YtghgngfmmncomaaChecked
import GoSem.Claim
import GoSem.ClaimJoined
import GoSem.ClaimMapViews
import Derived.JoinedTies
import Derived.KernelRfl
namespace Go.Proofs.Ytghgngfmmncomaa
/- THE CELL 'sum', in the pinned program and in every row, IS THE sha256 OF THE DUMP (.gsa) THAT YtghgngfmmncomaaProg.lean LOADS. Nothing in Lean hashes anything: it is a label: what it is worth is what the hold of that sum in a sandbox is worth. -/
noncomputable def Try.pinned : Pinned := { name := "ytghgngfmmncomaa", sum := "5c18d812ed71770a9a276f564a8906f9f894d0eda57ebffa1ff5b24a8f67b9ff", checked := Try.checked }
namespace Rows
def none {H : Type} : Left H := { results := [], args := [] }

/-- 'tableaulaw07.RectCorners': WHATEVER THE INPUT: true; the input reads as it did. -/
def rectCornersSpec : ChangeSpec := { name := "rectCorners", fn := fun _ => fun
  | [d] => { results := [.lit (.bool true)], args := [d] }
  | _ => none }
def rectCornersRow : OpenClaim := { program := "ytghgngfmmncomaa", sum := "5c18d812ed71770a9a276f564a8906f9f894d0eda57ebffa1ff5b24a8f67b9ff", func := "tableau/tableaulaw07.RectCorners", spec := "rectCorners", apart := false }
def RectCornersSaid : Prop := rectCornersRow.holds Try.pinned (OpenSpec.ofChange rectCornersSpec)

/-- ITS FALSE NEIGHBOUR: 'it returns false'. Refute it at one input. -/
def rectCornersWrong : ChangeSpec := { name := "rectCorners", fn := fun _ => fun
  | [d] => { results := [.lit (.bool false)], args := [d] }
  | _ => none }
def RectCornersWrongFalsely : Prop := rectCornersRow.holds Try.pinned (OpenSpec.ofChange rectCornersWrong)

/-- 'tableaulaw13.PixelScales': WHATEVER THE INPUT: true; the input reads as it did. -/
def pixelScalesSpec : ChangeSpec := { name := "pixelScales", fn := fun _ => fun
  | [d1, d2, d3] => { results := [.lit (.bool true)], args := [d1, d2, d3] }
  | _ => none }
def pixelScalesRow : OpenClaim := { program := "ytghgngfmmncomaa", sum := "5c18d812ed71770a9a276f564a8906f9f894d0eda57ebffa1ff5b24a8f67b9ff", func := "tableau/tableaulaw13.PixelScales", spec := "pixelScales", apart := false }
def PixelScalesSaid : Prop := pixelScalesRow.holds Try.pinned (OpenSpec.ofChange pixelScalesSpec)

/-- ITS FALSE NEIGHBOUR: 'it returns false'. Refute it at one input. -/
def pixelScalesWrong : ChangeSpec := { name := "pixelScales", fn := fun _ => fun
  | [d1, d2, d3] => { results := [.lit (.bool false)], args := [d1, d2, d3] }
  | _ => none }
def PixelScalesWrongFalsely : Prop := pixelScalesRow.holds Try.pinned (OpenSpec.ofChange pixelScalesWrong)

/-- 'tableaulaw13.PixelBounds': WHATEVER THE INPUT: true; the input reads as it did. -/
def pixelBoundsSpec : ChangeSpec := { name := "pixelBounds", fn := fun _ => fun
  | [d1, d2] => { results := [.lit (.bool true)], args := [d1, d2] }
  | _ => none }
def pixelBoundsRow : OpenClaim := { program := "ytghgngfmmncomaa", sum := "5c18d812ed71770a9a276f564a8906f9f894d0eda57ebffa1ff5b24a8f67b9ff", func := "tableau/tableaulaw13.PixelBounds", spec := "pixelBounds", apart := false }
def PixelBoundsSaid : Prop := pixelBoundsRow.holds Try.pinned (OpenSpec.ofChange pixelBoundsSpec)

/-- ITS FALSE NEIGHBOUR: 'it returns false'. Refute it at one input. -/
def pixelBoundsWrong : ChangeSpec := { name := "pixelBounds", fn := fun _ => fun
  | [d1, d2] => { results := [.lit (.bool false)], args := [d1, d2] }
  | _ => none }
def PixelBoundsWrongFalsely : Prop := pixelBoundsRow.holds Try.pinned (OpenSpec.ofChange pixelBoundsWrong)

/-- 'tableaulaw13.PixelParts': WHATEVER THE INPUT: true; the input reads as it did. -/
def pixelPartsSpec : ChangeSpec := { name := "pixelParts", fn := fun _ => fun
  | [d1, d2] => { results := [.lit (.bool true)], args := [d1, d2] }
  | _ => none }
def pixelPartsRow : OpenClaim := { program := "ytghgngfmmncomaa", sum := "5c18d812ed71770a9a276f564a8906f9f894d0eda57ebffa1ff5b24a8f67b9ff", func := "tableau/tableaulaw13.PixelParts", spec := "pixelParts", apart := false }
def PixelPartsSaid : Prop := pixelPartsRow.holds Try.pinned (OpenSpec.ofChange pixelPartsSpec)

/-- ITS FALSE NEIGHBOUR: 'it returns false'. Refute it at one input. -/
def pixelPartsWrong : ChangeSpec := { name := "pixelParts", fn := fun _ => fun
  | [d1, d2] => { results := [.lit (.bool false)], args := [d1, d2] }
  | _ => none }
def PixelPartsWrongFalsely : Prop := pixelPartsRow.holds Try.pinned (OpenSpec.ofChange pixelPartsWrong)

/-- 'tableaulaw07.RectCovers': WHATEVER THE INPUT: true; the input reads as it did. -/
def rectCoversSpec : ChangeSpec := { name := "rectCovers", fn := fun _ => fun
  | [d1, d2] => { results := [.lit (.bool true)], args := [d1, d2] }
  | _ => none }
def rectCoversRow : OpenClaim := { program := "ytghgngfmmncomaa", sum := "5c18d812ed71770a9a276f564a8906f9f894d0eda57ebffa1ff5b24a8f67b9ff", func := "tableau/tableaulaw07.RectCovers", spec := "rectCovers", apart := false }
def RectCoversSaid : Prop := rectCoversRow.holds Try.pinned (OpenSpec.ofChange rectCoversSpec)

/-- ITS FALSE NEIGHBOUR: 'it returns false'. Refute it at one input. -/
def rectCoversWrong : ChangeSpec := { name := "rectCovers", fn := fun _ => fun
  | [d1, d2] => { results := [.lit (.bool false)], args := [d1, d2] }
  | _ => none }
def RectCoversWrongFalsely : Prop := rectCoversRow.holds Try.pinned (OpenSpec.ofChange rectCoversWrong)

/-- 'tableaulaw13.PixelThree': WHATEVER THE INPUT: true; the input reads as it did. -/
def pixelThreeSpec : ChangeSpec := { name := "pixelThree", fn := fun _ => fun
  | [d1, d2, d3, d4] => { results := [.lit (.bool true)], args := [d1, d2, d3, d4] }
  | _ => none }
def pixelThreeRow : OpenClaim := { program := "ytghgngfmmncomaa", sum := "5c18d812ed71770a9a276f564a8906f9f894d0eda57ebffa1ff5b24a8f67b9ff", func := "tableau/tableaulaw13.PixelThree", spec := "pixelThree", apart := false }
def PixelThreeSaid : Prop := pixelThreeRow.holds Try.pinned (OpenSpec.ofChange pixelThreeSpec)

/-- ITS FALSE NEIGHBOUR: 'it returns false'. Refute it at one input. -/
def pixelThreeWrong : ChangeSpec := { name := "pixelThree", fn := fun _ => fun
  | [d1, d2, d3, d4] => { results := [.lit (.bool false)], args := [d1, d2, d3, d4] }
  | _ => none }
def PixelThreeWrongFalsely : Prop := pixelThreeRow.holds Try.pinned (OpenSpec.ofChange pixelThreeWrong)

/-- 'tableaulaw07.RectBounds': WHATEVER THE INPUT: true; the input reads as it did. -/
def rectBoundsSpec : ChangeSpec := { name := "rectBounds", fn := fun _ => fun
  | [d1, d2, d3] => { results := [.lit (.bool true)], args := [d1, d2, d3] }
  | _ => none }
def rectBoundsRow : OpenClaim := { program := "ytghgngfmmncomaa", sum := "5c18d812ed71770a9a276f564a8906f9f894d0eda57ebffa1ff5b24a8f67b9ff", func := "tableau/tableaulaw07.RectBounds", spec := "rectBounds", apart := false }
def RectBoundsSaid : Prop := rectBoundsRow.holds Try.pinned (OpenSpec.ofChange rectBoundsSpec)

/-- ITS FALSE NEIGHBOUR: 'it returns false'. Refute it at one input. -/
def rectBoundsWrong : ChangeSpec := { name := "rectBounds", fn := fun _ => fun
  | [d1, d2, d3] => { results := [.lit (.bool false)], args := [d1, d2, d3] }
  | _ => none }
def RectBoundsWrongFalsely : Prop := rectBoundsRow.holds Try.pinned (OpenSpec.ofChange rectBoundsWrong)

/-- 'tableaulaw13.PixelAll': WHATEVER THE INPUT: true; the input reads as it did. -/
def pixelAllSpec : ChangeSpec := { name := "pixelAll", fn := fun _ => fun
  | [d1, d2, d3, d4, d5, d6] => { results := [.lit (.bool true)], args := [d1, d2, d3, d4, d5, d6] }
  | _ => none }
def pixelAllRow : OpenClaim := { program := "ytghgngfmmncomaa", sum := "5c18d812ed71770a9a276f564a8906f9f894d0eda57ebffa1ff5b24a8f67b9ff", func := "tableau/tableaulaw13.PixelAll", spec := "pixelAll", apart := false }
def PixelAllSaid : Prop := pixelAllRow.holds Try.pinned (OpenSpec.ofChange pixelAllSpec)

/-- ITS FALSE NEIGHBOUR: 'it returns false'. Refute it at one input. -/
def pixelAllWrong : ChangeSpec := { name := "pixelAll", fn := fun _ => fun
  | [d1, d2, d3, d4, d5, d6] => { results := [.lit (.bool false)], args := [d1, d2, d3, d4, d5, d6] }
  | _ => none }
def PixelAllWrongFalsely : Prop := pixelAllRow.holds Try.pinned (OpenSpec.ofChange pixelAllWrong)

/-- 'tableaulaw13.PixelOvers': WHATEVER THE INPUT: true; the input reads as it did. -/
def pixelOversSpec : ChangeSpec := { name := "pixelOvers", fn := fun _ => fun
  | [d1, d2] => { results := [.lit (.bool true)], args := [d1, d2] }
  | _ => none }
def pixelOversRow : OpenClaim := { program := "ytghgngfmmncomaa", sum := "5c18d812ed71770a9a276f564a8906f9f894d0eda57ebffa1ff5b24a8f67b9ff", func := "tableau/tableaulaw13.PixelOvers", spec := "pixelOvers", apart := false }
def PixelOversSaid : Prop := pixelOversRow.holds Try.pinned (OpenSpec.ofChange pixelOversSpec)

/-- ITS FALSE NEIGHBOUR: 'it returns false'. Refute it at one input. -/
def pixelOversWrong : ChangeSpec := { name := "pixelOvers", fn := fun _ => fun
  | [d1, d2] => { results := [.lit (.bool false)], args := [d1, d2] }
  | _ => none }
def PixelOversWrongFalsely : Prop := pixelOversRow.holds Try.pinned (OpenSpec.ofChange pixelOversWrong)

/-- 'tableaulaw07.RectOrder': WHATEVER THE INPUT: true; the input reads as it did. -/
def rectOrderSpec : ChangeSpec := { name := "rectOrder", fn := fun _ => fun
  | [d1, d2] => { results := [.lit (.bool true)], args := [d1, d2] }
  | _ => none }
def rectOrderRow : OpenClaim := { program := "ytghgngfmmncomaa", sum := "5c18d812ed71770a9a276f564a8906f9f894d0eda57ebffa1ff5b24a8f67b9ff", func := "tableau/tableaulaw07.RectOrder", spec := "rectOrder", apart := false }
def RectOrderSaid : Prop := rectOrderRow.holds Try.pinned (OpenSpec.ofChange rectOrderSpec)

/-- ITS FALSE NEIGHBOUR: 'it returns false'. Refute it at one input. -/
def rectOrderWrong : ChangeSpec := { name := "rectOrder", fn := fun _ => fun
  | [d1, d2] => { results := [.lit (.bool false)], args := [d1, d2] }
  | _ => none }
def RectOrderWrongFalsely : Prop := rectOrderRow.holds Try.pinned (OpenSpec.ofChange rectOrderWrong)

/-- 'tableaulaw07.RectPoints': WHATEVER THE INPUT: true; the input reads as it did. -/
def rectPointsSpec : ChangeSpec := { name := "rectPoints", fn := fun _ => fun
  | [d1, d2, d3, d4, d5, d6] => { results := [.lit (.bool true)], args := [d1, d2, d3, d4, d5, d6] }
  | _ => none }
def rectPointsRow : OpenClaim := { program := "ytghgngfmmncomaa", sum := "5c18d812ed71770a9a276f564a8906f9f894d0eda57ebffa1ff5b24a8f67b9ff", func := "tableau/tableaulaw07.RectPoints", spec := "rectPoints", apart := false }
def RectPointsSaid : Prop := rectPointsRow.holds Try.pinned (OpenSpec.ofChange rectPointsSpec)

/-- ITS FALSE NEIGHBOUR: 'it returns false'. Refute it at one input. -/
def rectPointsWrong : ChangeSpec := { name := "rectPoints", fn := fun _ => fun
  | [d1, d2, d3, d4, d5, d6] => { results := [.lit (.bool false)], args := [d1, d2, d3, d4, d5, d6] }
  | _ => none }
def RectPointsWrongFalsely : Prop := rectPointsRow.holds Try.pinned (OpenSpec.ofChange rectPointsWrong)

/-- 'tableaulaw07.RectAll': WHATEVER THE INPUT: true; the input reads as it did. -/
def rectAllSpec : ChangeSpec := { name := "rectAll", fn := fun _ => fun
  | [d1, d2, d3, d4] => { results := [.lit (.bool true)], args := [d1, d2, d3, d4] }
  | _ => none }
def rectAllRow : OpenClaim := { program := "ytghgngfmmncomaa", sum := "5c18d812ed71770a9a276f564a8906f9f894d0eda57ebffa1ff5b24a8f67b9ff", func := "tableau/tableaulaw07.RectAll", spec := "rectAll", apart := false }
def RectAllSaid : Prop := rectAllRow.holds Try.pinned (OpenSpec.ofChange rectAllSpec)

/-- ITS FALSE NEIGHBOUR: 'it returns false'. Refute it at one input. -/
def rectAllWrong : ChangeSpec := { name := "rectAll", fn := fun _ => fun
  | [d1, d2, d3, d4] => { results := [.lit (.bool false)], args := [d1, d2, d3, d4] }
  | _ => none }
def RectAllWrongFalsely : Prop := rectAllRow.holds Try.pinned (OpenSpec.ofChange rectAllWrong)

/- THE SECOND FORM. 'bulk': how many values and letters a reading holds, each counted each time it is reached (what is shared counts as often as it is met; a slice's spare places count too). A statement '..UptoSaid' is the law's where the arguments, and the package variables that the reading takes, are together of bulk at most 1048576: NARROWER than '..Said'. Prove '..Said' where nothing that the law and all that it calls make is longer than what came in: it says more and counts as full. Else prove '..UptoSaid'. A law counts once. -/
mutual
def uptoBulk {H : Type} : DataW H → Nat
  | .lit (.string bytes) => bytes.length + 1
  | .lit _ => 1
  | .nil => 1
  | .ptr d => uptoBulk d + 1
  | .slice elems spare => uptoBulkAll elems + uptoBulkAll spare + 1
  | .agg parts => uptoBulkAll parts + 1
  | .iface _ d => uptoBulk d + 1
  | .map entries => uptoBulkEntries entries + 1
  | .held _ => 1
def uptoBulkAll {H : Type} : List (DataW H) → Nat
  | [] => 0
  | d :: r => uptoBulk d + uptoBulkAll r
def uptoBulkEntries {H : Type} : List (Lit × DataW H) → Nat
  | [] => 0
  | x :: r => uptoBulkEntry x + uptoBulkEntries r
def uptoBulkEntry {H : Type} : Lit × DataW H → Nat
  | (.string bytes, d) => bytes.length + uptoBulk d + 1
  | (_, d) => uptoBulk d + 1
 end
def uptoSmall : (H : Type) → List (DataW H) → Bool := fun _ ds => decide (uptoBulkAll ds ≤ 1048576)
def OpenSpec.upto (s : _root_.Go.ChangeSpec) : _root_.Go.OpenSpec := { _root_.Go.OpenSpec.ofChange s with cond := some uptoSmall }

/-- 'tableaulaw07.RectCorners', WHERE WHAT IT READS IS OF BULK AT MOST 1048576: true; the input reads as it did. -/
def rectCornersUptoRow : OpenClaim := { program := "ytghgngfmmncomaa", sum := "5c18d812ed71770a9a276f564a8906f9f894d0eda57ebffa1ff5b24a8f67b9ff", func := "tableau/tableaulaw07.RectCorners", spec := "rectCorners", apart := false, narrowed := true }
def RectCornersUptoSaid : Prop := rectCornersUptoRow.holds Try.pinned (OpenSpec.upto rectCornersSpec)

/-- 'tableaulaw13.PixelScales', WHERE WHAT IT READS IS OF BULK AT MOST 1048576: true; the input reads as it did. -/
def pixelScalesUptoRow : OpenClaim := { program := "ytghgngfmmncomaa", sum := "5c18d812ed71770a9a276f564a8906f9f894d0eda57ebffa1ff5b24a8f67b9ff", func := "tableau/tableaulaw13.PixelScales", spec := "pixelScales", apart := false, narrowed := true }
def PixelScalesUptoSaid : Prop := pixelScalesUptoRow.holds Try.pinned (OpenSpec.upto pixelScalesSpec)

/-- 'tableaulaw13.PixelBounds', WHERE WHAT IT READS IS OF BULK AT MOST 1048576: true; the input reads as it did. -/
def pixelBoundsUptoRow : OpenClaim := { program := "ytghgngfmmncomaa", sum := "5c18d812ed71770a9a276f564a8906f9f894d0eda57ebffa1ff5b24a8f67b9ff", func := "tableau/tableaulaw13.PixelBounds", spec := "pixelBounds", apart := false, narrowed := true }
def PixelBoundsUptoSaid : Prop := pixelBoundsUptoRow.holds Try.pinned (OpenSpec.upto pixelBoundsSpec)

/-- 'tableaulaw13.PixelParts', WHERE WHAT IT READS IS OF BULK AT MOST 1048576: true; the input reads as it did. -/
def pixelPartsUptoRow : OpenClaim := { program := "ytghgngfmmncomaa", sum := "5c18d812ed71770a9a276f564a8906f9f894d0eda57ebffa1ff5b24a8f67b9ff", func := "tableau/tableaulaw13.PixelParts", spec := "pixelParts", apart := false, narrowed := true }
def PixelPartsUptoSaid : Prop := pixelPartsUptoRow.holds Try.pinned (OpenSpec.upto pixelPartsSpec)

/-- 'tableaulaw07.RectCovers', WHERE WHAT IT READS IS OF BULK AT MOST 1048576: true; the input reads as it did. -/
def rectCoversUptoRow : OpenClaim := { program := "ytghgngfmmncomaa", sum := "5c18d812ed71770a9a276f564a8906f9f894d0eda57ebffa1ff5b24a8f67b9ff", func := "tableau/tableaulaw07.RectCovers", spec := "rectCovers", apart := false, narrowed := true }
def RectCoversUptoSaid : Prop := rectCoversUptoRow.holds Try.pinned (OpenSpec.upto rectCoversSpec)

/-- 'tableaulaw13.PixelThree', WHERE WHAT IT READS IS OF BULK AT MOST 1048576: true; the input reads as it did. -/
def pixelThreeUptoRow : OpenClaim := { program := "ytghgngfmmncomaa", sum := "5c18d812ed71770a9a276f564a8906f9f894d0eda57ebffa1ff5b24a8f67b9ff", func := "tableau/tableaulaw13.PixelThree", spec := "pixelThree", apart := false, narrowed := true }
def PixelThreeUptoSaid : Prop := pixelThreeUptoRow.holds Try.pinned (OpenSpec.upto pixelThreeSpec)

/-- 'tableaulaw07.RectBounds', WHERE WHAT IT READS IS OF BULK AT MOST 1048576: true; the input reads as it did. -/
def rectBoundsUptoRow : OpenClaim := { program := "ytghgngfmmncomaa", sum := "5c18d812ed71770a9a276f564a8906f9f894d0eda57ebffa1ff5b24a8f67b9ff", func := "tableau/tableaulaw07.RectBounds", spec := "rectBounds", apart := false, narrowed := true }
def RectBoundsUptoSaid : Prop := rectBoundsUptoRow.holds Try.pinned (OpenSpec.upto rectBoundsSpec)

/-- 'tableaulaw13.PixelAll', WHERE WHAT IT READS IS OF BULK AT MOST 1048576: true; the input reads as it did. -/
def pixelAllUptoRow : OpenClaim := { program := "ytghgngfmmncomaa", sum := "5c18d812ed71770a9a276f564a8906f9f894d0eda57ebffa1ff5b24a8f67b9ff", func := "tableau/tableaulaw13.PixelAll", spec := "pixelAll", apart := false, narrowed := true }
def PixelAllUptoSaid : Prop := pixelAllUptoRow.holds Try.pinned (OpenSpec.upto pixelAllSpec)

/-- 'tableaulaw13.PixelOvers', WHERE WHAT IT READS IS OF BULK AT MOST 1048576: true; the input reads as it did. -/
def pixelOversUptoRow : OpenClaim := { program := "ytghgngfmmncomaa", sum := "5c18d812ed71770a9a276f564a8906f9f894d0eda57ebffa1ff5b24a8f67b9ff", func := "tableau/tableaulaw13.PixelOvers", spec := "pixelOvers", apart := false, narrowed := true }
def PixelOversUptoSaid : Prop := pixelOversUptoRow.holds Try.pinned (OpenSpec.upto pixelOversSpec)

/-- 'tableaulaw07.RectOrder', WHERE WHAT IT READS IS OF BULK AT MOST 1048576: true; the input reads as it did. -/
def rectOrderUptoRow : OpenClaim := { program := "ytghgngfmmncomaa", sum := "5c18d812ed71770a9a276f564a8906f9f894d0eda57ebffa1ff5b24a8f67b9ff", func := "tableau/tableaulaw07.RectOrder", spec := "rectOrder", apart := false, narrowed := true }
def RectOrderUptoSaid : Prop := rectOrderUptoRow.holds Try.pinned (OpenSpec.upto rectOrderSpec)

/-- 'tableaulaw07.RectPoints', WHERE WHAT IT READS IS OF BULK AT MOST 1048576: true; the input reads as it did. -/
def rectPointsUptoRow : OpenClaim := { program := "ytghgngfmmncomaa", sum := "5c18d812ed71770a9a276f564a8906f9f894d0eda57ebffa1ff5b24a8f67b9ff", func := "tableau/tableaulaw07.RectPoints", spec := "rectPoints", apart := false, narrowed := true }
def RectPointsUptoSaid : Prop := rectPointsUptoRow.holds Try.pinned (OpenSpec.upto rectPointsSpec)

/-- 'tableaulaw07.RectAll', WHERE WHAT IT READS IS OF BULK AT MOST 1048576: true; the input reads as it did. -/
def rectAllUptoRow : OpenClaim := { program := "ytghgngfmmncomaa", sum := "5c18d812ed71770a9a276f564a8906f9f894d0eda57ebffa1ff5b24a8f67b9ff", func := "tableau/tableaulaw07.RectAll", spec := "rectAll", apart := false, narrowed := true }
def RectAllUptoSaid : Prop := rectAllUptoRow.holds Try.pinned (OpenSpec.upto rectAllSpec)

end Rows
end Go.Proofs.Ytghgngfmmncomaa
