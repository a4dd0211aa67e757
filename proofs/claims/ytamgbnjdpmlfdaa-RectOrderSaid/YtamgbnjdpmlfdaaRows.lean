/-
  No cell of these rows narrows 'for every input' (looked for: loops, veiled, ifaces, maps, wideKeys, modest, calm, conditions, laid).
  DERIVED. THE GIVEN ROWS OF THIS SEAT. 6 by the template 'for every input the law returns true; each argument reads behind the call as it read before'; 0 by the template 'total and deterministic' (their statements: YtamgbnjdpmlfdaaTotals.lean).
  GIVEN WITH THE SEED: the statements are not yours to turn. If you find one false, say at which input.
  Laid BY PROGRAM, IN A SANDBOX (cutbox-rows.mjs): the forced cells as the released guide's own fill.sh prints them over the translation e848527c1293d481… (all of the seat's roots in one cut). By AI agents, Wed Nov 11 2026. No macro, syntax, notation, axiom, sorry.
-/
import Derived.Test.YtamgbnjdpmlfdaaChecked
import GoSem.Claim
import GoSem.ClaimJoined
import GoSem.ClaimMapViews
import Derived.JoinedTies
import Derived.KernelRfl
namespace Go.Proofs.Ytamgbnjdpmlfdaa
/- THE CELL 'sum', in the pinned program and in every row, IS THE sha256 OF THE DUMP (.gsa) THAT YtamgbnjdpmlfdaaProg.lean LOADS. Nothing in Lean hashes anything: it is a label: what it is worth is what the hold of that sum in a sandbox is worth. -/
noncomputable def Try.pinned : Pinned := { name := "ytamgbnjdpmlfdaa", sum := "e848527c1293d481db055c106c7189bc5817079553f8baf9e2e0982688afe114", checked := Try.checked }
namespace Rows
def none {H : Type} : Left H := { results := [], args := [] }

/-- 'tableaulaw07.RectCorners': WHATEVER THE INPUT: true; the input reads as it did. -/
def rectCornersSpec : ChangeSpec := { name := "rectCorners", fn := fun _ => fun
  | [d] => { results := [.lit (.bool true)], args := [d] }
  | _ => none }
def rectCornersRow : OpenClaim := { program := "ytamgbnjdpmlfdaa", sum := "e848527c1293d481db055c106c7189bc5817079553f8baf9e2e0982688afe114", func := "tableau/tableaulaw07.RectCorners", spec := "rectCorners", apart := false }
def RectCornersSaid : Prop := rectCornersRow.holds Try.pinned (OpenSpec.ofChange rectCornersSpec)

/-- ITS FALSE NEIGHBOUR: 'it returns false'. Refute it at one input. -/
def rectCornersWrong : ChangeSpec := { name := "rectCorners", fn := fun _ => fun
  | [d] => { results := [.lit (.bool false)], args := [d] }
  | _ => none }
def RectCornersWrongFalsely : Prop := rectCornersRow.holds Try.pinned (OpenSpec.ofChange rectCornersWrong)

/-- 'tableaulaw07.RectCovers': WHATEVER THE INPUT: true; the input reads as it did. -/
def rectCoversSpec : ChangeSpec := { name := "rectCovers", fn := fun _ => fun
  | [d1, d2] => { results := [.lit (.bool true)], args := [d1, d2] }
  | _ => none }
def rectCoversRow : OpenClaim := { program := "ytamgbnjdpmlfdaa", sum := "e848527c1293d481db055c106c7189bc5817079553f8baf9e2e0982688afe114", func := "tableau/tableaulaw07.RectCovers", spec := "rectCovers", apart := false }
def RectCoversSaid : Prop := rectCoversRow.holds Try.pinned (OpenSpec.ofChange rectCoversSpec)

/-- ITS FALSE NEIGHBOUR: 'it returns false'. Refute it at one input. -/
def rectCoversWrong : ChangeSpec := { name := "rectCovers", fn := fun _ => fun
  | [d1, d2] => { results := [.lit (.bool false)], args := [d1, d2] }
  | _ => none }
def RectCoversWrongFalsely : Prop := rectCoversRow.holds Try.pinned (OpenSpec.ofChange rectCoversWrong)

/-- 'tableaulaw07.RectBounds': WHATEVER THE INPUT: true; the input reads as it did. -/
def rectBoundsSpec : ChangeSpec := { name := "rectBounds", fn := fun _ => fun
  | [d1, d2, d3] => { results := [.lit (.bool true)], args := [d1, d2, d3] }
  | _ => none }
def rectBoundsRow : OpenClaim := { program := "ytamgbnjdpmlfdaa", sum := "e848527c1293d481db055c106c7189bc5817079553f8baf9e2e0982688afe114", func := "tableau/tableaulaw07.RectBounds", spec := "rectBounds", apart := false }
def RectBoundsSaid : Prop := rectBoundsRow.holds Try.pinned (OpenSpec.ofChange rectBoundsSpec)

/-- ITS FALSE NEIGHBOUR: 'it returns false'. Refute it at one input. -/
def rectBoundsWrong : ChangeSpec := { name := "rectBounds", fn := fun _ => fun
  | [d1, d2, d3] => { results := [.lit (.bool false)], args := [d1, d2, d3] }
  | _ => none }
def RectBoundsWrongFalsely : Prop := rectBoundsRow.holds Try.pinned (OpenSpec.ofChange rectBoundsWrong)

/-- 'tableaulaw07.RectOrder': WHATEVER THE INPUT: true; the input reads as it did. -/
def rectOrderSpec : ChangeSpec := { name := "rectOrder", fn := fun _ => fun
  | [d1, d2] => { results := [.lit (.bool true)], args := [d1, d2] }
  | _ => none }
def rectOrderRow : OpenClaim := { program := "ytamgbnjdpmlfdaa", sum := "e848527c1293d481db055c106c7189bc5817079553f8baf9e2e0982688afe114", func := "tableau/tableaulaw07.RectOrder", spec := "rectOrder", apart := false }
def RectOrderSaid : Prop := rectOrderRow.holds Try.pinned (OpenSpec.ofChange rectOrderSpec)

/-- ITS FALSE NEIGHBOUR: 'it returns false'. Refute it at one input. -/
def rectOrderWrong : ChangeSpec := { name := "rectOrder", fn := fun _ => fun
  | [d1, d2] => { results := [.lit (.bool false)], args := [d1, d2] }
  | _ => none }
def RectOrderWrongFalsely : Prop := rectOrderRow.holds Try.pinned (OpenSpec.ofChange rectOrderWrong)

/-- 'tableaulaw07.RectPoints': WHATEVER THE INPUT: true; the input reads as it did. -/
def rectPointsSpec : ChangeSpec := { name := "rectPoints", fn := fun _ => fun
  | [d1, d2, d3, d4, d5, d6] => { results := [.lit (.bool true)], args := [d1, d2, d3, d4, d5, d6] }
  | _ => none }
def rectPointsRow : OpenClaim := { program := "ytamgbnjdpmlfdaa", sum := "e848527c1293d481db055c106c7189bc5817079553f8baf9e2e0982688afe114", func := "tableau/tableaulaw07.RectPoints", spec := "rectPoints", apart := false }
def RectPointsSaid : Prop := rectPointsRow.holds Try.pinned (OpenSpec.ofChange rectPointsSpec)

/-- ITS FALSE NEIGHBOUR: 'it returns false'. Refute it at one input. -/
def rectPointsWrong : ChangeSpec := { name := "rectPoints", fn := fun _ => fun
  | [d1, d2, d3, d4, d5, d6] => { results := [.lit (.bool false)], args := [d1, d2, d3, d4, d5, d6] }
  | _ => none }
def RectPointsWrongFalsely : Prop := rectPointsRow.holds Try.pinned (OpenSpec.ofChange rectPointsWrong)

/-- 'tableaulaw07.RectAll': WHATEVER THE INPUT: true; the input reads as it did. -/
def rectAllSpec : ChangeSpec := { name := "rectAll", fn := fun _ => fun
  | [d1, d2, d3, d4] => { results := [.lit (.bool true)], args := [d1, d2, d3, d4] }
  | _ => none }
def rectAllRow : OpenClaim := { program := "ytamgbnjdpmlfdaa", sum := "e848527c1293d481db055c106c7189bc5817079553f8baf9e2e0982688afe114", func := "tableau/tableaulaw07.RectAll", spec := "rectAll", apart := false }
def RectAllSaid : Prop := rectAllRow.holds Try.pinned (OpenSpec.ofChange rectAllSpec)

/-- ITS FALSE NEIGHBOUR: 'it returns false'. Refute it at one input. -/
def rectAllWrong : ChangeSpec := { name := "rectAll", fn := fun _ => fun
  | [d1, d2, d3, d4] => { results := [.lit (.bool false)], args := [d1, d2, d3, d4] }
  | _ => none }
def RectAllWrongFalsely : Prop := rectAllRow.holds Try.pinned (OpenSpec.ofChange rectAllWrong)

/- THE SECOND FORM. 'bulk': how many values and letters a reading holds, each counted each time it is reached (what is shared counts as often as it is met; a slice's spare places count too). A statement '..UptoSaid' is the law's where the arguments, and the package variables that the reading takes, are together of bulk at most 1048576: NARROWER than '..Said'. Prove '..Said' where nothing that the law and all that it calls make is longer than what came in: it says more and counts as full. Else prove '..UptoSaid'. A law counts once. -/
mutual
def uptoBulk {H : Type} : DataW H → Nat
  | .lit (.string bytes) => bytes.length + 1
  | .lit _ => 1
  | .nil => 1
  | .ptr d => uptoBulk d + 1
  | .slice elems spare => uptoBulkAll elems + uptoBulkAll spare + 1
  | .agg parts => uptoBulkAll parts + 1
  | .iface _ d => uptoBulk d + 1
  | .map entries => uptoBulkEntries entries + 1
  | .held _ => 1
def uptoBulkAll {H : Type} : List (DataW H) → Nat
  | [] => 0
  | d :: r => uptoBulk d + uptoBulkAll r
def uptoBulkEntries {H : Type} : List (Lit × DataW H) → Nat
  | [] => 0
  | x :: r => uptoBulkEntry x + uptoBulkEntries r
def uptoBulkEntry {H : Type} : Lit × DataW H → Nat
  | (.string bytes, d) => bytes.length + uptoBulk d + 1
  | (_, d) => uptoBulk d + 1
 end
def uptoSmall : (H : Type) → List (DataW H) → Bool := fun _ ds => decide (uptoBulkAll ds ≤ 1048576)
def OpenSpec.upto (s : _root_.Go.ChangeSpec) : _root_.Go.OpenSpec := { _root_.Go.OpenSpec.ofChange s with cond := some uptoSmall }

/-- 'tableaulaw07.RectCorners', WHERE WHAT IT READS IS OF BULK AT MOST 1048576: true; the input reads as it did. -/
def rectCornersUptoRow : OpenClaim := { program := "ytamgbnjdpmlfdaa", sum := "e848527c1293d481db055c106c7189bc5817079553f8baf9e2e0982688afe114", func := "tableau/tableaulaw07.RectCorners", spec := "rectCorners", apart := false, narrowed := true }
def RectCornersUptoSaid : Prop := rectCornersUptoRow.holds Try.pinned (OpenSpec.upto rectCornersSpec)

/-- 'tableaulaw07.RectCovers', WHERE WHAT IT READS IS OF BULK AT MOST 1048576: true; the input reads as it did. -/
def rectCoversUptoRow : OpenClaim := { program := "ytamgbnjdpmlfdaa", sum := "e848527c1293d481db055c106c7189bc5817079553f8baf9e2e0982688afe114", func := "tableau/tableaulaw07.RectCovers", spec := "rectCovers", apart := false, narrowed := true }
def RectCoversUptoSaid : Prop := rectCoversUptoRow.holds Try.pinned (OpenSpec.upto rectCoversSpec)

/-- 'tableaulaw07.RectBounds', WHERE WHAT IT READS IS OF BULK AT MOST 1048576: true; the input reads as it did. -/
def rectBoundsUptoRow : OpenClaim := { program := "ytamgbnjdpmlfdaa", sum := "e848527c1293d481db055c106c7189bc5817079553f8baf9e2e0982688afe114", func := "tableau/tableaulaw07.RectBounds", spec := "rectBounds", apart := false, narrowed := true }
def RectBoundsUptoSaid : Prop := rectBoundsUptoRow.holds Try.pinned (OpenSpec.upto rectBoundsSpec)

/-- 'tableaulaw07.RectOrder', WHERE WHAT IT READS IS OF BULK AT MOST 1048576: true; the input reads as it did. -/
def rectOrderUptoRow : OpenClaim := { program := "ytamgbnjdpmlfdaa", sum := "e848527c1293d481db055c106c7189bc5817079553f8baf9e2e0982688afe114", func := "tableau/tableaulaw07.RectOrder", spec := "rectOrder", apart := false, narrowed := true }
def RectOrderUptoSaid : Prop := rectOrderUptoRow.holds Try.pinned (OpenSpec.upto rectOrderSpec)

/-- 'tableaulaw07.RectPoints', WHERE WHAT IT READS IS OF BULK AT MOST 1048576: true; the input reads as it did. -/
def rectPointsUptoRow : OpenClaim := { program := "ytamgbnjdpmlfdaa", sum := "e848527c1293d481db055c106c7189bc5817079553f8baf9e2e0982688afe114", func := "tableau/tableaulaw07.RectPoints", spec := "rectPoints", apart := false, narrowed := true }
def RectPointsUptoSaid : Prop := rectPointsUptoRow.holds Try.pinned (OpenSpec.upto rectPointsSpec)

/-- 'tableaulaw07.RectAll', WHERE WHAT IT READS IS OF BULK AT MOST 1048576: true; the input reads as it did. -/
def rectAllUptoRow : OpenClaim := { program := "ytamgbnjdpmlfdaa", sum := "e848527c1293d481db055c106c7189bc5817079553f8baf9e2e0982688afe114", func := "tableau/tableaulaw07.RectAll", spec := "rectAll", apart := false, narrowed := true }
def RectAllUptoSaid : Prop := rectAllUptoRow.holds Try.pinned (OpenSpec.upto rectAllSpec)

end Rows
end Go.Proofs.Ytamgbnjdpmlfdaa
