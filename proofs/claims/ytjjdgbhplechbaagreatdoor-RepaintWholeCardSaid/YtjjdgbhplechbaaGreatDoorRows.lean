/-
  NARROWER THAN 'FOR EVERY INPUT', by the rows' own cells (each row's printed sentence says how): RepaintParts: laid · RepaintWhole: laid.
  DERIVED. THE GIVEN ROWS OF THIS SEAT. 2 by the template 'for every input the law returns true; each argument reads behind the call as it read before'; 0 by the template 'total and deterministic' (their statements: YtjjdgbhplechbaaGreatDoorTotals.lean).
  GIVEN WITH THE SEED: the statements are not yours to turn. If you find one false, say at which input.
  Laid BY PROGRAM, IN A SANDBOX (cutbox-rows.mjs): the forced cells as the released guide's own fill.sh prints them over the translation f79dface748e2f99… (all of the seat's roots in one cut). By AI agents, Wed Nov 11 2026. No macro, syntax, notation, axiom, sorry.
-/
import Derived.Test.YtjjdgbhplechbaaGreatDoorChecked
import GoSem.Claim
import GoSem.ClaimJoined
import GoSem.ClaimMapViews
import Derived.JoinedTies
import Derived.KernelRfl
namespace Go.Proofs.YtjjdgbhplechbaaGreatDoor
/- THE CELL 'sum', in the pinned program and in every row, IS THE sha256 OF THE DUMP (.gsa) THAT YtjjdgbhplechbaaGreatDoorProg.lean LOADS. Nothing in Lean hashes anything: it is a label: what it is worth is what the hold of that sum in a sandbox is worth. -/
noncomputable def Tryz.pinned : Pinned := { name := "ytjjdgbhplechbaagreatdoor", sum := "f79dface748e2f9947570cbcecdd52bc6ca50fcded99d7cec7bcaa2550a72c6f", checked := Tryz.checked }
namespace Rows
def none {H : Type} : Left H := { results := [], args := [] }

/- WHAT THE LISTED PACKAGE-LEVEL VARIABLES READ AS WHEN THE CALL BEGINS. Each datum BY PROGRAM (the guide's laid-datum.mjs) off the statement by which the dump's own 'gosem.cut.vars' lays the variable. In a bare row this is a premise. The card (YtjjdgbhplechbaaGreatDoorCards.lean) ties it to the program's text. -/
def laid_tableau_api_ErrArg {H : Type} : DataW H := .iface "*errors.errorString" (.ptr (.agg [.lit (.string [97, 114, 103, 117, 109, 101, 110, 116])]))

/-- 'tableaulaw24.RepaintParts': WHATEVER THE INPUT: true; the input reads as it did. -/
def repaintPartsSpec : ChangeSpec := { name := "repaintParts", fn := fun _ => fun
  | [d1, d2, d3, d4, d5] => { results := [.lit (.bool true)], args := [d1, d2, d3, d4, d5] }
  | _ => none }
def repaintPartsRow : OpenClaim := { program := "ytjjdgbhplechbaagreatdoor", sum := "f79dface748e2f9947570cbcecdd52bc6ca50fcded99d7cec7bcaa2550a72c6f", func := "tableau/tableaulaw24.RepaintParts", spec := "repaintParts", unfollowed := true, recurses := true, named := ["tableau/api.ErrArg"], apart := false, laid := [("tableau/api.ErrArg", laid_tableau_api_ErrArg)] }
def RepaintPartsSaid : Prop := repaintPartsRow.holds Tryz.pinned (OpenSpec.ofChange repaintPartsSpec)

/-- ITS FALSE NEIGHBOUR: 'it returns false'. Refute it at one input. -/
def repaintPartsWrong : ChangeSpec := { name := "repaintParts", fn := fun _ => fun
  | [d1, d2, d3, d4, d5] => { results := [.lit (.bool false)], args := [d1, d2, d3, d4, d5] }
  | _ => none }
def RepaintPartsWrongFalsely : Prop := repaintPartsRow.holds Tryz.pinned (OpenSpec.ofChange repaintPartsWrong)

/-- 'tableaulaw24.RepaintWhole': WHATEVER THE INPUT: true; the input reads as it did. -/
def repaintWholeSpec : ChangeSpec := { name := "repaintWhole", fn := fun _ => fun
  | [d1, d2, d3, d4] => { results := [.lit (.bool true)], args := [d1, d2, d3, d4] }
  | _ => none }
def repaintWholeRow : OpenClaim := { program := "ytjjdgbhplechbaagreatdoor", sum := "f79dface748e2f9947570cbcecdd52bc6ca50fcded99d7cec7bcaa2550a72c6f", func := "tableau/tableaulaw24.RepaintWhole", spec := "repaintWhole", unfollowed := true, recurses := true, named := ["tableau/api.ErrArg"], apart := false, laid := [("tableau/api.ErrArg", laid_tableau_api_ErrArg)] }
def RepaintWholeSaid : Prop := repaintWholeRow.holds Tryz.pinned (OpenSpec.ofChange repaintWholeSpec)

/-- ITS FALSE NEIGHBOUR: 'it returns false'. Refute it at one input. -/
def repaintWholeWrong : ChangeSpec := { name := "repaintWhole", fn := fun _ => fun
  | [d1, d2, d3, d4] => { results := [.lit (.bool false)], args := [d1, d2, d3, d4] }
  | _ => none }
def RepaintWholeWrongFalsely : Prop := repaintWholeRow.holds Tryz.pinned (OpenSpec.ofChange repaintWholeWrong)

/- THE SECOND FORM. 'bulk': how many values and letters a reading holds, each counted each time it is reached (what is shared counts as often as it is met; a slice's spare places count too). A statement '..UptoSaid' is the law's where the arguments, and the package variables that the reading takes, are together of bulk at most 1048576: NARROWER than '..Said'. Prove '..Said' where nothing that the law and all that it calls make is longer than what came in: it says more and counts as full. Else prove '..UptoSaid'. A law counts once. -/
mutual
def uptoBulk {H : Type} : DataW H → Nat
  | .lit (.string bytes) => bytes.length + 1
  | .lit _ => 1
  | .nil => 1
  | .ptr d => uptoBulk d + 1
  | .slice elems spare => uptoBulkAll elems + uptoBulkAll spare + 1
  | .agg parts => uptoBulkAll parts + 1
  | .iface _ d => uptoBulk d + 1
  | .map entries => uptoBulkEntries entries + 1
  | .held _ => 1
def uptoBulkAll {H : Type} : List (DataW H) → Nat
  | [] => 0
  | d :: r => uptoBulk d + uptoBulkAll r
def uptoBulkEntries {H : Type} : List (Lit × DataW H) → Nat
  | [] => 0
  | x :: r => uptoBulkEntry x + uptoBulkEntries r
def uptoBulkEntry {H : Type} : Lit × DataW H → Nat
  | (.string bytes, d) => bytes.length + uptoBulk d + 1
  | (_, d) => uptoBulk d + 1
 end
def uptoSmall : (H : Type) → List (DataW H) → Bool := fun _ ds => decide (uptoBulkAll ds ≤ 1048576)
def OpenSpec.upto (s : _root_.Go.ChangeSpec) : _root_.Go.OpenSpec := { _root_.Go.OpenSpec.ofChange s with cond := some uptoSmall }

/-- 'tableaulaw24.RepaintParts', WHERE WHAT IT READS IS OF BULK AT MOST 1048576: true; the input reads as it did. -/
def repaintPartsUptoRow : OpenClaim := { program := "ytjjdgbhplechbaagreatdoor", sum := "f79dface748e2f9947570cbcecdd52bc6ca50fcded99d7cec7bcaa2550a72c6f", func := "tableau/tableaulaw24.RepaintParts", spec := "repaintParts", unfollowed := true, recurses := true, named := ["tableau/api.ErrArg"], apart := false, laid := [("tableau/api.ErrArg", laid_tableau_api_ErrArg)], narrowed := true }
def RepaintPartsUptoSaid : Prop := repaintPartsUptoRow.holds Tryz.pinned (OpenSpec.upto repaintPartsSpec)

/-- 'tableaulaw24.RepaintWhole', WHERE WHAT IT READS IS OF BULK AT MOST 1048576: true; the input reads as it did. -/
def repaintWholeUptoRow : OpenClaim := { program := "ytjjdgbhplechbaagreatdoor", sum := "f79dface748e2f9947570cbcecdd52bc6ca50fcded99d7cec7bcaa2550a72c6f", func := "tableau/tableaulaw24.RepaintWhole", spec := "repaintWhole", unfollowed := true, recurses := true, named := ["tableau/api.ErrArg"], apart := false, laid := [("tableau/api.ErrArg", laid_tableau_api_ErrArg)], narrowed := true }
def RepaintWholeUptoSaid : Prop := repaintWholeUptoRow.holds Tryz.pinned (OpenSpec.upto repaintWholeSpec)

end Rows
end Go.Proofs.YtjjdgbhplechbaaGreatDoor
