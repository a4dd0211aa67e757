/-
  No cell of these rows narrows 'for every input' (looked for: loops, veiled, ifaces, maps, wideKeys, modest, calm, conditions, laid).
  DERIVED. THE GIVEN ROWS OF THIS SEAT. 6 by the template 'for every input the law returns true; each argument reads behind the call as it read before'; 0 by the template 'total and deterministic' (their statements: YtclpppejabfbbaaTotals.lean).
  GIVEN WITH THE SEED: the statements are not yours to turn. If you find one false, say at which input.
  Laid BY PROGRAM, IN A SANDBOX (cutbox-rows.mjs): the forced cells as the released guide's own fill.sh prints them over the translation ab09df2f1d23a0d7… (all of the seat's roots in one cut). By AI agents, Wed Nov 11 2026. No macro, syntax, notation, axiom, sorry.
-/
import Derived.Test.YtclpppejabfbbaaChecked
import GoSem.Claim
import GoSem.ClaimJoined
import GoSem.ClaimMapViews
import Derived.JoinedTies
import Derived.KernelRfl
namespace Go.Proofs.Ytclpppejabfbbaa
/- THE CELL 'sum', in the pinned program and in every row, IS THE sha256 OF THE DUMP (.gsa) THAT YtclpppejabfbbaaProg.lean LOADS. Nothing in Lean hashes anything: it is a label: what it is worth is what the hold of that sum in a sandbox is worth. -/
noncomputable def Try.pinned : Pinned := { name := "ytclpppejabfbbaa", sum := "ab09df2f1d23a0d7534f248244a826b60f90a16543985e14b0360f5470497222", checked := Try.checked }
namespace Rows
def none {H : Type} : Left H := { results := [], args := [] }

/-- 'tableaulaw08.RegionPoints': WHATEVER THE INPUT: true; the input reads as it did. -/
def regionPointsSpec : ChangeSpec := { name := "regionPoints", fn := fun _ => fun
  | [d1, d2, d3, d4] => { results := [.lit (.bool true)], args := [d1, d2, d3, d4] }
  | _ => none }
def regionPointsRow : OpenClaim := { program := "ytclpppejabfbbaa", sum := "ab09df2f1d23a0d7534f248244a826b60f90a16543985e14b0360f5470497222", func := "tableau/tableaulaw08.RegionPoints", spec := "regionPoints", unfollowed := true, recurses := true, apart := false }
def RegionPointsSaid : Prop := regionPointsRow.holds Try.pinned (OpenSpec.ofChange regionPointsSpec)

/-- ITS FALSE NEIGHBOUR: 'it returns false'. Refute it at one input. -/
def regionPointsWrong : ChangeSpec := { name := "regionPoints", fn := fun _ => fun
  | [d1, d2, d3, d4] => { results := [.lit (.bool false)], args := [d1, d2, d3, d4] }
  | _ => none }
def RegionPointsWrongFalsely : Prop := regionPointsRow.holds Try.pinned (OpenSpec.ofChange regionPointsWrong)

/-- 'tableaulaw09.DamageOrders': WHATEVER THE INPUT: true; the input reads as it did. -/
def damageOrdersSpec : ChangeSpec := { name := "damageOrders", fn := fun _ => fun
  | [d1, d2] => { results := [.lit (.bool true)], args := [d1, d2] }
  | _ => none }
def damageOrdersRow : OpenClaim := { program := "ytclpppejabfbbaa", sum := "ab09df2f1d23a0d7534f248244a826b60f90a16543985e14b0360f5470497222", func := "tableau/tableaulaw09.DamageOrders", spec := "damageOrders", unfollowed := true, recurses := true, apart := false }
def DamageOrdersSaid : Prop := damageOrdersRow.holds Try.pinned (OpenSpec.ofChange damageOrdersSpec)

/-- ITS FALSE NEIGHBOUR: 'it returns false'. Refute it at one input. -/
def damageOrdersWrong : ChangeSpec := { name := "damageOrders", fn := fun _ => fun
  | [d1, d2] => { results := [.lit (.bool false)], args := [d1, d2] }
  | _ => none }
def DamageOrdersWrongFalsely : Prop := damageOrdersRow.holds Try.pinned (OpenSpec.ofChange damageOrdersWrong)

/-- 'tableaulaw09.DamageAll': WHATEVER THE INPUT: true; the input reads as it did. -/
def damageAllSpec : ChangeSpec := { name := "damageAll", fn := fun _ => fun
  | [d1, d2, d3, d4] => { results := [.lit (.bool true)], args := [d1, d2, d3, d4] }
  | _ => none }
def damageAllRow : OpenClaim := { program := "ytclpppejabfbbaa", sum := "ab09df2f1d23a0d7534f248244a826b60f90a16543985e14b0360f5470497222", func := "tableau/tableaulaw09.DamageAll", spec := "damageAll", unfollowed := true, recurses := true, apart := false }
def DamageAllSaid : Prop := damageAllRow.holds Try.pinned (OpenSpec.ofChange damageAllSpec)

/-- ITS FALSE NEIGHBOUR: 'it returns false'. Refute it at one input. -/
def damageAllWrong : ChangeSpec := { name := "damageAll", fn := fun _ => fun
  | [d1, d2, d3, d4] => { results := [.lit (.bool false)], args := [d1, d2, d3, d4] }
  | _ => none }
def DamageAllWrongFalsely : Prop := damageAllRow.holds Try.pinned (OpenSpec.ofChange damageAllWrong)

/-- 'tableaulaw08.RegionAll': WHATEVER THE INPUT: true; the input reads as it did. -/
def regionAllSpec : ChangeSpec := { name := "regionAll", fn := fun _ => fun
  | [d1, d2, d3, d4, d5] => { results := [.lit (.bool true)], args := [d1, d2, d3, d4, d5] }
  | _ => none }
def regionAllRow : OpenClaim := { program := "ytclpppejabfbbaa", sum := "ab09df2f1d23a0d7534f248244a826b60f90a16543985e14b0360f5470497222", func := "tableau/tableaulaw08.RegionAll", spec := "regionAll", unfollowed := true, recurses := true, apart := false }
def RegionAllSaid : Prop := regionAllRow.holds Try.pinned (OpenSpec.ofChange regionAllSpec)

/-- ITS FALSE NEIGHBOUR: 'it returns false'. Refute it at one input. -/
def regionAllWrong : ChangeSpec := { name := "regionAll", fn := fun _ => fun
  | [d1, d2, d3, d4, d5] => { results := [.lit (.bool false)], args := [d1, d2, d3, d4, d5] }
  | _ => none }
def RegionAllWrongFalsely : Prop := regionAllRow.holds Try.pinned (OpenSpec.ofChange regionAllWrong)

/-- 'tableaulaw24.RepaintChanges': WHATEVER THE INPUT: true; the input reads as it did. -/
def repaintChangesSpec : ChangeSpec := { name := "repaintChanges", fn := fun _ => fun
  | [d1, d2, d3] => { results := [.lit (.bool true)], args := [d1, d2, d3] }
  | _ => none }
def repaintChangesRow : OpenClaim := { program := "ytclpppejabfbbaa", sum := "ab09df2f1d23a0d7534f248244a826b60f90a16543985e14b0360f5470497222", func := "tableau/tableaulaw24.RepaintChanges", spec := "repaintChanges", unfollowed := true, recurses := true, apart := false }
def RepaintChangesSaid : Prop := repaintChangesRow.holds Try.pinned (OpenSpec.ofChange repaintChangesSpec)

/-- ITS FALSE NEIGHBOUR: 'it returns false'. Refute it at one input. -/
def repaintChangesWrong : ChangeSpec := { name := "repaintChanges", fn := fun _ => fun
  | [d1, d2, d3] => { results := [.lit (.bool false)], args := [d1, d2, d3] }
  | _ => none }
def RepaintChangesWrongFalsely : Prop := repaintChangesRow.holds Try.pinned (OpenSpec.ofChange repaintChangesWrong)

/-- 'tableaulaw24.RepaintTurns': WHATEVER THE INPUT: true; the input reads as it did. -/
def repaintTurnsSpec : ChangeSpec := { name := "repaintTurns", fn := fun _ => fun
  | [d1, d2, d3] => { results := [.lit (.bool true)], args := [d1, d2, d3] }
  | _ => none }
def repaintTurnsRow : OpenClaim := { program := "ytclpppejabfbbaa", sum := "ab09df2f1d23a0d7534f248244a826b60f90a16543985e14b0360f5470497222", func := "tableau/tableaulaw24.RepaintTurns", spec := "repaintTurns", unfollowed := true, recurses := true, apart := false }
def RepaintTurnsSaid : Prop := repaintTurnsRow.holds Try.pinned (OpenSpec.ofChange repaintTurnsSpec)

/-- ITS FALSE NEIGHBOUR: 'it returns false'. Refute it at one input. -/
def repaintTurnsWrong : ChangeSpec := { name := "repaintTurns", fn := fun _ => fun
  | [d1, d2, d3] => { results := [.lit (.bool false)], args := [d1, d2, d3] }
  | _ => none }
def RepaintTurnsWrongFalsely : Prop := repaintTurnsRow.holds Try.pinned (OpenSpec.ofChange repaintTurnsWrong)

/- THE SECOND FORM. 'bulk': how many values and letters a reading holds, each counted each time it is reached (what is shared counts as often as it is met; a slice's spare places count too). A statement '..UptoSaid' is the law's where the arguments, and the package variables that the reading takes, are together of bulk at most 1048576: NARROWER than '..Said'. Prove '..Said' where nothing that the law and all that it calls make is longer than what came in: it says more and counts as full. Else prove '..UptoSaid'. A law counts once. -/
mutual
def uptoBulk {H : Type} : DataW H → Nat
  | .lit (.string bytes) => bytes.length + 1
  | .lit _ => 1
  | .nil => 1
  | .ptr d => uptoBulk d + 1
  | .slice elems spare => uptoBulkAll elems + uptoBulkAll spare + 1
  | .agg parts => uptoBulkAll parts + 1
  | .iface _ d => uptoBulk d + 1
  | .map entries => uptoBulkEntries entries + 1
  | .held _ => 1
def uptoBulkAll {H : Type} : List (DataW H) → Nat
  | [] => 0
  | d :: r => uptoBulk d + uptoBulkAll r
def uptoBulkEntries {H : Type} : List (Lit × DataW H) → Nat
  | [] => 0
  | x :: r => uptoBulkEntry x + uptoBulkEntries r
def uptoBulkEntry {H : Type} : Lit × DataW H → Nat
  | (.string bytes, d) => bytes.length + uptoBulk d + 1
  | (_, d) => uptoBulk d + 1
 end
def uptoSmall : (H : Type) → List (DataW H) → Bool := fun _ ds => decide (uptoBulkAll ds ≤ 1048576)
def OpenSpec.upto (s : _root_.Go.ChangeSpec) : _root_.Go.OpenSpec := { _root_.Go.OpenSpec.ofChange s with cond := some uptoSmall }

/-- 'tableaulaw08.RegionPoints', WHERE WHAT IT READS IS OF BULK AT MOST 1048576: true; the input reads as it did. -/
def regionPointsUptoRow : OpenClaim := { program := "ytclpppejabfbbaa", sum := "ab09df2f1d23a0d7534f248244a826b60f90a16543985e14b0360f5470497222", func := "tableau/tableaulaw08.RegionPoints", spec := "regionPoints", unfollowed := true, recurses := true, apart := false, narrowed := true }
def RegionPointsUptoSaid : Prop := regionPointsUptoRow.holds Try.pinned (OpenSpec.upto regionPointsSpec)

/-- 'tableaulaw09.DamageOrders', WHERE WHAT IT READS IS OF BULK AT MOST 1048576: true; the input reads as it did. -/
def damageOrdersUptoRow : OpenClaim := { program := "ytclpppejabfbbaa", sum := "ab09df2f1d23a0d7534f248244a826b60f90a16543985e14b0360f5470497222", func := "tableau/tableaulaw09.DamageOrders", spec := "damageOrders", unfollowed := true, recurses := true, apart := false, narrowed := true }
def DamageOrdersUptoSaid : Prop := damageOrdersUptoRow.holds Try.pinned (OpenSpec.upto damageOrdersSpec)

/-- 'tableaulaw09.DamageAll', WHERE WHAT IT READS IS OF BULK AT MOST 1048576: true; the input reads as it did. -/
def damageAllUptoRow : OpenClaim := { program := "ytclpppejabfbbaa", sum := "ab09df2f1d23a0d7534f248244a826b60f90a16543985e14b0360f5470497222", func := "tableau/tableaulaw09.DamageAll", spec := "damageAll", unfollowed := true, recurses := true, apart := false, narrowed := true }
def DamageAllUptoSaid : Prop := damageAllUptoRow.holds Try.pinned (OpenSpec.upto damageAllSpec)

/-- 'tableaulaw08.RegionAll', WHERE WHAT IT READS IS OF BULK AT MOST 1048576: true; the input reads as it did. -/
def regionAllUptoRow : OpenClaim := { program := "ytclpppejabfbbaa", sum := "ab09df2f1d23a0d7534f248244a826b60f90a16543985e14b0360f5470497222", func := "tableau/tableaulaw08.RegionAll", spec := "regionAll", unfollowed := true, recurses := true, apart := false, narrowed := true }
def RegionAllUptoSaid : Prop := regionAllUptoRow.holds Try.pinned (OpenSpec.upto regionAllSpec)

/-- 'tableaulaw24.RepaintChanges', WHERE WHAT IT READS IS OF BULK AT MOST 1048576: true; the input reads as it did. -/
def repaintChangesUptoRow : OpenClaim := { program := "ytclpppejabfbbaa", sum := "ab09df2f1d23a0d7534f248244a826b60f90a16543985e14b0360f5470497222", func := "tableau/tableaulaw24.RepaintChanges", spec := "repaintChanges", unfollowed := true, recurses := true, apart := false, narrowed := true }
def RepaintChangesUptoSaid : Prop := repaintChangesUptoRow.holds Try.pinned (OpenSpec.upto repaintChangesSpec)

/-- 'tableaulaw24.RepaintTurns', WHERE WHAT IT READS IS OF BULK AT MOST 1048576: true; the input reads as it did. -/
def repaintTurnsUptoRow : OpenClaim := { program := "ytclpppejabfbbaa", sum := "ab09df2f1d23a0d7534f248244a826b60f90a16543985e14b0360f5470497222", func := "tableau/tableaulaw24.RepaintTurns", spec := "repaintTurns", unfollowed := true, recurses := true, apart := false, narrowed := true }
def RepaintTurnsUptoSaid : Prop := repaintTurnsUptoRow.holds Try.pinned (OpenSpec.upto repaintTurnsSpec)

end Rows
end Go.Proofs.Ytclpppejabfbbaa
