/-
  No cell of these rows narrows 'for every input' (looked for: loops, veiled, ifaces, maps, wideKeys, modest, calm, conditions, laid).
  DERIVED. THE GIVEN ROWS OF THIS SEAT. 12 by the template 'for every input the law returns true; each argument reads behind the call as it read before'; 0 by the template 'total and deterministic' (their statements: YtogcokfildbodaaTotals.lean).
  GIVEN WITH THE SEED: the statements are not yours to turn. If you find one false, say at which input.
  Laid BY PROGRAM, IN A SANDBOX (cutbox-rows.mjs): the forced cells as the released guide's own fill.sh prints them over the translation 474a66d2a1f782dd… (all of the seat's roots in one cut). By AI agents, Wed Nov 11 2026. No macro, syntax, notation, axiom, sorry.
-/
import Derived.Test.YtogcokfildbodaaChecked
import GoSem.Claim
import GoSem.ClaimJoined
import GoSem.ClaimMapViews
import Derived.JoinedTies
import Derived.KernelRfl
namespace Go.Proofs.Ytogcokfildbodaa
/- THE CELL 'sum', in the pinned program and in every row, IS THE sha256 OF THE DUMP (.gsa) THAT YtogcokfildbodaaProg.lean LOADS. Nothing in Lean hashes anything: it is a label: what it is worth is what the hold of that sum in a sandbox is worth. -/
noncomputable def Try.pinned : Pinned := { name := "ytogcokfildbodaa", sum := "474a66d2a1f782dd3c8e9ace0f6f834c59cecbd36f9e76d44321b7bc41a785bf", checked := Try.checked }
namespace Rows
def none {H : Type} : Left H := { results := [], args := [] }

/-- 'tableaulaw08.RegionOnes': WHATEVER THE INPUT: true; the input reads as it did. -/
def regionOnesSpec : ChangeSpec := { name := "regionOnes", fn := fun _ => fun
  | [] => { results := [.lit (.bool true)], args := [] }
  | _ => none }
def regionOnesRow : OpenClaim := { program := "ytogcokfildbodaa", sum := "474a66d2a1f782dd3c8e9ace0f6f834c59cecbd36f9e76d44321b7bc41a785bf", func := "tableau/tableaulaw08.RegionOnes", spec := "regionOnes", unfollowed := true, recurses := true, apart := false }
def RegionOnesSaid : Prop := regionOnesRow.holds Try.pinned (OpenSpec.ofChange regionOnesSpec)

/-- ITS FALSE NEIGHBOUR: 'it returns false'. Refute it at one input. -/
def regionOnesWrong : ChangeSpec := { name := "regionOnes", fn := fun _ => fun
  | [] => { results := [.lit (.bool false)], args := [] }
  | _ => none }
def RegionOnesWrongFalsely : Prop := regionOnesRow.holds Try.pinned (OpenSpec.ofChange regionOnesWrong)

/-- 'tableaulaw08.RegionGrids': WHATEVER THE INPUT: true; the input reads as it did. -/
def regionGridsSpec : ChangeSpec := { name := "regionGrids", fn := fun _ => fun
  | [d] => { results := [.lit (.bool true)], args := [d] }
  | _ => none }
def regionGridsRow : OpenClaim := { program := "ytogcokfildbodaa", sum := "474a66d2a1f782dd3c8e9ace0f6f834c59cecbd36f9e76d44321b7bc41a785bf", func := "tableau/tableaulaw08.RegionGrids", spec := "regionGrids", unfollowed := true, recurses := true, apart := false }
def RegionGridsSaid : Prop := regionGridsRow.holds Try.pinned (OpenSpec.ofChange regionGridsSpec)

/-- ITS FALSE NEIGHBOUR: 'it returns false'. Refute it at one input. -/
def regionGridsWrong : ChangeSpec := { name := "regionGrids", fn := fun _ => fun
  | [d] => { results := [.lit (.bool false)], args := [d] }
  | _ => none }
def RegionGridsWrongFalsely : Prop := regionGridsRow.holds Try.pinned (OpenSpec.ofChange regionGridsWrong)

/-- 'tableaulaw08.RegionPoints': WHATEVER THE INPUT: true; the input reads as it did. -/
def regionPointsSpec : ChangeSpec := { name := "regionPoints", fn := fun _ => fun
  | [d1, d2, d3, d4] => { results := [.lit (.bool true)], args := [d1, d2, d3, d4] }
  | _ => none }
def regionPointsRow : OpenClaim := { program := "ytogcokfildbodaa", sum := "474a66d2a1f782dd3c8e9ace0f6f834c59cecbd36f9e76d44321b7bc41a785bf", func := "tableau/tableaulaw08.RegionPoints", spec := "regionPoints", unfollowed := true, recurses := true, apart := false }
def RegionPointsSaid : Prop := regionPointsRow.holds Try.pinned (OpenSpec.ofChange regionPointsSpec)

/-- ITS FALSE NEIGHBOUR: 'it returns false'. Refute it at one input. -/
def regionPointsWrong : ChangeSpec := { name := "regionPoints", fn := fun _ => fun
  | [d1, d2, d3, d4] => { results := [.lit (.bool false)], args := [d1, d2, d3, d4] }
  | _ => none }
def RegionPointsWrongFalsely : Prop := regionPointsRow.holds Try.pinned (OpenSpec.ofChange regionPointsWrong)

/-- 'tableaulaw08.RegionAreas': WHATEVER THE INPUT: true; the input reads as it did. -/
def regionAreasSpec : ChangeSpec := { name := "regionAreas", fn := fun _ => fun
  | [d1, d2] => { results := [.lit (.bool true)], args := [d1, d2] }
  | _ => none }
def regionAreasRow : OpenClaim := { program := "ytogcokfildbodaa", sum := "474a66d2a1f782dd3c8e9ace0f6f834c59cecbd36f9e76d44321b7bc41a785bf", func := "tableau/tableaulaw08.RegionAreas", spec := "regionAreas", unfollowed := true, recurses := true, apart := false }
def RegionAreasSaid : Prop := regionAreasRow.holds Try.pinned (OpenSpec.ofChange regionAreasSpec)

/-- ITS FALSE NEIGHBOUR: 'it returns false'. Refute it at one input. -/
def regionAreasWrong : ChangeSpec := { name := "regionAreas", fn := fun _ => fun
  | [d1, d2] => { results := [.lit (.bool false)], args := [d1, d2] }
  | _ => none }
def RegionAreasWrongFalsely : Prop := regionAreasRow.holds Try.pinned (OpenSpec.ofChange regionAreasWrong)

/-- 'tableaulaw08.RegionLaws': WHATEVER THE INPUT: true; the input reads as it did. -/
def regionLawsSpec : ChangeSpec := { name := "regionLaws", fn := fun _ => fun
  | [d1, d2, d3] => { results := [.lit (.bool true)], args := [d1, d2, d3] }
  | _ => none }
def regionLawsRow : OpenClaim := { program := "ytogcokfildbodaa", sum := "474a66d2a1f782dd3c8e9ace0f6f834c59cecbd36f9e76d44321b7bc41a785bf", func := "tableau/tableaulaw08.RegionLaws", spec := "regionLaws", unfollowed := true, recurses := true, apart := false }
def RegionLawsSaid : Prop := regionLawsRow.holds Try.pinned (OpenSpec.ofChange regionLawsSpec)

/-- ITS FALSE NEIGHBOUR: 'it returns false'. Refute it at one input. -/
def regionLawsWrong : ChangeSpec := { name := "regionLaws", fn := fun _ => fun
  | [d1, d2, d3] => { results := [.lit (.bool false)], args := [d1, d2, d3] }
  | _ => none }
def RegionLawsWrongFalsely : Prop := regionLawsRow.holds Try.pinned (OpenSpec.ofChange regionLawsWrong)

/-- 'tableaulaw08.RegionMoves': WHATEVER THE INPUT: true; the input reads as it did. -/
def regionMovesSpec : ChangeSpec := { name := "regionMoves", fn := fun _ => fun
  | [d1, d2, d3] => { results := [.lit (.bool true)], args := [d1, d2, d3] }
  | _ => none }
def regionMovesRow : OpenClaim := { program := "ytogcokfildbodaa", sum := "474a66d2a1f782dd3c8e9ace0f6f834c59cecbd36f9e76d44321b7bc41a785bf", func := "tableau/tableaulaw08.RegionMoves", spec := "regionMoves", unfollowed := true, recurses := true, apart := false }
def RegionMovesSaid : Prop := regionMovesRow.holds Try.pinned (OpenSpec.ofChange regionMovesSpec)

/-- ITS FALSE NEIGHBOUR: 'it returns false'. Refute it at one input. -/
def regionMovesWrong : ChangeSpec := { name := "regionMoves", fn := fun _ => fun
  | [d1, d2, d3] => { results := [.lit (.bool false)], args := [d1, d2, d3] }
  | _ => none }
def RegionMovesWrongFalsely : Prop := regionMovesRow.holds Try.pinned (OpenSpec.ofChange regionMovesWrong)

/-- 'tableaulaw09.DamageKeeps': WHATEVER THE INPUT: true; the input reads as it did. -/
def damageKeepsSpec : ChangeSpec := { name := "damageKeeps", fn := fun _ => fun
  | [d1, d2, d3, d4] => { results := [.lit (.bool true)], args := [d1, d2, d3, d4] }
  | _ => none }
def damageKeepsRow : OpenClaim := { program := "ytogcokfildbodaa", sum := "474a66d2a1f782dd3c8e9ace0f6f834c59cecbd36f9e76d44321b7bc41a785bf", func := "tableau/tableaulaw09.DamageKeeps", spec := "damageKeeps", unfollowed := true, recurses := true, apart := false }
def DamageKeepsSaid : Prop := damageKeepsRow.holds Try.pinned (OpenSpec.ofChange damageKeepsSpec)

/-- ITS FALSE NEIGHBOUR: 'it returns false'. Refute it at one input. -/
def damageKeepsWrong : ChangeSpec := { name := "damageKeeps", fn := fun _ => fun
  | [d1, d2, d3, d4] => { results := [.lit (.bool false)], args := [d1, d2, d3, d4] }
  | _ => none }
def DamageKeepsWrongFalsely : Prop := damageKeepsRow.holds Try.pinned (OpenSpec.ofChange damageKeepsWrong)

/-- 'tableaulaw09.DamageMany': WHATEVER THE INPUT: true; the input reads as it did. -/
def damageManySpec : ChangeSpec := { name := "damageMany", fn := fun _ => fun
  | [d] => { results := [.lit (.bool true)], args := [d] }
  | _ => none }
def damageManyRow : OpenClaim := { program := "ytogcokfildbodaa", sum := "474a66d2a1f782dd3c8e9ace0f6f834c59cecbd36f9e76d44321b7bc41a785bf", func := "tableau/tableaulaw09.DamageMany", spec := "damageMany", unfollowed := true, recurses := true, apart := false }
def DamageManySaid : Prop := damageManyRow.holds Try.pinned (OpenSpec.ofChange damageManySpec)

/-- ITS FALSE NEIGHBOUR: 'it returns false'. Refute it at one input. -/
def damageManyWrong : ChangeSpec := { name := "damageMany", fn := fun _ => fun
  | [d] => { results := [.lit (.bool false)], args := [d] }
  | _ => none }
def DamageManyWrongFalsely : Prop := damageManyRow.holds Try.pinned (OpenSpec.ofChange damageManyWrong)

/-- 'tableaulaw09.DamageOrders': WHATEVER THE INPUT: true; the input reads as it did. -/
def damageOrdersSpec : ChangeSpec := { name := "damageOrders", fn := fun _ => fun
  | [d1, d2] => { results := [.lit (.bool true)], args := [d1, d2] }
  | _ => none }
def damageOrdersRow : OpenClaim := { program := "ytogcokfildbodaa", sum := "474a66d2a1f782dd3c8e9ace0f6f834c59cecbd36f9e76d44321b7bc41a785bf", func := "tableau/tableaulaw09.DamageOrders", spec := "damageOrders", unfollowed := true, recurses := true, apart := false }
def DamageOrdersSaid : Prop := damageOrdersRow.holds Try.pinned (OpenSpec.ofChange damageOrdersSpec)

/-- ITS FALSE NEIGHBOUR: 'it returns false'. Refute it at one input. -/
def damageOrdersWrong : ChangeSpec := { name := "damageOrders", fn := fun _ => fun
  | [d1, d2] => { results := [.lit (.bool false)], args := [d1, d2] }
  | _ => none }
def DamageOrdersWrongFalsely : Prop := damageOrdersRow.holds Try.pinned (OpenSpec.ofChange damageOrdersWrong)

/-- 'tableaulaw08.RegionPlays': WHATEVER THE INPUT: true; the input reads as it did. -/
def regionPlaysSpec : ChangeSpec := { name := "regionPlays", fn := fun _ => fun
  | [d1, d2, d3, d4] => { results := [.lit (.bool true)], args := [d1, d2, d3, d4] }
  | _ => none }
def regionPlaysRow : OpenClaim := { program := "ytogcokfildbodaa", sum := "474a66d2a1f782dd3c8e9ace0f6f834c59cecbd36f9e76d44321b7bc41a785bf", func := "tableau/tableaulaw08.RegionPlays", spec := "regionPlays", unfollowed := true, recurses := true, apart := false }
def RegionPlaysSaid : Prop := regionPlaysRow.holds Try.pinned (OpenSpec.ofChange regionPlaysSpec)

/-- ITS FALSE NEIGHBOUR: 'it returns false'. Refute it at one input. -/
def regionPlaysWrong : ChangeSpec := { name := "regionPlays", fn := fun _ => fun
  | [d1, d2, d3, d4] => { results := [.lit (.bool false)], args := [d1, d2, d3, d4] }
  | _ => none }
def RegionPlaysWrongFalsely : Prop := regionPlaysRow.holds Try.pinned (OpenSpec.ofChange regionPlaysWrong)

/-- 'tableaulaw09.DamageAll': WHATEVER THE INPUT: true; the input reads as it did. -/
def damageAllSpec : ChangeSpec := { name := "damageAll", fn := fun _ => fun
  | [d1, d2, d3, d4] => { results := [.lit (.bool true)], args := [d1, d2, d3, d4] }
  | _ => none }
def damageAllRow : OpenClaim := { program := "ytogcokfildbodaa", sum := "474a66d2a1f782dd3c8e9ace0f6f834c59cecbd36f9e76d44321b7bc41a785bf", func := "tableau/tableaulaw09.DamageAll", spec := "damageAll", unfollowed := true, recurses := true, apart := false }
def DamageAllSaid : Prop := damageAllRow.holds Try.pinned (OpenSpec.ofChange damageAllSpec)

/-- ITS FALSE NEIGHBOUR: 'it returns false'. Refute it at one input. -/
def damageAllWrong : ChangeSpec := { name := "damageAll", fn := fun _ => fun
  | [d1, d2, d3, d4] => { results := [.lit (.bool false)], args := [d1, d2, d3, d4] }
  | _ => none }
def DamageAllWrongFalsely : Prop := damageAllRow.holds Try.pinned (OpenSpec.ofChange damageAllWrong)

/-- 'tableaulaw08.RegionAll': WHATEVER THE INPUT: true; the input reads as it did. -/
def regionAllSpec : ChangeSpec := { name := "regionAll", fn := fun _ => fun
  | [d1, d2, d3, d4, d5] => { results := [.lit (.bool true)], args := [d1, d2, d3, d4, d5] }
  | _ => none }
def regionAllRow : OpenClaim := { program := "ytogcokfildbodaa", sum := "474a66d2a1f782dd3c8e9ace0f6f834c59cecbd36f9e76d44321b7bc41a785bf", func := "tableau/tableaulaw08.RegionAll", spec := "regionAll", unfollowed := true, recurses := true, apart := false }
def RegionAllSaid : Prop := regionAllRow.holds Try.pinned (OpenSpec.ofChange regionAllSpec)

/-- ITS FALSE NEIGHBOUR: 'it returns false'. Refute it at one input. -/
def regionAllWrong : ChangeSpec := { name := "regionAll", fn := fun _ => fun
  | [d1, d2, d3, d4, d5] => { results := [.lit (.bool false)], args := [d1, d2, d3, d4, d5] }
  | _ => none }
def RegionAllWrongFalsely : Prop := regionAllRow.holds Try.pinned (OpenSpec.ofChange regionAllWrong)

/- THE SECOND FORM. 'bulk': how many values and letters a reading holds, each counted each time it is reached (what is shared counts as often as it is met; a slice's spare places count too). A statement '..UptoSaid' is the law's where the arguments, and the package variables that the reading takes, are together of bulk at most 1048576: NARROWER than '..Said'. Prove '..Said' where nothing that the law and all that it calls make is longer than what came in: it says more and counts as full. Else prove '..UptoSaid'. A law counts once. -/
mutual
def uptoBulk {H : Type} : DataW H → Nat
  | .lit (.string bytes) => bytes.length + 1
  | .lit _ => 1
  | .nil => 1
  | .ptr d => uptoBulk d + 1
  | .slice elems spare => uptoBulkAll elems + uptoBulkAll spare + 1
  | .agg parts => uptoBulkAll parts + 1
  | .iface _ d => uptoBulk d + 1
  | .map entries => uptoBulkEntries entries + 1
  | .held _ => 1
def uptoBulkAll {H : Type} : List (DataW H) → Nat
  | [] => 0
  | d :: r => uptoBulk d + uptoBulkAll r
def uptoBulkEntries {H : Type} : List (Lit × DataW H) → Nat
  | [] => 0
  | x :: r => uptoBulkEntry x + uptoBulkEntries r
def uptoBulkEntry {H : Type} : Lit × DataW H → Nat
  | (.string bytes, d) => bytes.length + uptoBulk d + 1
  | (_, d) => uptoBulk d + 1
 end
def uptoSmall : (H : Type) → List (DataW H) → Bool := fun _ ds => decide (uptoBulkAll ds ≤ 1048576)
def OpenSpec.upto (s : _root_.Go.ChangeSpec) : _root_.Go.OpenSpec := { _root_.Go.OpenSpec.ofChange s with cond := some uptoSmall }

/-- 'tableaulaw08.RegionOnes', WHERE WHAT IT READS IS OF BULK AT MOST 1048576: true; the input reads as it did. -/
def regionOnesUptoRow : OpenClaim := { program := "ytogcokfildbodaa", sum := "474a66d2a1f782dd3c8e9ace0f6f834c59cecbd36f9e76d44321b7bc41a785bf", func := "tableau/tableaulaw08.RegionOnes", spec := "regionOnes", unfollowed := true, recurses := true, apart := false, narrowed := true }
def RegionOnesUptoSaid : Prop := regionOnesUptoRow.holds Try.pinned (OpenSpec.upto regionOnesSpec)

/-- 'tableaulaw08.RegionGrids', WHERE WHAT IT READS IS OF BULK AT MOST 1048576: true; the input reads as it did. -/
def regionGridsUptoRow : OpenClaim := { program := "ytogcokfildbodaa", sum := "474a66d2a1f782dd3c8e9ace0f6f834c59cecbd36f9e76d44321b7bc41a785bf", func := "tableau/tableaulaw08.RegionGrids", spec := "regionGrids", unfollowed := true, recurses := true, apart := false, narrowed := true }
def RegionGridsUptoSaid : Prop := regionGridsUptoRow.holds Try.pinned (OpenSpec.upto regionGridsSpec)

/-- 'tableaulaw08.RegionPoints', WHERE WHAT IT READS IS OF BULK AT MOST 1048576: true; the input reads as it did. -/
def regionPointsUptoRow : OpenClaim := { program := "ytogcokfildbodaa", sum := "474a66d2a1f782dd3c8e9ace0f6f834c59cecbd36f9e76d44321b7bc41a785bf", func := "tableau/tableaulaw08.RegionPoints", spec := "regionPoints", unfollowed := true, recurses := true, apart := false, narrowed := true }
def RegionPointsUptoSaid : Prop := regionPointsUptoRow.holds Try.pinned (OpenSpec.upto regionPointsSpec)

/-- 'tableaulaw08.RegionAreas', WHERE WHAT IT READS IS OF BULK AT MOST 1048576: true; the input reads as it did. -/
def regionAreasUptoRow : OpenClaim := { program := "ytogcokfildbodaa", sum := "474a66d2a1f782dd3c8e9ace0f6f834c59cecbd36f9e76d44321b7bc41a785bf", func := "tableau/tableaulaw08.RegionAreas", spec := "regionAreas", unfollowed := true, recurses := true, apart := false, narrowed := true }
def RegionAreasUptoSaid : Prop := regionAreasUptoRow.holds Try.pinned (OpenSpec.upto regionAreasSpec)

/-- 'tableaulaw08.RegionLaws', WHERE WHAT IT READS IS OF BULK AT MOST 1048576: true; the input reads as it did. -/
def regionLawsUptoRow : OpenClaim := { program := "ytogcokfildbodaa", sum := "474a66d2a1f782dd3c8e9ace0f6f834c59cecbd36f9e76d44321b7bc41a785bf", func := "tableau/tableaulaw08.RegionLaws", spec := "regionLaws", unfollowed := true, recurses := true, apart := false, narrowed := true }
def RegionLawsUptoSaid : Prop := regionLawsUptoRow.holds Try.pinned (OpenSpec.upto regionLawsSpec)

/-- 'tableaulaw08.RegionMoves', WHERE WHAT IT READS IS OF BULK AT MOST 1048576: true; the input reads as it did. -/
def regionMovesUptoRow : OpenClaim := { program := "ytogcokfildbodaa", sum := "474a66d2a1f782dd3c8e9ace0f6f834c59cecbd36f9e76d44321b7bc41a785bf", func := "tableau/tableaulaw08.RegionMoves", spec := "regionMoves", unfollowed := true, recurses := true, apart := false, narrowed := true }
def RegionMovesUptoSaid : Prop := regionMovesUptoRow.holds Try.pinned (OpenSpec.upto regionMovesSpec)

/-- 'tableaulaw09.DamageKeeps', WHERE WHAT IT READS IS OF BULK AT MOST 1048576: true; the input reads as it did. -/
def damageKeepsUptoRow : OpenClaim := { program := "ytogcokfildbodaa", sum := "474a66d2a1f782dd3c8e9ace0f6f834c59cecbd36f9e76d44321b7bc41a785bf", func := "tableau/tableaulaw09.DamageKeeps", spec := "damageKeeps", unfollowed := true, recurses := true, apart := false, narrowed := true }
def DamageKeepsUptoSaid : Prop := damageKeepsUptoRow.holds Try.pinned (OpenSpec.upto damageKeepsSpec)

/-- 'tableaulaw09.DamageMany', WHERE WHAT IT READS IS OF BULK AT MOST 1048576: true; the input reads as it did. -/
def damageManyUptoRow : OpenClaim := { program := "ytogcokfildbodaa", sum := "474a66d2a1f782dd3c8e9ace0f6f834c59cecbd36f9e76d44321b7bc41a785bf", func := "tableau/tableaulaw09.DamageMany", spec := "damageMany", unfollowed := true, recurses := true, apart := false, narrowed := true }
def DamageManyUptoSaid : Prop := damageManyUptoRow.holds Try.pinned (OpenSpec.upto damageManySpec)

/-- 'tableaulaw09.DamageOrders', WHERE WHAT IT READS IS OF BULK AT MOST 1048576: true; the input reads as it did. -/
def damageOrdersUptoRow : OpenClaim := { program := "ytogcokfildbodaa", sum := "474a66d2a1f782dd3c8e9ace0f6f834c59cecbd36f9e76d44321b7bc41a785bf", func := "tableau/tableaulaw09.DamageOrders", spec := "damageOrders", unfollowed := true, recurses := true, apart := false, narrowed := true }
def DamageOrdersUptoSaid : Prop := damageOrdersUptoRow.holds Try.pinned (OpenSpec.upto damageOrdersSpec)

/-- 'tableaulaw08.RegionPlays', WHERE WHAT IT READS IS OF BULK AT MOST 1048576: true; the input reads as it did. -/
def regionPlaysUptoRow : OpenClaim := { program := "ytogcokfildbodaa", sum := "474a66d2a1f782dd3c8e9ace0f6f834c59cecbd36f9e76d44321b7bc41a785bf", func := "tableau/tableaulaw08.RegionPlays", spec := "regionPlays", unfollowed := true, recurses := true, apart := false, narrowed := true }
def RegionPlaysUptoSaid : Prop := regionPlaysUptoRow.holds Try.pinned (OpenSpec.upto regionPlaysSpec)

/-- 'tableaulaw09.DamageAll', WHERE WHAT IT READS IS OF BULK AT MOST 1048576: true; the input reads as it did. -/
def damageAllUptoRow : OpenClaim := { program := "ytogcokfildbodaa", sum := "474a66d2a1f782dd3c8e9ace0f6f834c59cecbd36f9e76d44321b7bc41a785bf", func := "tableau/tableaulaw09.DamageAll", spec := "damageAll", unfollowed := true, recurses := true, apart := false, narrowed := true }
def DamageAllUptoSaid : Prop := damageAllUptoRow.holds Try.pinned (OpenSpec.upto damageAllSpec)

/-- 'tableaulaw08.RegionAll', WHERE WHAT IT READS IS OF BULK AT MOST 1048576: true; the input reads as it did. -/
def regionAllUptoRow : OpenClaim := { program := "ytogcokfildbodaa", sum := "474a66d2a1f782dd3c8e9ace0f6f834c59cecbd36f9e76d44321b7bc41a785bf", func := "tableau/tableaulaw08.RegionAll", spec := "regionAll", unfollowed := true, recurses := true, apart := false, narrowed := true }
def RegionAllUptoSaid : Prop := regionAllUptoRow.holds Try.pinned (OpenSpec.upto regionAllSpec)

end Rows
end Go.Proofs.Ytogcokfildbodaa
