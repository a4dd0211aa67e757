/- The walks: None, Merge. -/
import Derived.Test.YtnboncbekcodnaaSt4
set_option linter.unusedVariables false
set_option linter.unusedSimpArgs false
namespace Go.Proofs.Ytnboncbekcodnaa.St
open Go.RowKit Go.Proofs.Ytnboncbekcodnaa.Kit

/-- a state's values -/
structure Sv where
  att : Bool
  buf : Int
  dA : Option Addr
  dn : Nat
  dc : Nat
  fA : Option Addr
  fn : Nat
  fc : Nat
  inp : Bool
  all : Bool
  rA : Option Addr
  rn : Nat
  rc : Nat
  ord : Bool
  oA : Option Addr
  on : Nat
  oc : Nat
  pA : Option Addr
  pn : Nat
  pc : Nat

abbrev Sv.cells (s : Sv) : Array Value := #[.bool s.att, .int .i64 s.buf, .slice s.dA s.dn s.dc, .slice s.fA s.fn s.fc, .bool s.inp, .bool s.all, .slice s.rA s.rn s.rc, .bool s.ord, .slice s.oA s.on s.oc, .slice s.pA s.pn s.pc]

set_option maxHeartbeats 8000000 in
theorem none_any (s : Sv) (w : World) :
    Calls Try.prog 19 #[.agg s.cells] w fun e w' => e = .returned (.bool (!s.att && s.dn == 0 && s.fn == 0 && !s.inp && !s.ord && s.pn == 0)) ∧ Below w.heap.size w w' := by
  obtain ⟨att, buf, dA, dn, dc, fA, fn, fc, inp, all, rA, rn, rc, ord, oA, on, oc, pA, pn, pc⟩ := s
  go_enter Try.func19, Try.ntmps19
  go_wp2
  all_goals go_ret
  all_goals refine ⟨?_, bl_alloc (Below.refl _ _) _⟩
  all_goals (rename_i h; simp_all)
  all_goals (first | omega | (rw [Bool.eq_iff_iff]; simp))

theorem infoState : (Try.prog.info? 33).map (·.size) = some 10 := by kernel_rfl

set_option maxHeartbeats 8000000 in
theorem first_any (w : World) :
    Calls Try.prog 18 #[] w fun e w' => e = .returned (.agg #[.bool false, .int .i64 0, .slice none 0 0, .slice none 0 0, .bool false, .bool true, .slice none 0 0, .bool false, .slice (some ⟨w.heap.size + 1, 0, none⟩) 1 1, .slice none 0 0]) ∧ Bk w' (w.heap.size + 1) 3 #[.int .i64 0] ∧ Below w.heap.size w w' := by
  go_enter Try.func18, Try.ntmps18
  go_wp2_with fail
  refine post_cell w.heap.size 33 #[.bool false, .int .i64 0, .slice none 0 0, .slice none 0 0, .bool false, .bool true, .slice none 0 0, .bool false, .slice (some ⟨w.heap.size + 1, 0, none⟩) 1 1, .slice none 0 0] Try.results18 Try.underlying33 rfl (by kernel_rfl) rfl ((Bk.new _ _ _).al _) rfl ⟨rfl, ?_, ?_⟩
  · exact Bk.new' _ _ _ (by simp)
  · exact bl_alloc (bl_alloc (Below.refl _ _) _) _
end Go.Proofs.Ytnboncbekcodnaa.St
