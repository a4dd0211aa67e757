/- tableaulaw15.awake, walked by hand: the document's example of Merge, None and First. -/
import Derived.Test.YtnboncbekcodnaaPRx3
import Derived.Test.YtnboncbekcodnaaSt6
set_option linter.unusedVariables false
set_option linter.unusedSimpArgs false
namespace Go.Proofs.Ytnboncbekcodnaa.PR
open Go.RowKit Go.Proofs.YtnboncbekcodnaaW.PrintWords Go.Proofs.Ytnboncbekcodnaa.Kit Go.Proofs.Ytnboncbekcodnaa.St

theorem in_map : ∀ l : List Int, l.flatMap inC = l.map fun i => Value.int .i64 i
  | [] => rfl
  | a :: l => by rw [List.flatMap_cons, List.map_cons, in_map l]; rfl
theorem same12 : tableaulaw00_SameInts.f 5 [1, 2] [1, 2] = some true := by
  unfold tableaulaw00_SameInts.f
  simp [tableaulaw00_SameInts.l0, rd, wrap64]
theorem ints_C {w : World} {B : Nat} {A : Option Addr} {l : List Int} (hl : l.length ≤ 9223372036854775807) (h : Rds w B 1 A l.length (l.flatMap inC)) : Kd.C (Kd.int .i64) w A l.length l := by
  refine ⟨rfl, hl, fun hn => ?_⟩
  obtain ⟨ad, rfl, _, hc⟩ := h.2 hn
  refine ⟨ad, rfl, fun i p hp => ⟨[.int .i64 p], rfl, rfl, fun j u hu => ?_⟩⟩
  have hj : j = 0 := by
    have := (List.getElem?_eq_some_iff.1 hu).1
    simpa using this
  subst hj
  obtain rfl : u = .int .i64 p := by simpa using hu.symm
  refine hc _ _ ?_
  show (l.flatMap inC)[i * 1 + 0]? = _
  rw [in_map, List.getElem?_map, Nat.mul_one, Nat.add_zero, hp]; rfl
theorem fld5 (w : World) (v0 v1 v2 v3 v4 v5 v6 v7 v8 v9 : Value) : (Instr.field 33 (.agg #[v0, v1, v2, v3, v4, v5, v6, v7, v8, v9]) 5).run Try.prog w = .ok v5 w := by
  have hi : (Try.prog.info? 4).map (fun i => (i.zero, i.size, i.bytes)) = some (some (.bool false), 1, 1) := by kernel_rfl
  obtain ⟨i, hi, z0, z1, z2⟩ := info_parts hi
  simp [Instr.field, run_underlying Try.underlying33, part, asAgg, sizeOf, typeInfo, hi, z1, z0, run_underlying Try.underlying4]
set_option maxRecDepth 100000 in
set_option maxHeartbeats 32000000 in
theorem awake_any (w : World) : Calls Try.prog 7 #[] w fun e w' => e = .returned (.bool true) ∧ Below w.heap.size w w' := by
  go_enter Try.func7, Try.ntmps7
  go_wp2_with fail
  have h0 : Bk ((w.alloc (.cells #[.int .i64 1] 3)).alloc (.cells #[.int .i64 2] 3)) w.heap.size 3 #[.int .i64 1] := (Bk.new _ _ _).al _
  have h1 : Bk ((w.alloc (.cells #[.int .i64 1] 3)).alloc (.cells #[.int .i64 2] 3)) (w.heap.size + 1) 3 #[.int .i64 2] := Bk.new' _ _ _ (by simp)
  refine (merge_any { zS with F := [1] } { zS with F := [2] } { zH with fA := some ⟨w.heap.size, 0, none⟩, fc := 1 } { zH with fA := some ⟨w.heap.size + 1, 0, none⟩, fc := 1 } _ ⟨Rds.none_, Rds.block h0 rfl h0.lt, Rds.none_, Rds.none_, Rds.none_⟩ ⟨Rds.none_, Rds.block h1 rfl h1.lt, Rds.none_, Rds.none_, Rds.none_⟩ (by decide) (by decide) (by decide) (by decide) (by decide) (by decide) (by decide) (by decide) (by decide) (by decide)).mono ?_
  rintro e w1 ⟨h, rfl, hO, hb1⟩
  have hf : w1.ownsRow _ 3 1 (.slice h.fA 2 h.fc) 2 ([1, 2].flatMap inC) := hO.f
  have hcap : ([1, 2] : List Int).length ≤ h.fc := by
    rcases hf.2 with ⟨_, hn⟩ | ⟨g, cap, cur, he, _, _, hn, _⟩
    · omega
    · have : h.fc = cap := by injection he
      rw [this]; exact hn
  have ht1 : Below w.heap.size w w1 := bl_step (bl_alloc (bl_alloc (Below.refl _ _) _) _) hb1
  rw [show stV (mergeS { zS with F := [1] } { zS with F := [2] }) h = #[.bool false, .int .i64 0, .slice h.dA 0 h.dc, .slice h.fA 2 h.fc, .bool false, .bool false, .slice h.rA 0 h.rc, .bool false, .slice h.oA 0 h.oc, .slice h.pA 0 h.pc] from rfl]
  clear hb1 h0 h1 hO
  generalize h.dA = dA at *
  generalize h.dc = dc at *
  generalize h.fA = fA at *
  generalize h.fc = fc at *
  generalize h.rA = rA at *
  generalize h.rc = rc at *
  generalize h.oA = oA at *
  generalize h.oc = oc at *
  generalize h.pA = pA at *
  generalize h.pc = pc at *
  have HF := Lib.hid hf
  have HC := Lib.hid hcap
  clear hf hcap
  go_wp2_with fail
  have b0 : Bk ((w1.alloc (.cells #[.bool false, .int .i64 0, .slice dA 0 dc, .slice fA 2 fc, .bool false, .bool false, .slice rA 0 rc, .bool false, .slice oA 0 oc, .slice pA 0 pc] 33)).alloc (.cells #[.int .i64 1, .int .i64 2] 3)) w1.heap.size 33 #[.bool false, .int .i64 0, .slice dA 0 dc, .slice fA 2 fc, .bool false, .bool false, .slice rA 0 rc, .bool false, .slice oA 0 oc, .slice pA 0 pc] := (Bk.new _ _ _).al _
  have b1 : Bk ((w1.alloc (.cells #[.bool false, .int .i64 0, .slice dA 0 dc, .slice fA 2 fc, .bool false, .bool false, .slice rA 0 rc, .bool false, .slice oA 0 oc, .slice pA 0 pc] 33)).alloc (.cells #[.int .i64 1, .int .i64 2] 3)) (w1.heap.size + 1) 3 #[.int .i64 1, .int .i64 2] := Bk.new' _ _ _ (by simp)
  have hfW := own_be (own_be HF.out (bl_alloc (Below.refl _ _) (.cells #[.bool false, .int .i64 0, .slice dA 0 dc, .slice fA 2 fc, .bool false, .bool false, .slice rA 0 rc, .bool false, .slice oA 0 oc, .slice pA 0 pc] 33))) (bl_alloc (Below.refl _ _) (.cells #[.int .i64 1, .int .i64 2] 3))
  refine (tableaulaw00_SameInts.calls 5 fA fc [1, 2] (some ⟨w1.heap.size + 1, 0, none⟩) 2 [1, 2] true _ (ints_C (by decide) (Rds.own hfW)) HC.out (ints_C (by decide) (Rds.block b1 rfl b1.lt)) (by decide) same12).mono ?_
  rintro e w' ⟨rfl, nd, rfl⟩
  clear hfW HF HC b1
  go_wp2_with fail
  refine (none_any ⟨false, 0, none, 0, 0, none, 0, 0, false, false, none, 0, 0, false, none, 0, 0, none, 0, 0⟩ _).mono ?_
  rintro e w2 ⟨rfl, hb2⟩
  have b2 : Bk w2 w1.heap.size 33 #[.bool false, .int .i64 0, .slice dA 0 dc, .slice fA 2 fc, .bool false, .bool false, .slice rA 0 rc, .bool false, .slice oA 0 oc, .slice pA 0 pc] := Bk.be (Bk.drN b0 nd) hb2
  have ht2 : Below w.heap.size w w2 := bl_step (bl_drewN (bl_alloc (bl_alloc ht1 _) _) nd) hb2
  clear b0 hb2 ht1
  have k0 := b2.cell 0
  have k1 := b2.cell 1
  have k2 := b2.cell 2
  have k3 := b2.cell 3
  have k4 := b2.cell 4
  have k5 := b2.cell 5
  have k6 := b2.cell 6
  have k7 := b2.cell 7
  have k8 := b2.cell 8
  have k9 := b2.cell 9
  simp only [Bool.not_false, Bool.true_and, Bool.and_true, beq_self_eq_true]
  go_wp2_with fail
  refine (none_any ⟨false, 0, dA, 0, dc, fA, 2, fc, false, false, rA, 0, rc, false, oA, 0, oc, pA, 0, pc⟩ _).mono ?_
  rintro e w3 ⟨rfl, hb3⟩
  have ht3 : Below w.heap.size w w3 := bl_step ht2 hb3
  rw [show (!false && (0 : Nat) == 0 && (2 : Nat) == 0 && !false && !false && (0 : Nat) == 0) = false from rfl]
  clear k0 k1 k2 k3 k4 k5 k6 k7 k8 k9 b2 hb3 ht2
  go_wp2_with fail
  refine (first_any _).mono ?_
  rintro e w4 ⟨rfl, _, hb4⟩
  have hu := fld5 w4 (.bool false) (.int .i64 0) (.slice none 0 0) (.slice none 0 0) (.bool false) (.bool true) (.slice none 0 0) (.bool false) (.slice (some ⟨w3.heap.size + 1, 0, none⟩) 1 1) (.slice none 0 0)
  go_wp2_with fail
  go_ret
  exact ⟨rfl, bl_step ht3 hb4⟩
end Go.Proofs.Ytnboncbekcodnaa.PR
