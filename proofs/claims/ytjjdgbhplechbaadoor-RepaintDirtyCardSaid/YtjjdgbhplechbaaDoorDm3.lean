/- repaint.at, of, dirt, Changed: what they make. Printed by gen_rep.py. -/
import Derived.Test.YtjjdgbhplechbaaDoorDm2
import Derived.Test.YtjjdgbhplechbaaDoorCvA
import Derived.Test.YtjjdgbhplechbaaDoorCut3
import Derived.Laws.StructEq
set_option linter.unusedVariables false
set_option linter.unusedSimpArgs false
namespace Go.Proofs.YtjjdgbhplechbaaDoor.Cv
open Go.RowKit Go.Proofs.YtjjdgbhplechbaaDoor.Kit Go.Proofs.YtjjdgbhplechbaaDoor.Reg Go.Proofs.YtjjdgbhplechbaaDoor.Rect
def Nr (x : Int) : Prop := -67108864 ≤ x ∧ x ≤ 67108864
def rvV (v : Vw) : R := ⟨v.x, v.y, v.w, v.h⟩
def NearV (v : Vw) : Prop := Nr v.x ∧ Nr v.y ∧ Nr v.w ∧ Nr v.h
theorem near_sm {v : Vw} (h : NearV v) : Sm (rvV v) := by
  obtain ⟨⟨a0, a1⟩, ⟨b0, b1⟩, ⟨c0, c1⟩, ⟨d0, d1⟩⟩ := h
  unfold Sm rvV; simp only; omega
theorem near_64 {v : Vw} (h : NearV v) : I64 (rvV v) := by
  obtain ⟨⟨a0, a1⟩, ⟨b0, b1⟩, ⟨c0, c1⟩, ⟨d0, d1⟩⟩ := h
  unfold I64 rvV; simp only; omega
theorem rOf_64 {a b c d : Int} (ha : -17179869184 ≤ a ∧ a ≤ 17179869184) (hb : -17179869184 ≤ b ∧ b ≤ 17179869184) (hc : c ≤ 17179869184) (hd : d ≤ 17179869184) : I64 (rOf a b c d) := by
  unfold rOf
  split
  · unfold I64 zR; simp only; omega
  · unfold I64; simp only; omega
theorem cut_64 {a b : R} (ha : Sm a) (hb : Sm b) : I64 (rCut a b) := by
  unfold rCut
  unfold Sm at ha hb
  split
  · unfold I64 zR; simp only; omega
  · exact rOf_64 (by omega) (by omega) (by omega) (by omega)
theorem shift_sm {r : R} (h : r = zR ∨ chkR r) {x y : Int} (hx : Nr x) (hy : Nr y) : Sm (rShift r x y) := by
  unfold rShift
  split
  · exact sm_zR
  · rcases h with rfl | h
    · rename_i h0; exact absurd rfl h0
    · unfold chkR at h; unfold Nr at hx hy; unfold Sm; simp only; omega
theorem bound_chk (r : R) : rBound r = zR ∨ chkR (rBound r) := by
  unfold rBound
  split
  · exact .inl rfl
  · unfold rOf
    split
    · exact .inl rfl
    · refine .inr ?_; unfold chkR; simp only; omega
theorem nr_x {x : Int} (h : Nr x) : -4294967296 ≤ x ∧ x ≤ 4294967296 := by unfold Nr at h; omega
def spotV (v : Vw) (r : R) : R := rCut (rShift (rBound r) v.x v.y) (rvV v)
theorem spot_64 {v : Vw} (h : NearV v) (r : R) : I64 (spotV v r) := cut_64 (shift_sm (bound_chk r) h.1 h.2.1) (near_sm h)
/-- a surface's damage, and where it lies -/
structure Dt where
  s : Int
  D : List R
  A : Option Addr
  c : Nat
def dtC (d : Dt) : List Value := [.int .i64 d.s, .slice d.A d.D.length d.c]
theorem dtC_len (d : Dt) : (dtC d).length = 2 := rfl
structure DtOk (w : World) (B : Nat) (d : Dt) : Prop where
  r : Rds w B 4 d.A d.D.length (d.D.flatMap rC)
  i : ∀ r ∈ d.D, I64 r
  n : d.D.length ≤ 1000000
theorem DtOk.be {w w' : World} {B : Nat} {d : Dt} (h : DtOk w B d) (hb : Below B w w') : DtOk w' B d := ⟨h.r.be hb, h.i, h.n⟩
theorem at2 {w : World} {B : Nat} {A : Option Addr} {l : List Dt} (h : Rds w B 2 A l.length (l.flatMap dtC)) {i : Nat} (hi : i < l.length) :
    ∃ ad, A = some ad ∧ ad.block < B ∧ w.cell? (ad.add (i * 2)) = some (.int .i64 l[i].s) ∧ w.cell? ⟨(ad.add (i * 2)).block, (ad.add (i * 2)).off + 1, none⟩ = some (.slice l[i].A l[i].D.length l[i].c) := by
  obtain ⟨ad, e, hb, hc⟩ := Rds.elem dtC 2 dtC_len h hi
  exact ⟨ad, e, hb, hc 0 _ (by omega) rfl, by rw [add_at ad (i * 2) 0]; exact hc 1 _ (by omega) rfl⟩
def dOne (v : Vw) (d : Dt) : List R := if d.s = v.s then d.D.map (spotV v) else []
def dList (v : Vw) (ds : List Dt) : List R := if rChk (rvV v) = true then ds.flatMap (dOne v) else []
theorem flat_snoc (S : List R) (r : R) : damAdd (flatF S) r = flatF (S ++ [r]) := by
  unfold damAdd
  rw [flat_flat]
  unfold flatF
  rw [List.foldl_append]; rfl
theorem map_tk {α β : Type} (f : α → β) (l : List α) {k : Nat} (hk : k < l.length) : (l.take (k + 1)).map f = (l.take k).map f ++ [f l[k]] := by
  rw [← List.take_append_getElem hk, List.map_append]; rfl
theorem fm_tk {α β : Type} (f : α → List β) (l : List α) {k : Nat} (hk : k < l.length) : (l.take (k + 1)).flatMap f = (l.take k).flatMap f ++ f l[k] := by
  rw [← List.take_append_getElem hk, List.flatMap_append]; simp
def eqV (a b : Vw) : Bool := a.s == b.s && (a.b == b.b && (a.x == b.x && (a.y == b.y && (a.w == b.w && a.h == b.h))))
theorem eqV_iff {a b : Vw} : eqV a b = true ↔ a = b := by
  obtain ⟨a0, a1, a2, a3, a4, a5⟩ := a
  obtain ⟨b0, b1, b2, b3, b4, b5⟩ := b
  unfold eqV
  simp only [Bool.and_eq_true, beq_iff_eq, Vw.mk.injEq]
set_option maxHeartbeats 4000000 in
theorem vEq (d : Nat) (w : World) (x0 x1 x2 x3 x4 x5 y0 y1 y2 y3 y4 y5 : Int) :
    (Op.equalIn (d + 2) 60 (.agg #[.int .i64 x0, .int .i64 x1, .int .i64 x2, .int .i64 x3, .int .i64 x4, .int .i64 x5]) (.agg #[.int .i64 y0, .int .i64 y1, .int .i64 y2, .int .i64 y3, .int .i64 y4, .int .i64 y5])).run Tryd.prog w = .ok (eqV ⟨x0, x1, x2, x3, x4, x5⟩ ⟨y0, y1, y2, y3, y4, y5⟩) w := by
  have hu := Tryd.underlying60
  have h3 := Tryd.underlying3
  have hp : Tryd.prog.stoodInHeld 60 = false := by kernel_rfl
  rw [run_equalIn_struct w (d + 1) 60 _ _ (by simp only [Program.fieldsOf, hu]) hp]
  unfold eqV
  by_cases c0 : x0 = y0
  case neg => go_simp; try simp [c0]
  by_cases c1 : x1 = y1
  case neg => go_simp; try simp [c0, c1]
  by_cases c2 : x2 = y2
  case neg => go_simp; try simp [c0, c1, c2]
  by_cases c3 : x3 = y3
  case neg => go_simp; try simp [c0, c1, c2, c3]
  by_cases c4 : x4 = y4
  case neg => go_simp; try simp [c0, c1, c2, c3, c4]
  by_cases c5 : x5 = y5
  case neg => go_simp; try simp [c0, c1, c2, c3, c4, c5]
  go_simp; try simp [c0, c1, c2, c3, c4, c5]
attribute [local go_sem high] vEq bmax2 bmax_2
theorem cut33 (w : World) (A : Option Addr) (n c : Nat) (h : n ≤ c) : (Instr.slice 33 (.slice A n c) none (some (.int .i64 (n : Int))) (some (.int .i64 (n : Int)))).run Tryd.prog w = .ok (.slice A n n) w := by
  obtain ⟨iR, hiR, zR0, zR1, zR2⟩ := info_parts infoR
  have := Cut3.cut_to3 (P := Tryd.prog) 33 32 .i64 .i64 Tryd.underlying33 hiR A n c (n : Int) (by omega) (by omega) h w
  simpa using this
attribute [local go_sem high] cut33
def zV : Vw := ⟨0, 0, 0, 0, 0, 0⟩
def atV (x : List Vw) (i : Nat) : Vw := (x[i]?).getD zV
theorem near_z : NearV zV := ⟨⟨by decide, by decide⟩, ⟨by decide, by decide⟩, ⟨by decide, by decide⟩, ⟨by decide, by decide⟩⟩
theorem near_at {x : List Vw} (h : ∀ v ∈ x, NearV v) (i : Nat) : NearV (atV x i) := by
  unfold atV
  cases e : x[i]? with
  | none => exact near_z
  | some v => exact h _ (List.mem_of_getElem? e)
theorem at_in {x : List Vw} {i : Nat} (h : i < x.length) : atV x i = x[i] := by
  unfold atV
  rw [List.getElem?_eq_getElem h]; rfl
theorem at_outV {x : List Vw} {i : Nat} (h : ¬ i < x.length) : atV x i = zV := by
  unfold atV
  rw [List.getElem?_eq_none (by omega)]; rfl
set_option maxRecDepth 100000 in
set_option maxHeartbeats 8000000 in
theorem atV_any (A : Option Addr) (c : Nat) (l : List Vw) (k : Nat) (w : World) (hn : l.length ≤ 1000000) (hk : k ≤ 1000000) (hl : Rds w w.heap.size 6 A l.length (l.flatMap vwC)) :
    Calls Tryd.prog 68 #[.slice A l.length c, .int .i64 (k : Int)] w fun e w' => e = .returned (.tuple #[.agg #[.int .i64 (atV l k).s, .int .i64 (atV l k).b, .int .i64 (atV l k).x, .int .i64 (atV l k).y, .int .i64 (atV l k).w, .int .i64 (atV l k).h], .bool (decide (k < l.length))]) ∧ Below w.heap.size w w' := by
  have hI : ∀ v : Vw, (Tryd.prog.info? 60).map (·.size) = some (#[.int .i64 v.s, .int .i64 v.b, .int .i64 v.x, .int .i64 v.y, .int .i64 v.w, .int .i64 v.h] : Array Value).size := fun v => by kernel_rfl
  by_cases hlt : k < l.length
  · obtain ⟨ad, rfl, hbl, c0, c1, c2, c3, c4, c5⟩ := at6 hl hlt
    have hd : decide ((l.length : Int) ≤ (k : Int)) = false := by simp; omega
    have hd2 : decide (l.length ≤ k) = false := by simp; omega
    have i0 : (0 : Int) ≤ (k : Int) := by omega
    have i1 : (k : Int) < (l.length : Int) := by omega
    rw [at_in hlt, decide_eq_true hlt]
    generalize hs : l[k] = v at *
    have hlw : ∀ j, (⟨(ad.add (k * 6)).block, (ad.add (k * 6)).off + j, none⟩ : Addr).block < w.heap.size := fun j => by show (ad.add (k * 6)).block < _; rw [add_blk]; exact hbl
    have hblk : (ad.add (k * 6)).block < w.heap.size := hlw 0
    have hne : ¬ ((ad.add (k * 6)).block = w.heap.size) := Nat.ne_of_lt hblk
    have hne' : ¬ (w.heap.size = (ad.add (k * 6)).block) := fun e => hne e.symm
    clear hs hlt hl
    go_enter Tryd.func68, Tryd.ntmps68
    go_wp2_with fail
    refine post_cell_tmp w.heap.size 60 #[.int .i64 v.s, .int .i64 v.b, .int .i64 v.x, .int .i64 v.y, .int .i64 v.w, .int .i64 v.h] Tryd.results68 Tryd.underlying60 rfl (hI v) rfl ?bk rfl ?fin
    case bk => with_reducible exact Bk.new _ _ _
    case fin => exact ⟨rfl, bl_alloc (Below.refl _ _) _⟩
  · have hd : decide ((l.length : Int) ≤ (k : Int)) = true := by simp; omega
    have hd2 : decide (l.length ≤ k) = true := by simp; omega
    rw [at_outV hlt, decide_eq_false hlt]
    clear hlt hl
    go_enter Tryd.func68, Tryd.ntmps68
    go_wp2_with fail
    refine post_cell_tmp w.heap.size 60 #[.int .i64 0, .int .i64 0, .int .i64 0, .int .i64 0, .int .i64 0, .int .i64 0] Tryd.results68 Tryd.underlying60 rfl (hI zV) rfl ?bk rfl ?fin
    case bk => with_reducible exact Bk.new _ _ _
    case fin => exact ⟨rfl, bl_alloc (Below.refl _ _) _⟩
set_option maxRecDepth 100000 in
set_option maxHeartbeats 8000000 in
theorem ofV_any (s b x y a h : Int) (w : World) :
    Calls Tryd.prog 71 #[.agg #[.int .i64 s, .int .i64 b, .int .i64 x, .int .i64 y, .int .i64 a, .int .i64 h]] w fun e w' => e = .returned (.agg #[.int .i64 x, .int .i64 y, .int .i64 a, .int .i64 h]) ∧ Below w.heap.size w w' := by
  have hI : (Tryd.prog.info? 32).map (·.size) = some (#[.int .i64 x, .int .i64 y, .int .i64 a, .int .i64 h] : Array Value).size := by kernel_rfl
  go_enter Tryd.func71, Tryd.ntmps71
  go_wp2_with fail
  refine post_cell (w.heap.size + 1) 32 #[.int .i64 x, .int .i64 y, .int .i64 a, .int .i64 h] Tryd.results71 Tryd.underlying32 rfl hI rfl ?bk rfl ⟨rfl, ?_⟩
  case bk => exact Bk.new' _ _ _ (by simp)
  exact bl_alloc (bl_alloc (Below.refl _ _) _) _

end Go.Proofs.YtjjdgbhplechbaaDoor.Cv
