/- Texts of this claim, one behind the other: each begins with its own remark. -/
import Derived.Test.YtjjdgbhplechbaaGreatDoorDmA
import Derived.Test.YtjjdgbhplechbaaGreatDoorCvA
import Derived.Test.YtjjdgbhplechbaaGreatDoorCut3
import Derived.Laws.StructEq
/- repaint.at, of, dirt, Changed: what they make. Printed by gen_rep.py. -/
set_option linter.unusedVariables false
set_option linter.unusedSimpArgs false
namespace Go.Proofs.YtjjdgbhplechbaaGreatDoor.Cv
open Go.RowKit Go.Proofs.YtjjdgbhplechbaaGreatDoor.Kit Go.Proofs.YtjjdgbhplechbaaGreatDoor.Reg Go.Proofs.YtjjdgbhplechbaaGreatDoor.Rect
def Nr (x : Int) : Prop := -67108864 ≤ x ∧ x ≤ 67108864
def rvV (v : Vw) : R := ⟨v.x, v.y, v.w, v.h⟩
def NearV (v : Vw) : Prop := Nr v.x ∧ Nr v.y ∧ Nr v.w ∧ Nr v.h
theorem near_sm {v : Vw} (h : NearV v) : Sm (rvV v) := by
  obtain ⟨⟨a0, a1⟩, ⟨b0, b1⟩, ⟨c0, c1⟩, ⟨d0, d1⟩⟩ := h
  unfold Sm rvV; simp only; omega
theorem near_64 {v : Vw} (h : NearV v) : I64 (rvV v) := by
  obtain ⟨⟨a0, a1⟩, ⟨b0, b1⟩, ⟨c0, c1⟩, ⟨d0, d1⟩⟩ := h
  unfold I64 rvV; simp only; omega
theorem rOf_64 {a b c d : Int} (ha : -17179869184 ≤ a ∧ a ≤ 17179869184) (hb : -17179869184 ≤ b ∧ b ≤ 17179869184) (hc : c ≤ 17179869184) (hd : d ≤ 17179869184) : I64 (rOf a b c d) := by
  unfold rOf
  split
  · unfold I64 zR; simp only; omega
  · unfold I64; simp only; omega
theorem cut_64 {a b : R} (ha : Sm a) (hb : Sm b) : I64 (rCut a b) := by
  unfold rCut
  unfold Sm at ha hb
  split
  · unfold I64 zR; simp only; omega
  · exact rOf_64 (by omega) (by omega) (by omega) (by omega)
theorem shift_sm {r : R} (h : r = zR ∨ chkR r) {x y : Int} (hx : Nr x) (hy : Nr y) : Sm (rShift r x y) := by
  unfold rShift
  split
  · exact sm_zR
  · rcases h with rfl | h
    · rename_i h0; exact absurd rfl h0
    · unfold chkR at h; unfold Nr at hx hy; unfold Sm; simp only; omega
theorem bound_chk (r : R) : rBound r = zR ∨ chkR (rBound r) := by
  unfold rBound
  split
  · exact .inl rfl
  · unfold rOf
    split
    · exact .inl rfl
    · refine .inr ?_; unfold chkR; simp only; omega
theorem nr_x {x : Int} (h : Nr x) : -4294967296 ≤ x ∧ x ≤ 4294967296 := by unfold Nr at h; omega
def spotV (v : Vw) (r : R) : R := rCut (rShift (rBound r) v.x v.y) (rvV v)
theorem spot_64 {v : Vw} (h : NearV v) (r : R) : I64 (spotV v r) := cut_64 (shift_sm (bound_chk r) h.1 h.2.1) (near_sm h)
/-- a surface's damage, and where it lies -/
structure Dt where
  s : Int
  D : List R
  A : Option Addr
  c : Nat
def dtC (d : Dt) : List Value := [.int .i64 d.s, .slice d.A d.D.length d.c]
theorem dtC_len (d : Dt) : (dtC d).length = 2 := rfl
structure DtOk (w : World) (B : Nat) (d : Dt) : Prop where
  r : Rds w B 4 d.A d.D.length (d.D.flatMap rC)
  i : ∀ r ∈ d.D, I64 r
  n : d.D.length ≤ 1000000
theorem DtOk.be {w w' : World} {B : Nat} {d : Dt} (h : DtOk w B d) (hb : Below B w w') : DtOk w' B d := ⟨h.r.be hb, h.i, h.n⟩
theorem at2 {w : World} {B : Nat} {A : Option Addr} {l : List Dt} (h : Rds w B 2 A l.length (l.flatMap dtC)) {i : Nat} (hi : i < l.length) :
    ∃ ad, A = some ad ∧ ad.block < B ∧ w.cell? (ad.add (i * 2)) = some (.int .i64 l[i].s) ∧ w.cell? ⟨(ad.add (i * 2)).block, (ad.add (i * 2)).off + 1, none⟩ = some (.slice l[i].A l[i].D.length l[i].c) := by
  obtain ⟨ad, e, hb, hc⟩ := Rds.elem dtC 2 dtC_len h hi
  exact ⟨ad, e, hb, hc 0 _ (by omega) rfl, by rw [add_at ad (i * 2) 0]; exact hc 1 _ (by omega) rfl⟩
def dOne (v : Vw) (d : Dt) : List R := if d.s = v.s then d.D.map (spotV v) else []
def dList (v : Vw) (ds : List Dt) : List R := if rChk (rvV v) = true then ds.flatMap (dOne v) else []
theorem flat_snoc (S : List R) (r : R) : damAdd (flatF S) r = flatF (S ++ [r]) := by
  unfold damAdd
  rw [flat_flat]
  unfold flatF
  rw [List.foldl_append]; rfl
theorem map_tk {α β : Type} (f : α → β) (l : List α) {k : Nat} (hk : k < l.length) : (l.take (k + 1)).map f = (l.take k).map f ++ [f l[k]] := by
  rw [← List.take_append_getElem hk, List.map_append]; rfl
theorem fm_tk {α β : Type} (f : α → List β) (l : List α) {k : Nat} (hk : k < l.length) : (l.take (k + 1)).flatMap f = (l.take k).flatMap f ++ f l[k] := by
  rw [← List.take_append_getElem hk, List.flatMap_append]; simp
def eqV (a b : Vw) : Bool := a.s == b.s && (a.b == b.b && (a.x == b.x && (a.y == b.y && (a.w == b.w && a.h == b.h))))
theorem eqV_iff {a b : Vw} : eqV a b = true ↔ a = b := by
  obtain ⟨a0, a1, a2, a3, a4, a5⟩ := a
  obtain ⟨b0, b1, b2, b3, b4, b5⟩ := b
  unfold eqV
  simp only [Bool.and_eq_true, beq_iff_eq, Vw.mk.injEq]
set_option maxHeartbeats 4000000 in
theorem vEq (d : Nat) (w : World) (x0 x1 x2 x3 x4 x5 y0 y1 y2 y3 y4 y5 : Int) :
    (Op.equalIn (d + 2) 62 (.agg #[.int .i64 x0, .int .i64 x1, .int .i64 x2, .int .i64 x3, .int .i64 x4, .int .i64 x5]) (.agg #[.int .i64 y0, .int .i64 y1, .int .i64 y2, .int .i64 y3, .int .i64 y4, .int .i64 y5])).run Tryz.prog w = .ok (eqV ⟨x0, x1, x2, x3, x4, x5⟩ ⟨y0, y1, y2, y3, y4, y5⟩) w := by
  have hu := Tryz.underlying62
  have h3 := Tryz.underlying3
  have hp : Tryz.prog.stoodInHeld 62 = false := by kernel_rfl
  rw [run_equalIn_struct w (d + 1) 62 _ _ (by simp only [Program.fieldsOf, hu]) hp]
  unfold eqV
  by_cases c0 : x0 = y0
  case neg => go_simp; try simp [c0]
  by_cases c1 : x1 = y1
  case neg => go_simp; try simp [c0, c1]
  by_cases c2 : x2 = y2
  case neg => go_simp; try simp [c0, c1, c2]
  by_cases c3 : x3 = y3
  case neg => go_simp; try simp [c0, c1, c2, c3]
  by_cases c4 : x4 = y4
  case neg => go_simp; try simp [c0, c1, c2, c3, c4]
  by_cases c5 : x5 = y5
  case neg => go_simp; try simp [c0, c1, c2, c3, c4, c5]
  go_simp; try simp [c0, c1, c2, c3, c4, c5]
attribute [local go_sem high] vEq bmax2 bmax_2
theorem cut33 (w : World) (A : Option Addr) (n c : Nat) (h : n ≤ c) : (Instr.slice 25 (.slice A n c) none (some (.int .i64 (n : Int))) (some (.int .i64 (n : Int)))).run Tryz.prog w = .ok (.slice A n n) w := by
  obtain ⟨iR, hiR, zR0, zR1, zR2⟩ := info_parts infoR
  have := Cut3.cut_to3 (P := Tryz.prog) 25 64 .i64 .i64 Tryz.underlying25 hiR A n c (n : Int) (by omega) (by omega) h w
  simpa using this
attribute [local go_sem high] cut33
def zV : Vw := ⟨0, 0, 0, 0, 0, 0⟩
def atV (x : List Vw) (i : Nat) : Vw := (x[i]?).getD zV
theorem near_z : NearV zV := ⟨⟨by decide, by decide⟩, ⟨by decide, by decide⟩, ⟨by decide, by decide⟩, ⟨by decide, by decide⟩⟩
theorem near_at {x : List Vw} (h : ∀ v ∈ x, NearV v) (i : Nat) : NearV (atV x i) := by
  unfold atV
  cases e : x[i]? with
  | none => exact near_z
  | some v => exact h _ (List.mem_of_getElem? e)
theorem at_in {x : List Vw} {i : Nat} (h : i < x.length) : atV x i = x[i] := by
  unfold atV
  rw [List.getElem?_eq_getElem h]; rfl
theorem at_outV {x : List Vw} {i : Nat} (h : ¬ i < x.length) : atV x i = zV := by
  unfold atV
  rw [List.getElem?_eq_none (by omega)]; rfl
set_option maxRecDepth 100000 in
set_option maxHeartbeats 8000000 in
theorem atV_any (A : Option Addr) (c : Nat) (l : List Vw) (k : Nat) (w : World) (hn : l.length ≤ 1000000) (hk : k ≤ 1000000) (hl : Rds w w.heap.size 6 A l.length (l.flatMap vwC)) :
    Calls Tryz.prog 30 #[.slice A l.length c, .int .i64 (k : Int)] w fun e w' => e = .returned (.tuple #[.agg #[.int .i64 (atV l k).s, .int .i64 (atV l k).b, .int .i64 (atV l k).x, .int .i64 (atV l k).y, .int .i64 (atV l k).w, .int .i64 (atV l k).h], .bool (decide (k < l.length))]) ∧ Below w.heap.size w w' := by
  have hI : ∀ v : Vw, (Tryz.prog.info? 62).map (·.size) = some (#[.int .i64 v.s, .int .i64 v.b, .int .i64 v.x, .int .i64 v.y, .int .i64 v.w, .int .i64 v.h] : Array Value).size := fun v => by kernel_rfl
  by_cases hlt : k < l.length
  · obtain ⟨ad, rfl, hbl, c0, c1, c2, c3, c4, c5⟩ := at6 hl hlt
    have hd : decide ((l.length : Int) ≤ (k : Int)) = false := by simp; omega
    have hd2 : decide (l.length ≤ k) = false := by simp; omega
    have i0 : (0 : Int) ≤ (k : Int) := by omega
    have i1 : (k : Int) < (l.length : Int) := by omega
    rw [at_in hlt, decide_eq_true hlt]
    generalize hs : l[k] = v at *
    have hlw : ∀ j, (⟨(ad.add (k * 6)).block, (ad.add (k * 6)).off + j, none⟩ : Addr).block < w.heap.size := fun j => by show (ad.add (k * 6)).block < _; rw [add_blk]; exact hbl
    have hblk : (ad.add (k * 6)).block < w.heap.size := hlw 0
    have hne : ¬ ((ad.add (k * 6)).block = w.heap.size) := Nat.ne_of_lt hblk
    have hne' : ¬ (w.heap.size = (ad.add (k * 6)).block) := fun e => hne e.symm
    clear hs hlt hl
    go_enter Tryz.func30, Tryz.ntmps30
    go_wp2_with fail
    refine post_cell_tmp w.heap.size 62 #[.int .i64 v.s, .int .i64 v.b, .int .i64 v.x, .int .i64 v.y, .int .i64 v.w, .int .i64 v.h] Tryz.results30 Tryz.underlying62 rfl (hI v) rfl ?bk rfl ?fin
    case bk => with_reducible exact Bk.new _ _ _
    case fin => exact ⟨rfl, bl_alloc (Below.refl _ _) _⟩
  · have hd : decide ((l.length : Int) ≤ (k : Int)) = true := by simp; omega
    have hd2 : decide (l.length ≤ k) = true := by simp; omega
    rw [at_outV hlt, decide_eq_false hlt]
    clear hlt hl
    go_enter Tryz.func30, Tryz.ntmps30
    go_wp2_with fail
    refine post_cell_tmp w.heap.size 62 #[.int .i64 0, .int .i64 0, .int .i64 0, .int .i64 0, .int .i64 0, .int .i64 0] Tryz.results30 Tryz.underlying62 rfl (hI zV) rfl ?bk rfl ?fin
    case bk => with_reducible exact Bk.new _ _ _
    case fin => exact ⟨rfl, bl_alloc (Below.refl _ _) _⟩
set_option maxRecDepth 100000 in
set_option maxHeartbeats 8000000 in
theorem ofV_any (s b x y a h : Int) (w : World) :
    Calls Tryz.prog 33 #[.agg #[.int .i64 s, .int .i64 b, .int .i64 x, .int .i64 y, .int .i64 a, .int .i64 h]] w fun e w' => e = .returned (.agg #[.int .i64 x, .int .i64 y, .int .i64 a, .int .i64 h]) ∧ Below w.heap.size w w' := by
  have hI : (Tryz.prog.info? 64).map (·.size) = some (#[.int .i64 x, .int .i64 y, .int .i64 a, .int .i64 h] : Array Value).size := by kernel_rfl
  go_enter Tryz.func33, Tryz.ntmps33
  go_wp2_with fail
  refine post_cell (w.heap.size + 1) 64 #[.int .i64 x, .int .i64 y, .int .i64 a, .int .i64 h] Tryz.results33 Tryz.underlying64 rfl hI rfl ?bk rfl ⟨rfl, ?_⟩
  case bk => exact Bk.new' _ _ _ (by simp)
  exact bl_alloc (bl_alloc (Below.refl _ _) _) _

end Go.Proofs.YtjjdgbhplechbaaGreatDoor.Cv
/- repaint.dirt: what it makes. Printed by gen_rep.py. -/
set_option linter.unusedVariables false
set_option linter.unusedSimpArgs false
namespace Go.Proofs.YtjjdgbhplechbaaGreatDoor.Cv
open Go.RowKit Go.Proofs.YtjjdgbhplechbaaGreatDoor.Kit Go.Proofs.YtjjdgbhplechbaaGreatDoor.Reg Go.Proofs.YtjjdgbhplechbaaGreatDoor.Rect

set_option maxRecDepth 100000 in
set_option maxHeartbeats 32000000 in
theorem dirt_any (base : Nat) (A : Option Addr) (c : Nat) (S : List R) (v : Vw) (B : Option Addr) (d : Nat) (ds : List Dt) (w : World) (hv : NearV v) (hcc : (flatF S).length ≤ c) (hA : Out base w A (flatF S)) (hbase : base ≤ w.heap.size)
    (hl : Rds w w.heap.size 2 B ds.length (ds.flatMap dtC)) (hd : ∀ d ∈ ds, DtOk w w.heap.size d) (hn : ds.length ≤ 1000000) :
    Calls Tryz.prog 31 #[.slice A (flatF S).length c, .agg #[.int .i64 v.s, .int .i64 v.b, .int .i64 v.x, .int .i64 v.y, .int .i64 v.w, .int .i64 v.h], .slice B ds.length d] w (OutB base w (flatF (S ++ dList v ds))) := by
  obtain ⟨vs, vb, vx, vy, vw, vh⟩ := v
  have hchk := fun w => Check_any vx vy vw vh w (near_64 hv)
  cases hc : rChk ⟨vx, vy, vw, vh⟩ with
  | false =>
    rw [hc] at hchk
    have hD : dList ⟨vs, vb, vx, vy, vw, vh⟩ ds = [] := by unfold dList rvV; rw [if_neg (by rw [hc]; decide)]
    rw [hD, List.append_nil]
    obtain ⟨F, hF⟩ : ∃ F, flatF S = F := ⟨_, rfl⟩
    rw [hF] at hA hcc ⊢
    have hchk := Lib.hid hchk
    clear hF hD hc hl hd hn hv
    go_enter Tryz.func31, Tryz.ntmps31
    go_wp2_with fail
    generalize hwv : World.alloc _ _ = w1
    have hb1 : Below w.heap.size w w1 := hwv ▸ bl_alloc (Below.refl _ _) _
    clear hwv
    refine (ofV_any vs vb vx vy vw vh w1).mono ?_
    rintro e w2 ⟨rfl, hb2⟩
    go_wp2_with fail
    refine (hchk.out w2).mono ?_
    rintro e w3 ⟨rfl, hb3⟩
    have h03 := bl_step (bl_step hb1 hb2) hb3
    go_wp2_with fail
    go_ret
    exact ⟨A, c, rfl, hcc, hA.be h03, h03⟩
  | true =>
    rw [hc] at hchk
    have hD : dList ⟨vs, vb, vx, vy, vw, vh⟩ ds = ds.flatMap (dOne ⟨vs, vb, vx, vy, vw, vh⟩) := by unfold dList rvV; rw [if_pos hc]
    rw [hD]
    have hchk := Lib.hid hchk
    have hvH := Lib.hid hv
    have hA := Lib.hid hA
    have hd := Lib.hid hd
    have HSH := Lib.hid (fun (a0 a1 a2 a3 : Int) (h : (⟨a0, a1, a2, a3⟩ : R) = zR ∨ chkR ⟨a0, a1, a2, a3⟩) w => Shift_any a0 a1 a2 a3 vx vy w (fun _ => sm_or h) (fun _ => nr_x hv.1) (fun _ => nr_x hv.2.1))
    have HCT := Lib.hid (fun (a0 a1 a2 a3 : Int) (h : Sm ⟨a0, a1, a2, a3⟩) w => Cut_any a0 a1 a2 a3 vx vy vw vh w (fun _ => h) (fun _ => near_sm hv))
    clear hD hc hv
    go_enter Tryz.func31, Tryz.ntmps31
    go_wp2_with fail
    generalize hwv : World.alloc _ _ = w1
    have B1 : Bk w1 w.heap.size 62 #[.int .i64 vs, .int .i64 vb, .int .i64 vx, .int .i64 vy, .int .i64 vw, .int .i64 vh] := hwv ▸ Bk.new _ _ _
    have hb1 : Below w.heap.size w w1 := hwv ▸ bl_alloc (Below.refl _ _) _
    clear hwv
    obtain ⟨gv, hgv⟩ : ∃ gv, w.heap.size = gv := ⟨_, rfl⟩
    rw [hgv] at B1 ⊢
    refine (ofV_any vs vb vx vy vw vh w1).mono ?_
    rintro e w2 ⟨rfl, hb2⟩
    go_wp2_with fail
    refine (hchk.out w2).mono ?_
    rintro e w3 ⟨rfl, hb3⟩
    have h13 := bl_step hb2 hb3
    have h03 := bl_step hb1 h13
    have B3 := B1.be h13
    have hl3 := (hl.be h03).more h03.size
    have hd3 := Lib.hid (fun d hm => (DtOk.mk (((hd.out d hm).r.be h03).more h03.size) (hd.out d hm).i (hd.out d hm).n : DtOk w3 w3.heap.size d))
    have hO3 := Lib.hid (hA.out.be h03)
    have hs3 := Nat.le_trans hbase h03.size
    clear hl hd hA hb1 hb2 hb3 h13 B1 hchk
    go_wp2_with fail
    go_loopw [0, 8, 10, 18] (fun s0 _ _ s18 wr => ∃ k : Nat, k ≤ ds.length ∧ s18 = .int .i64 (k : Int) ∧ ∃ A' c', s0 = .slice A' (flatF (S ++ (ds.take k).flatMap (dOne ⟨vs, vb, vx, vy, vw, vh⟩))).length c' ∧ (flatF (S ++ (ds.take k).flatMap (dOne ⟨vs, vb, vx, vy, vw, vh⟩))).length ≤ c' ∧ Hid (Out base wr A' (flatF (S ++ (ds.take k).flatMap (dOne ⟨vs, vb, vx, vy, vw, vh⟩)))) ∧ Below w3.heap.size w3 wr) (fun _ _ _ s18 _ => ds.length - (intOf s18).toNat)
    case atStart => exact ⟨0, by omega, rfl, A, c, by rw [List.take_zero, List.flatMap_nil, List.append_nil], by rw [List.take_zero, List.flatMap_nil, List.append_nil]; exact hcc, by rw [List.take_zero, List.flatMap_nil, List.append_nil]; exact hO3, Below.refl _ _⟩
    case round =>
      obtain ⟨k, hk, rfl, A', c', rfl, hcp, hO, hbr⟩ := hrel
      obtain ⟨wo, rfl⟩ : ∃ x : World, x = wr := ⟨_, rfl⟩
      by_cases hlt : k < ds.length
      · have hst := fm_tk (dOne ⟨vs, vb, vx, vy, vw, vh⟩) ds hlt
        obtain ⟨ad, rfl, hbl, c0, c1⟩ := at2 (hl3.be hbr) hlt
        have hdk := hd3.out ds[k] (List.getElem_mem hlt)
        have i0 : (0 : Int) ≤ (k : Int) := by omega
        have i1 : (k : Int) < (ds.length : Int) := by omega
        have Br := B3.be hbr
        obtain ⟨b0, b1, b2, b3, b4, b5⟩ := Bk.c6 Br
        have hgl := Br.lt
        have hgn : ¬ (gv = wo.heap.size) := by omega
        have hgn' : ¬ (wo.heap.size = gv) := by omega
        obtain ⟨Sk, hSk⟩ : ∃ Sk, S ++ (ds.take k).flatMap (dOne ⟨vs, vb, vx, vy, vw, vh⟩) = Sk := ⟨_, rfl⟩
        have hst2 : S ++ (ds.take (k + 1)).flatMap (dOne ⟨vs, vb, vx, vy, vw, vh⟩) = Sk ++ dOne ⟨vs, vb, vx, vy, vw, vh⟩ ds[k] := by rw [hst, ← List.append_assoc, hSk]
        rw [hSk] at hO hcp ⊢
        have hst2 := Lib.hid hst2
        clear hst hSk
        generalize hs : ds[k] = dd at *
        have hlt := Lib.hid hlt
        have hdk := Lib.hid hdk
        by_cases he : dd.s = vs
        case neg =>
          have hE : (dd.s != vs) = true := by simpa using he
          have hdo : dOne ⟨vs, vb, vx, vy, vw, vh⟩ dd = [] := if_neg he
          have hst3 := hst2.out
          rw [hdo, List.append_nil] at hst3
          have hst3 := Lib.hid hst3
          clear hdo hst2 he
          go_wp2_with fail
          go_roundw
          case rel => exact ⟨k + 1, hlt.out, by go_num, A', c', by rw [hst3.out], by rw [hst3.out]; exact hcp, by rw [hst3.out]; exact Lib.hid (hO.out.be (bl_alloc (Below.refl _ _) _)), bl_alloc hbr _⟩
          case measure => have := hlt.out; simp [intOf]; omega
        have hE : (dd.s != vs) = false := by simpa using he
        have hdo : dOne ⟨vs, vb, vx, vy, vw, vh⟩ dd = dd.D.map (spotV ⟨vs, vb, vx, vy, vw, vh⟩) := if_pos he
        have hst3 := hst2.out
        rw [hdo] at hst3
        have hst3 := Lib.hid hst3
        clear hdo hst2 he
        go_wp2_with fail
        generalize hwv : World.alloc _ _ = w4
        have hb4 : Below wo.heap.size wo w4 := hwv ▸ bl_alloc (Below.refl _ _) _
        have B4 := Br.be hb4
        have hO4 := Lib.hid (hO.out.be hb4)
        have h34 := bl_step hbr hb4
        have hr4 := Lib.hid ((hdk.out.r.be h34).more h34.size)
        have hs4 := Nat.le_trans hs3 h34.size
        clear hwv c0 c1 b0 b1 b2 b3 b4 b5 hgl hgn hgn' hb4 Br
        go_loopw [0, 10, 30] (fun s0 _ s30 wq => ∃ j : Nat, j ≤ dd.D.length ∧ s30 = .int .i64 (j : Int) ∧ ∃ A' c', s0 = .slice A' (flatF (Sk ++ (dd.D.take j).map (spotV ⟨vs, vb, vx, vy, vw, vh⟩))).length c' ∧ (flatF (Sk ++ (dd.D.take j).map (spotV ⟨vs, vb, vx, vy, vw, vh⟩))).length ≤ c' ∧ Hid (Out base wq A' (flatF (Sk ++ (dd.D.take j).map (spotV ⟨vs, vb, vx, vy, vw, vh⟩)))) ∧ Below w4.heap.size w4 wq) (fun _ _ s30 _ => dd.D.length - (intOf s30).toNat)
        case atStart => exact ⟨0, by omega, rfl, A', c', by rw [List.take_zero, List.map_nil, List.append_nil], by rw [List.take_zero, List.map_nil, List.append_nil]; exact hcp, by rw [List.take_zero, List.map_nil, List.append_nil]; exact hO4, Below.refl _ _⟩
        case round =>
          obtain ⟨j, hj, rfl, A5, c5, rfl, hcp5, hO5, hbq⟩ := hrel
          obtain ⟨wq, rfl⟩ : ∃ x : World, x = wr := ⟨_, rfl⟩
          by_cases hjt : j < dd.D.length
          · have hst := map_tk (spotV ⟨vs, vb, vx, vy, vw, vh⟩) dd.D hjt
            obtain ⟨ad2, ead2, hbl2, r0, r1, r2, r3⟩ := Rds.rc (hr4.out.be hbq) hjt
            have h64 := hdk.out.i dd.D[j] (List.getElem_mem hjt)
            have hdn := hdk.out.n
            have j0 : (0 : Int) ≤ (j : Int) := by omega
            have j1 : (j : Int) < (dd.D.length : Int) := by omega
            have Bq := B4.be hbq
            obtain ⟨Sj, hSj⟩ : ∃ Sj, Sk ++ (dd.D.take j).map (spotV ⟨vs, vb, vx, vy, vw, vh⟩) = Sj := ⟨_, rfl⟩
            have hst2 : Sk ++ (dd.D.take (j + 1)).map (spotV ⟨vs, vb, vx, vy, vw, vh⟩) = Sj ++ [spotV ⟨vs, vb, vx, vy, vw, vh⟩ dd.D[j]] := by rw [hst, ← List.append_assoc, hSj]
            rw [hSj] at hO5 hcp5 ⊢
            generalize hsr : dd.D[j] = s at *
            obtain ⟨s0, s1, s2, s3⟩ := s
            dsimp only at r0 r1 r2 r3
            have HB := fun w => Bound_any s0 s1 s2 s3 w h64
            have hbc := bound_chk ⟨s0, s1, s2, s3⟩
            have hsp : spotV ⟨vs, vb, vx, vy, vw, vh⟩ ⟨s0, s1, s2, s3⟩ = rCut (rShift (rBound ⟨s0, s1, s2, s3⟩) vx vy) ⟨vx, vy, vw, vh⟩ := rfl
            have hs64 := spot_64 hvH.out ⟨s0, s1, s2, s3⟩
            obtain ⟨⟨p0, p1, p2, p3⟩, hp⟩ : ∃ q, rBound ⟨s0, s1, s2, s3⟩ = q := ⟨_, rfl⟩
            rw [hp] at HB hbc hsp
            have HS := HSH.out p0 p1 p2 p3 hbc
            have hsm := shift_sm hbc hvH.out.1 hvH.out.2.1
            dsimp only at hsm
            obtain ⟨⟨t0, t1, t2, t3⟩, ht⟩ : ∃ q, rShift ⟨p0, p1, p2, p3⟩ vx vy = q := ⟨_, rfl⟩
            rw [ht] at HS hsp hsm
            have HC := HCT.out t0 t1 t2 t3 hsm
            obtain ⟨⟨q0, q1, q2, q3⟩, hq⟩ : ∃ q, rCut ⟨t0, t1, t2, t3⟩ ⟨vx, vy, vw, vh⟩ = q := ⟨_, rfl⟩
            rw [hq] at HC hsp
            rw [hsp] at hs64 hst2
            dsimp only at HB HS HC
            have HA := fun A c w hl => damAdd_any A c (flatF Sj) q0 q1 q2 q3 w hl (rg_i64 (rg_flat Sj)) (by have := len_flat Sj; omega) hs64
            rw [flat_snoc] at HA
            have HA := Lib.hid HA
            have HB := Lib.hid HB
            have HS := Lib.hid HS
            have HC := Lib.hid HC
            have hst2 := Lib.hid hst2
            have hst3' := hst3
            have hjt := Lib.hid hjt
            have hs5 := Nat.le_trans hs4 hbq.size
            obtain ⟨F, hF⟩ : ∃ F, flatF Sj = F := ⟨_, rfl⟩
            rw [hF] at hO5 hcp5 HA ⊢
            clear hF hsp hs64 hp ht hq hsm hbc hst hSj h64 hsr hst3'
            rw [ead2] at *
            have hgl := Bq.lt
            go_upto_region 10 with fail
            generalize hwv : World.alloc _ _ = w6
            have B6 : Bk w6 gv 62 #[.int .i64 vs, .int .i64 vb, .int .i64 vx, .int .i64 vy, .int .i64 vw, .int .i64 vh] := hwv ▸ Bq.al _
            have R6 : Bk w6 wq.heap.size 64 #[.int .i64 s0, .int .i64 s1, .int .i64 s2, .int .i64 s3] := hwv ▸ Bk.new _ _ _
            have hb6 : Below wq.heap.size wq w6 := hwv ▸ bl_alloc (Below.refl _ _) _
            have hO6 := Lib.hid (hO5.out.be hb6)
            have h46 := bl_step hbq hb6
            have hs6 := Nat.le_trans hs5 hb6.size
            obtain ⟨gr, hgr⟩ : ∃ gr, wq.heap.size = gr := ⟨_, rfl⟩
            rw [hgr] at R6 ⊢
            clear hwv hgr hgl r0 r1 r2 r3
            have hS : ∀ w' : World, Below w6.heap.size w6 w' → (Below w6.heap.size w6 w' ∧ w'.cell? ⟨gr, 0, none⟩ = some (.int .i64 s0) ∧ w'.cell? ⟨gr, 1, none⟩ = some (.int .i64 s1) ∧ w'.cell? ⟨gr, 2, none⟩ = some (.int .i64 s2) ∧ w'.cell? ⟨gr, 3, none⟩ = some (.int .i64 s3) ∧ w'.cell? ⟨gv, 0, none⟩ = some (.int .i64 vs) ∧ w'.cell? ⟨gv, 1, none⟩ = some (.int .i64 vb) ∧ w'.cell? ⟨gv, 2, none⟩ = some (.int .i64 vx) ∧ w'.cell? ⟨gv, 3, none⟩ = some (.int .i64 vy) ∧ w'.cell? ⟨gv, 4, none⟩ = some (.int .i64 vw) ∧ w'.cell? ⟨gv, 5, none⟩ = some (.int .i64 vh)) := fun w' hb => ⟨hb, (R6.be hb).cell 0, (R6.be hb).cell 1, (R6.be hb).cell 2, (R6.be hb).cell 3, (B6.be hb).cell 0, (B6.be hb).cell 1, (B6.be hb).cell 2, (B6.be hb).cell 3, (B6.be hb).cell 4, (B6.be hb).cell 5⟩
            have hS := Lib.hid hS
            refine wp_region_held_drew (S := fun w' : World => Below w6.heap.size w6 w' ∧ w'.cell? ⟨gr, 0, none⟩ = some (.int .i64 s0) ∧ w'.cell? ⟨gr, 1, none⟩ = some (.int .i64 s1) ∧ w'.cell? ⟨gr, 2, none⟩ = some (.int .i64 s2) ∧ w'.cell? ⟨gr, 3, none⟩ = some (.int .i64 s3) ∧ w'.cell? ⟨gv, 0, none⟩ = some (.int .i64 vs) ∧ w'.cell? ⟨gv, 1, none⟩ = some (.int .i64 vb) ∧ w'.cell? ⟨gv, 2, none⟩ = some (.int .i64 vx) ∧ w'.cell? ⟨gv, 3, none⟩ = some (.int .i64 vy) ∧ w'.cell? ⟨gv, 4, none⟩ = some (.int .i64 vw) ∧ w'.cell? ⟨gv, 5, none⟩ = some (.int .i64 vh)) (by kernel_rfl) (by (try dsimp only); exact hS.out _ (by repeat (first | (with_reducible exact Below.refl _ _) | (with_reducible assumption) | (with_reducible apply bl_alloc) | (with_reducible apply bl_drew)))) (fun hHeld => ?_)
            refine wpAnyH_take (i := 0) (v := ?_) rfl (by kernel_rfl) (by kernel_rfl) (by kernel_rfl) (fun _ _ _ h => h) (Or.inl ⟨by rfl, ?_⟩) (by assumption) ?_
            rotate_left
            · (intro w hSw; (try dsimp only at hSw); go_simp; try (with_reducible rfl))
            (try simp only [Act.put, List.setIfInBounds_toArray, List.set_cons_zero, List.set_cons_succ])
            refine wpAnyH_take (i := 1) (v := ?_) rfl (by kernel_rfl) (by kernel_rfl) (by kernel_rfl) (fun _ _ _ h => h) (Or.inl ⟨by rfl, ?_⟩) (by assumption) ?_
            rotate_left
            · (intro w hSw; (try dsimp only at hSw); go_simp; try (with_reducible rfl))
            (try simp only [Act.put, List.setIfInBounds_toArray, List.set_cons_zero, List.set_cons_succ])
            refine wpAnyH_take (i := 3) (v := ?_) rfl (by kernel_rfl) (by kernel_rfl) (by kernel_rfl) (fun _ _ _ h => h) (Or.inl ⟨by rfl, ?_⟩) (by assumption) ?_
            rotate_left
            · (intro w hSw; (try dsimp only at hSw); go_simp; try (with_reducible rfl))
            (try simp only [Act.put, List.setIfInBounds_toArray, List.set_cons_zero, List.set_cons_succ])
            refine wpAnyH_take (i := 4) (v := ?_) rfl (by kernel_rfl) (by kernel_rfl) (by kernel_rfl) (fun _ _ _ h => h) (Or.inl ⟨by rfl, ?_⟩) (by assumption) ?_
            rotate_left
            · (intro w hSw; (try dsimp only at hSw); go_simp; try (with_reducible rfl))
            (try simp only [Act.put, List.setIfInBounds_toArray, List.set_cons_zero, List.set_cons_succ])
            refine wpAnyH_take (i := 5) (v := ?_) rfl (by kernel_rfl) (by kernel_rfl) (by kernel_rfl) (fun _ _ _ h => h) (Or.inl ⟨by rfl, ?_⟩) (by assumption) ?_
            rotate_left
            · (intro w hSw; (try dsimp only at hSw); go_simp; try (with_reducible rfl))
            (try simp only [Act.put, List.setIfInBounds_toArray, List.set_cons_zero, List.set_cons_succ])
            refine wpAnyH_take (i := 6) (v := ?_) rfl (by kernel_rfl) (by kernel_rfl) (by kernel_rfl) (fun _ _ _ h => h) (Or.inl ⟨by rfl, ?_⟩) (by assumption) ?_
            rotate_left
            · (intro w hSw; (try dsimp only at hSw); go_simp; try (with_reducible rfl))
            (try simp only [Act.put, List.setIfInBounds_toArray, List.set_cons_zero, List.set_cons_succ])
            refine wpAnyH_take (i := 8) (v := ?_) rfl (by kernel_rfl) (by kernel_rfl) (by kernel_rfl) (fun _ _ _ h => h) (Or.inl ⟨by rfl, ?_⟩) (by assumption) ?_
            rotate_left
            · (intro w hSw; (try dsimp only at hSw); go_simp; try (with_reducible rfl))
            (try simp only [Act.put, List.setIfInBounds_toArray, List.set_cons_zero, List.set_cons_succ])
            refine wpAnyH_ready (rs := [2]) (by kernel_rfl) (by simp) ?_
            refine AllReadyH.cons (i := 2) rfl (fun K hK => ?_) AllReadyH.nil
            go_simp
            go_at_call 48
            have hbe : Below w6.heap.size w6 w6.drew := bl_drew (Below.refl _ _)
            refine (HB.out _).mono ?_
            rintro e wa ⟨rfl, hba⟩
            have hbA := bl_step hbe hba
            try (go_wp2_with fail)
            refine hK.out _ _ (by (try dsimp only); exact hS.out _ (by repeat (first | (with_reducible exact Below.refl _ _) | (with_reducible assumption) | (with_reducible apply bl_alloc) | (with_reducible apply bl_drew)))) (fun hHeld2 => ?_)
            clear hHeld
            rename _ => hHeld
            clear hK K
            (try simp only [Act.put, List.setIfInBounds_toArray, List.set_cons_zero, List.set_cons_succ])
            refine wpAnyH_ready (rs := [7]) (by kernel_rfl) (by simp) ?_
            refine AllReadyH.cons (i := 7) rfl (fun K hK => ?_) AllReadyH.nil
            go_simp
            go_at_call 47
            refine (HS.out _).mono ?_
            rintro e wb ⟨rfl, hbb⟩
            have hbB := bl_step hbA hbb
            try (go_wp2_with fail)
            refine hK.out _ _ (by (try dsimp only); exact hS.out _ (by repeat (first | (with_reducible exact Below.refl _ _) | (with_reducible assumption) | (with_reducible apply bl_alloc) | (with_reducible apply bl_drew)))) (fun hHeld2 => ?_)
            clear hHeld
            rename _ => hHeld
            clear hK K
            (try simp only [Act.put, List.setIfInBounds_toArray, List.set_cons_zero, List.set_cons_succ])
            refine wpAnyH_ready (rs := [9]) (by kernel_rfl) (by simp) ?_
            refine AllReadyH.cons (i := 9) rfl (fun K hK => ?_) AllReadyH.nil
            go_simp
            go_at_call 33
            refine (ofV_any vs vb vx vy vw vh _).mono ?_
            rintro e wc ⟨rfl, hbc⟩
            have hbC := bl_step hbB hbc
            try (go_wp2_with fail)
            refine hK.out _ _ (by (try dsimp only); exact hS.out _ (by repeat (first | (with_reducible exact Below.refl _ _) | (with_reducible assumption) | (with_reducible apply bl_alloc) | (with_reducible apply bl_drew)))) (fun hHeld2 => ?_)
            clear hHeld
            rename _ => hHeld
            clear hK K
            (try simp only [Act.put, List.setIfInBounds_toArray, List.set_cons_zero, List.set_cons_succ])
            refine wpAnyH_ready (rs := [10]) (by kernel_rfl) (by simp) ?_
            refine AllReadyH.cons (i := 10) rfl (fun K hK => ?_) AllReadyH.nil
            go_simp
            go_at_call 46
            refine (HC.out _).mono ?_
            rintro e w8 ⟨rfl, hb8⟩
            have hb68 := bl_step hbC hb8
            have hs8 := Nat.le_trans hs6 hb68.size
            try (go_wp2_with fail)
            refine hK.out _ _ (by (try dsimp only); exact hS.out _ (by repeat (first | (with_reducible exact Below.refl _ _) | (with_reducible assumption) | (with_reducible apply bl_alloc) | (with_reducible apply bl_drew)))) (fun hHeld2 => ?_)
            clear hHeld
            rename _ => hHeld
            clear hK K
            (try simp only [Act.put, List.setIfInBounds_toArray, List.set_cons_zero, List.set_cons_succ])
            refine wpAnyH_ready (rs := [11]) (by kernel_rfl) (by simp) ?_
            refine AllReadyH.cons (i := 11) rfl (fun K hK => ?_) AllReadyH.nil
            go_simp
            go_at_call 32
            refine (HA.out A5 c5 w8 (hO6.out.be hb68).1).mono ?_
            rintro e w9 ⟨A9, c9, rfl, hcp9, hO9, hb9⟩
            have hb69 := bl_step hb68 hb9
            try (go_wp2_with fail)
            refine hK.out _ _ (by (try dsimp only); exact hS.out _ (by repeat (first | (with_reducible exact Below.refl _ _) | (with_reducible assumption) | (with_reducible apply bl_alloc) | (with_reducible apply bl_drew)))) (fun hHeld2 => ?_)
            clear hHeld
            rename _ => hHeld
            clear hK K
            (try simp only [Act.put, List.setIfInBounds_toArray, List.set_cons_zero, List.set_cons_succ])
            refine wpAnyH_ready (rs := [12]) (by kernel_rfl) (by simp) ?_
            refine AllReadyH.cons (i := 12) rfl (fun K hK => ?_) AllReadyH.nil
            go_simp
            refine hK.out _ _ hHeld (fun hHeld2 => ?_)
            clear hHeld2 hK K
            (try simp only [Act.put, List.setIfInBounds_toArray, List.set_cons_zero, List.set_cons_succ])
            refine wpAnyH_done (by kernel_rfl) ?_ _
            clear hHeld hS
            go_wp2_with fail
            go_roundw
            case rel => exact ⟨j + 1, hjt.out, by go_num, A9, c9, by rw [hst2.out], by rw [hst2.out]; exact hcp9, by rw [hst2.out]; exact Lib.hid (hO9.le hs8), bl_step h46 hb69⟩
            case measure => have := hjt.out; simp [intOf]; omega
          · obtain rfl : j = dd.D.length := by omega
            rw [List.take_length] at hO5 hcp5
            rw [← hst3.out] at hO5 hcp5
            go_wp2_with fail
            go_roundw
            case rel => exact ⟨k + 1, hlt.out, by go_num, A5, c5, by (rw [hst3.out, List.take_length]), hcp5, hO5, bl_step h34 hbq⟩
            case measure => have := hlt.out; simp [intOf]; omega
      · obtain rfl : k = ds.length := by omega
        rw [List.take_length] at hO hcp
        go_wp2_with fail
        go_ret
        exact ⟨A', c', by (show Ending.returned (.slice A' (flatF (S ++ (ds.take ds.length).flatMap (dOne ⟨vs, vb, vx, vy, vw, vh⟩))).length c') = _; rw [List.take_length]), hcp, hO.out, bl_step h03 hbr⟩
end Go.Proofs.YtjjdgbhplechbaaGreatDoor.Cv
/- repaint.Changed: what it makes. Printed by gen_chg.py. -/
set_option linter.unusedVariables false
set_option linter.unusedSimpArgs false
namespace Go.Proofs.YtjjdgbhplechbaaGreatDoor.Cv
open Go.RowKit Go.Proofs.YtjjdgbhplechbaaGreatDoor.Kit Go.Proofs.YtjjdgbhplechbaaGreatDoor.Reg Go.Proofs.YtjjdgbhplechbaaGreatDoor.Rect
attribute [local go_sem high] vEq bmax2 bmax_2 cut33
/-- what has changed at one place -/
def stepV (old l : List Vw) (ds : List Dt) (i : Nat) : List R :=
  if (decide (i < old.length) && (decide (i < l.length) && eqV (atV old i) (atV l i))) = true then dList (atV old i) ds
  else (if decide (i < old.length) = true then [rvV (atV old i)] else []) ++ (if decide (i < l.length) = true then [rvV (atV l i)] else [])
def seqV (old l : List Vw) (ds : List Dt) (k : Nat) : List R := (List.range k).flatMap (stepV old l ds)
theorem seqV_succ (old l : List Vw) (ds : List Dt) (k : Nat) : seqV old l ds (k + 1) = seqV old l ds k ++ stepV old l ds k := by
  unfold seqV
  rw [List.range_succ, List.flatMap_append]; simp
def chgV (old l : List Vw) (ds : List Dt) : List R := flatF (seqV old l ds (max old.length l.length))
set_option maxRecDepth 100000 in
set_option maxHeartbeats 32000000 in
theorem changed_any (A : Option Addr) (ca : Nat) (old : List Vw) (B : Option Addr) (cb : Nat) (l : List Vw) (C : Option Addr) (cd : Nat) (ds : List Dt) (w : World) (ho : ∀ v ∈ old, NearV v) (hn : ∀ v ∈ l, NearV v)
    (hA : Rds w w.heap.size 6 A old.length (old.flatMap vwC)) (hB : Rds w w.heap.size 6 B l.length (l.flatMap vwC)) (hC : Rds w w.heap.size 2 C ds.length (ds.flatMap dtC)) (hd : ∀ d ∈ ds, DtOk w w.heap.size d) (n1 : old.length ≤ 1000000) (n2 : l.length ≤ 1000000) (n3 : ds.length ≤ 1000000) :
    Calls Tryz.prog 19 #[.slice A old.length ca, .slice B l.length cb, .slice C ds.length cd] w (OutP w (chgV old l ds)) := by
  have hoA := Lib.hid (fun i => near_at ho i)
  have hnA := Lib.hid (fun i => near_at hn i)
  have hd := Lib.hid hd
  have hres : chgV old l ds = flatF (seqV old l ds (max old.length l.length)) := rfl
  obtain ⟨N, hN⟩ : ∃ N, max old.length l.length = N := ⟨_, rfl⟩
  rw [hN] at hres
  have hmx : mxI (old.length : Int) (l.length : Int) = (N : Int) := by rw [mxI_max, ← hN]; omega
  have hNl : N ≤ 1000000 := by omega
  have hNk : ∀ k, k < N → k < old.length ∨ k < l.length := fun k hk => by omega
  have hNk := Lib.hid hNk
  obtain ⟨RS, hRS⟩ : ∃ RS, chgV old l ds = RS := ⟨_, rfl⟩
  rw [hRS] at hres ⊢
  have hres := Lib.hid hres
  clear hRS hN ho hn
  go_enter Tryz.func19, Tryz.ntmps19
  go_wp2_with fail
  go_loopw [7, 8, 9, 10, 11, 12, 18] (fun s7 _ _ _ _ _ s18 wr => ∃ k : Nat, k ≤ N ∧ s18 = .int .i64 (k : Int) ∧ ∃ A' c', s7 = .slice A' (flatF (seqV old l ds k)).length c' ∧ (flatF (seqV old l ds k)).length ≤ c' ∧ Hid (Out w.heap.size wr A' (flatF (seqV old l ds k))) ∧ Below w.heap.size w wr) (fun _ _ _ _ _ _ s18 _ => N - (intOf s18).toNat)
  case atStart => exact ⟨0, by omega, rfl, none, 0, rfl, Nat.le_refl _, Lib.hid Out.nil, Below.refl _ _⟩
  case round =>
    obtain ⟨k, hk, rfl, A', c', rfl, hcp, hO, hbr⟩ := hrel
    obtain ⟨wo, rfl⟩ : ∃ x : World, x = wr := ⟨_, rfl⟩
    by_cases hlt : k < N
    · have dk : decide ((k : Int) < (N : Int)) = true := by simp; omega
      have hsq := Lib.hid (seqV_succ old l ds k)
      have hst : stepV old l ds k = stepV old l ds k := rfl
      conv at hst => rhs; unfold stepV
      have hA0 := (hA.be hbr).more hbr.size
      have hB0 := (hB.be hbr).more hbr.size
      have g1 : IntKind.i64.wrap ((k : Int) + 1) = (k : Int) + 1 := i64_in (by omega) (by omega)
      obtain ⟨Sk, hSk⟩ : ∃ Sk, seqV old l ds k = Sk := ⟨_, rfl⟩
      have hsq2 := hsq.out
      rw [hSk] at hO hcp hsq2 ⊢
      have hva := hoA.out k
      have hvb := hnA.out k
      have hea := atV_any A ca old k wo n1 (by omega) hA0
      have hk1 := hNk.out k hlt
      obtain ⟨va, hva2⟩ : ∃ v, atV old k = v := ⟨_, rfl⟩
      obtain ⟨vb, hvb2⟩ : ∃ v, atV l k = v := ⟨_, rfl⟩
      have heb := fun w h => atV_any B cb l k w n2 (by omega) h
      rw [hva2] at hva hea hst
      rw [hvb2] at hvb hst heb
      obtain ⟨b1, hb1⟩ : ∃ b, decide (k < old.length) = b := ⟨_, rfl⟩
      obtain ⟨b2, hb2⟩ : ∃ b, decide (k < l.length) = b := ⟨_, rfl⟩
      rw [hb1] at hea hst
      rw [hb2] at heb hst
      have hor : b1 = true ∨ b2 = true := by
        rcases hk1 with h | h
        · exact .inl (by rw [← hb1, decide_eq_true h])
        · exact .inr (by rw [← hb2, decide_eq_true h])
      have hea := Lib.hid hea
      have heb := Lib.hid heb
      have hlt := Lib.hid hlt
      clear hva2 hvb2 hb1 hb2 hk1 hsq hSk
      obtain ⟨i1, i2, i3, i4, i5, i6⟩ := va
      obtain ⟨j1, j2, j3, j4, j5, j6⟩ := vb
      have HAd := Lib.hid (fun A c S (q0 q1 q2 q3 : Int) w (hl : Rds w w.heap.size 4 A (flatF S).length ((flatF S).flatMap rC)) (h : I64 ⟨q0, q1, q2, q3⟩) => damAdd_any A c (flatF S) q0 q1 q2 q3 w hl (rg_i64 (rg_flat S)) (by have := len_flat S; omega) h)
      have hva := Lib.hid hva
      have hvb := Lib.hid hvb
      go_wp2_with fail
      refine hea.out.mono ?_
      rintro e w1 ⟨rfl, hq1⟩
      go_wp2_with fail
      generalize hwv : World.alloc _ _ = w2
      have Ba : Bk w2 w1.heap.size 62 #[.int .i64 i1, .int .i64 i2, .int .i64 i3, .int .i64 i4, .int .i64 i5, .int .i64 i6] := hwv ▸ Bk.new _ _ _
      have h12 : Below w1.heap.size w1 w2 := hwv ▸ bl_alloc (Below.refl _ _) _
      have h02 := bl_step hq1 h12
      obtain ⟨ga, hga⟩ : ∃ ga, w1.heap.size = ga := ⟨_, rfl⟩
      rw [hga] at Ba ⊢
      clear hwv hga h12
      refine (heb.out w2 ((hB0.be h02).more h02.size)).mono ?_
      rintro e w3 ⟨rfl, hq3⟩
      have h03 := bl_step h02 hq3
      have Ba3 := Ba.be hq3
      obtain ⟨y0, y1, y2, y3, y4, y5⟩ := Bk.c6 Ba3
      have hgal := Ba3.lt
      have hgn : ¬ (ga = w3.heap.size) := by omega
      have hgn' : ¬ (w3.heap.size = ga) := by omega
      obtain ⟨gb, hgb⟩ : ∃ gb, w3.heap.size = gb := ⟨_, rfl⟩
      obtain ⟨w4, hw4⟩ : ∃ w4, w3.alloc (.cells #[.int .i64 j1, .int .i64 j2, .int .i64 j3, .int .i64 j4, .int .i64 j5, .int .i64 j6] 62) = w4 := ⟨_, rfl⟩
      have Bb4 : Bk w4 gb 62 #[.int .i64 j1, .int .i64 j2, .int .i64 j3, .int .i64 j4, .int .i64 j5, .int .i64 j6] := hw4 ▸ hgb ▸ Bk.new _ _ _
      have h34 : Below w3.heap.size w3 w4 := hw4 ▸ bl_alloc (Below.refl _ _) _
      have Ba4 := Ba3.be h34
      have h04 := bl_step h03 h34
      have h4 := bl_step hbr h04
      have hO4 := Lib.hid (hO.out.be h04)
      have hC4 := (hC.be h4).more h4.size
      have hd4 := Lib.hid (fun d hm => (DtOk.mk (((hd.out d hm).r.be h4).more h4.size) (hd.out d hm).i (hd.out d hm).n : DtOk w4 w4.heap.size d))
      have h4s := h4.size
      obtain ⟨x0, x1, x2, x3, x4, x5⟩ := Bk.c6 Ba4
      obtain ⟨z0, z1, z2, z3, z4, z5⟩ := Bk.c6 Bb4
      cases b1 with
      | false =>
        obtain rfl : b2 = true := hor.resolve_left (by decide)
        have hnx : seqV old l ds (k + 1) = Sk ++ [⟨j3, j4, j5, j6⟩] := by rw [hsq2, hst]; rfl
        have hnx := Lib.hid hnx
        clear hsq2 hst
        go_wp2_with fail
        have hHA4 := fun w hl => HAd.out A' c' (Sk) j3 j4 j5 j6 w hl (near_64 hvb.out)
        rw [flat_snoc] at hHA4
        have hHA4 := Lib.hid hHA4
        refine (ofV_any j1 j2 j3 j4 j5 j6 w4).mono ?_
        rintro e wf4 ⟨rfl, hf4⟩
        have hO4' := hO4.out.be hf4
        go_wp2_with fail
        refine (hHA4.out wf4 hO4'.1).mono ?_
        rintro e wg4 ⟨Ag4, cg4, rfl, hcg4, hOg4, hg4⟩
        have hfg4 := bl_step hf4 hg4
        go_wp2_with fail
        go_roundw
        case rel => exact ⟨k + 1, hlt.out, by go_num, Ag4, cg4, by (first | (rw [hnx.out]; done) | (rw [hnx.out, List.append_assoc]; rfl)), by rw [hnx.out]; exact hcg4, by rw [hnx.out]; exact Lib.hid (hOg4.le (by have := hf4.size; omega)), bl_step h4 hfg4⟩
        case measure => have := hlt.out; simp [intOf]; omega
      | true =>
        cases b2 with
        | false =>
          have hnx : seqV old l ds (k + 1) = Sk ++ [⟨i3, i4, i5, i6⟩] := by rw [hsq2, hst]; rfl
          have hnx := Lib.hid hnx
          clear hsq2 hst
          go_wp2_with fail
          have hHA4 := fun w hl => HAd.out A' c' (Sk) i3 i4 i5 i6 w hl (near_64 hva.out)
          rw [flat_snoc] at hHA4
          have hHA4 := Lib.hid hHA4
          refine (ofV_any i1 i2 i3 i4 i5 i6 w4).mono ?_
          rintro e wf4 ⟨rfl, hf4⟩
          have hO4' := hO4.out.be hf4
          go_wp2_with fail
          refine (hHA4.out wf4 hO4'.1).mono ?_
          rintro e wg4 ⟨Ag4, cg4, rfl, hcg4, hOg4, hg4⟩
          have hfg4 := bl_step hf4 hg4
          go_wp2_with fail
          go_roundw
          case rel => exact ⟨k + 1, hlt.out, by go_num, Ag4, cg4, by (first | (rw [hnx.out]; done) | (rw [hnx.out, List.append_assoc]; rfl)), by rw [hnx.out]; exact hcg4, by rw [hnx.out]; exact Lib.hid (hOg4.le (by have := hf4.size; omega)), bl_step h4 hfg4⟩
          case measure => have := hlt.out; simp [intOf]; omega
        | true =>
          cases heq : eqV ⟨i1, i2, i3, i4, i5, i6⟩ ⟨j1, j2, j3, j4, j5, j6⟩ with
          | true =>
            have hnx : seqV old l ds (k + 1) = Sk ++ dList ⟨i1, i2, i3, i4, i5, i6⟩ ds := by rw [hsq2, hst, heq]; rfl
            have hnx := Lib.hid hnx
            have heq' := heq
            clear hsq2 hst
            go_wp2_with fail
            refine (dirt_any w.heap.size A' c' Sk ⟨i1, i2, i3, i4, i5, i6⟩ C cd ds w4 hva.out hcp hO4.out h4s hC4 hd4.out n3).mono ?_
            rintro e w5 ⟨A5, c5, rfl, hcp5, hO5, hb5⟩
            go_wp2_with fail
            go_roundw
            case rel => exact ⟨k + 1, hlt.out, by go_num, A5, c5, by (first | (rw [hnx.out]; done) | (rw [hnx.out, List.append_assoc]; rfl)), by rw [hnx.out]; exact hcp5, by rw [hnx.out]; exact Lib.hid (hO5), bl_step h4 hb5⟩
            case measure => have := hlt.out; simp [intOf]; omega
          | false =>
            have hnx : seqV old l ds (k + 1) = (Sk ++ [⟨i3, i4, i5, i6⟩]) ++ [⟨j3, j4, j5, j6⟩] := by rw [hsq2, hst, heq, List.append_assoc]; rfl
            have hnx := Lib.hid hnx
            clear hsq2 hst
            go_wp2_with fail
            have hHA4 := fun w hl => HAd.out A' c' (Sk) i3 i4 i5 i6 w hl (near_64 hva.out)
            rw [flat_snoc] at hHA4
            have hHA4 := Lib.hid hHA4
            refine (ofV_any i1 i2 i3 i4 i5 i6 w4).mono ?_
            rintro e wf4 ⟨rfl, hf4⟩
            have hO4' := hO4.out.be hf4
            go_wp2_with fail
            refine (hHA4.out wf4 hO4'.1).mono ?_
            rintro e wg4 ⟨Ag4, cg4, rfl, hcg4, hOg4, hg4⟩
            have hfg4 := bl_step hf4 hg4
            have hO5 := Lib.hid hOg4
            have Bb5 := Bb4.be hfg4
            obtain ⟨z0, z1, z2, z3, z4, z5⟩ := Bk.c6 Bb5
            go_wp2_with fail
            have hHA5 := fun w hl => HAd.out Ag4 cg4 (Sk ++ [⟨i3, i4, i5, i6⟩]) j3 j4 j5 j6 w hl (near_64 hvb.out)
            rw [flat_snoc] at hHA5
            have hHA5 := Lib.hid hHA5
            refine (ofV_any j1 j2 j3 j4 j5 j6 wg4).mono ?_
            rintro e wf5 ⟨rfl, hf5⟩
            have hO5' := hO5.out.be hf5
            go_wp2_with fail
            refine (hHA5.out wf5 hO5'.1).mono ?_
            rintro e wg5 ⟨Ag5, cg5, rfl, hcg5, hOg5, hg5⟩
            have hfg5 := bl_step hf5 hg5
            go_wp2_with fail
            go_roundw
            case rel => exact ⟨k + 1, hlt.out, by go_num, Ag5, cg5, by (first | (rw [hnx.out]; done) | (rw [hnx.out, List.append_assoc]; rfl)), by rw [hnx.out]; exact hcg5, by rw [hnx.out]; exact Lib.hid (hOg5.le (by have := hf4.size; have := hfg4.size; have := hf5.size; omega)), bl_step (bl_step h4 hfg4) hfg5⟩
            case measure => have := hlt.out; simp [intOf]; omega
    · obtain rfl : k = N := by omega
      have dk : decide ((k : Int) < (k : Int)) = false := by simp
      go_wp2_with fail
      go_ret
      exact ⟨A', (flatF (seqV old l ds k)).length, by rw [hres.out]; rfl, by rw [hres.out]; exact Nat.le_refl _, by rw [hres.out]; exact hO.out, hbr⟩
end Go.Proofs.YtjjdgbhplechbaaGreatDoor.Cv
