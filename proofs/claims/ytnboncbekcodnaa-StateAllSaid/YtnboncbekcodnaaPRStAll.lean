/- StateAll, walked by hand. Printed by gen_all.py. -/
import Derived.Test.YtnboncbekcodnaaPRStSame
import Derived.Test.YtnboncbekcodnaaPRRSame
import Derived.Test.YtnboncbekcodnaaPRStCopy
import Derived.Test.YtnboncbekcodnaaPRAw15
import Derived.Test.YtnboncbekcodnaaSt10
import Derived.Deep.RegionHeld3
import Derived.Deep.Cut
import Derived.Laws.StructEq
set_option linter.unusedVariables false
set_option linter.unusedSimpArgs false
namespace Go.Proofs.Ytnboncbekcodnaa.PR
open Go.RowKit Go.Proofs.YtnboncbekcodnaaW.PrintWords Go.Proofs.Ytnboncbekcodnaa.Kit Go.Proofs.Ytnboncbekcodnaa.St
theorem c3 {w : World} {g : Nat} {t : TypeId} {x0 x1 x2 : Value} (h : Bk w g t #[x0, x1, x2]) : w.cell? ⟨g, 0, none⟩ = some x0 ∧ w.cell? ⟨g, 1, none⟩ = some x1 ∧ w.cell? ⟨g, 2, none⟩ = some x2 := ⟨h.cell 0, h.cell 1, h.cell 2⟩
theorem st3 {w : World} {g : Nat} {t : TypeId} {x0 x1 x2 : Value} (h : Bk w g t #[x0, x1, x2]) (u0 u1 u2 : Value) : Bk (((w.setCell ⟨g, 0, none⟩ u0).setCell ⟨g, 1, none⟩ u1).setCell ⟨g, 2, none⟩ u2) g t #[u0, u1, u2] := ((h.st 0 u0).st 1 u1).st 2 u2
theorem StO.low {w W X : World} {t : Stt} {h : Hd} (s : StO W X.heap.size t h) (hb : Below w.heap.size w X) : StO W w.heap.size t h := ⟨own_lower s.d hb.size, own_lower s.f hb.size, own_lower s.r hb.size, own_lower s.o hb.size, own_lower s.p hb.size⟩
theorem StO.al {w : World} {B : Nat} {t : Stt} {h : Hd} (s : StO w B t h) (o : Obj) : StO (w.alloc o) B t h := s.be (bl_alloc (Below.refl _ _) _)
theorem a_set10_size (w : World) (g : Nat) (u0 u1 u2 u3 u4 u5 u6 u7 u8 u9 : Value) : ((((((((((w.setCell ⟨g, 0, none⟩ u0).setCell ⟨g, 1, none⟩ u1).setCell ⟨g, 2, none⟩ u2).setCell ⟨g, 3, none⟩ u3).setCell ⟨g, 4, none⟩ u4).setCell ⟨g, 5, none⟩ u5).setCell ⟨g, 6, none⟩ u6).setCell ⟨g, 7, none⟩ u7).setCell ⟨g, 8, none⟩ u8).setCell ⟨g, 9, none⟩ u9).heap.size = w.heap.size := by simp
theorem a_alloc_size (w : World) (o : Obj) : (w.alloc o).heap.size = w.heap.size + 1 := by simp
theorem merge_O2 (s t : Stt) (hs ht : Hd) (w : World) (hS : StR w w.heap.size s hs) (hT : StR w w.heap.size t ht) (n : StN 1000 s) (m : StN 1000 t) :
    Calls Try.prog 13 #[.agg (stV s hs), .agg (stV t ht)] w fun e w' => ∃ h, e = .returned (.agg (stV (mergeS s t) h)) ∧ StO w' w.heap.size (mergeS s t) h ∧ Below w.heap.size w w' :=
  merge_any s t hs ht w hS hT n.d n.f n.r n.o n.p m.d m.f m.r m.o m.p
theorem step_on {P : Program} {ops : Array Oper} {o : Oper} {a : Act} {w : World} {K : Act → World → Prop} {Q : Exit → Act → World → Prop} {E : Prop} (hw : Region.wanted o (yielded ops a.tmps) = true) (h : Oper.wp P o a w K Q) : if Region.wanted o (yielded ops a.tmps) = true then Oper.wp P o a w K Q else E := by rw [if_pos hw]; exact h
theorem app_nil {P : Program} {o : Oper} {a : Act} {w : World} {K : Act → World → Prop} {Q : Exit → Act → World → Prop} (x : Operand) (t : TypeId) (d : Option Nat)
    (ho : o.op = .call { callee := .builtin .append, args := #[.const (.slice none 0 0), x], argTypes := #[t, t] }) (hd : o.dst = d)
    (e : TypeId) (i : TypeInfo) (z : Value) (size bytes : Nat) (ht : P.underlying t = some (.slice e)) (hi : P.info? e = some i) (hz : i.zero = some z)
    (hsize : i.size = size) (hby : i.bytes = bytes) (hzs : z.cells.size = size) (hsz : 0 < size)
    (B : Nat) (A : Option Addr) (m c : Nat) (news : List Value) (hx : a.eval x = .slice A m c) (hr : Rds w B size A m news) (h1 : ∀ u ∈ news, u.oneCell' = true)
    (h63 : m ≤ maxLen) (hbytes : m * bytes ≤ 140737488355328)
    (h : ∀ A' c' w', w'.ownsRow 0 e size (.slice A' m c') m news → Below w.heap.size w w' → K (a.put d (.slice A' m c')) w') : o.wp P a w K Q := by
  subst hd
  refine wp_app w (.const (.slice none 0 0)) x t ho 0 e i z size bytes ht hi hz hsize hby hzs hsz (.slice none 0 0) 0 [] rfl (World.ownsRow_nil _ _ _ _) B A m c news hx hr h1 (by omega) (by rw [Nat.zero_add]; exact hbytes) (Nat.zero_le _) ?_
  intro v' w' h2 h3 h4
  rw [Nat.zero_add, List.nil_append] at h2
  obtain ⟨A', c', rfl, _⟩ := own_form h2
  exact h A' c' w' h2 ((Below.refl _ _).grown h3 (Nat.le_refl _) (by simp [Value.ownBlock]))
theorem same_eq {p : Prop} {r q : Bool} (hr : r = true ↔ p) (hq : q = true ↔ p) : q = r := by
  cases r <;> cases q <;> simp_all
theorem cEq (d : Nat) (w : World) (x0 x1 x2 y0 y1 y2 : Int) :
    (Op.equalIn (d + 2) 24 (.agg #[.int .i64 x0, .int .i64 x1, .int .i64 x2]) (.agg #[.int .i64 y0, .int .i64 y1, .int .i64 y2])).run Try.prog w = .ok (x0 == y0 && (x1 == y1 && x2 == y2)) w := by
  have hu := Try.underlying24
  have h3 := Try.underlying3
  have hp : Try.prog.stoodInHeld 24 = false := by kernel_rfl
  rw [run_equalIn_struct w (d + 1) 24 _ _ (by simp only [Program.fieldsOf, hu]) hp]
  by_cases c0 : x0 = y0 <;> by_cases c1 : x1 = y1 <;> by_cases c2 : x2 = y2
  all_goals (go_simp; try simp [c0, c1, c2])
attribute [local go_sem high] cEq
set_option maxRecDepth 100000 in
set_option maxHeartbeats 64000000 in
theorem all_law (a b : Stt) (ha hb : Hd) (A : Option Addr) (lc : Nat) (l : List Ch) (c : Ch) (w : World) (ra : StR w w.heap.size a ha) (ca : StC a ha) (rb : StR w w.heap.size b hb) (cb : StC b hb) (rl : Rds w w.heap.size 3 A l.length (l.flatMap chC)) (cl : l.length ≤ lc) :
    Calls Try.prog 6 #[.agg (stV a ha), .agg (stV b hb), .slice A l.length lc, .agg #[.int .i64 c.id, .int .i64 c.x, .int .i64 c.y]] w fun e w' => e = .returned (.bool true) ∧ Below w.heap.size w w' := by
  obtain ⟨i0, hi0, hz0, hz1, hz2⟩ := info_parts infoChild
  go_enter Try.func6, Try.ntmps6
  go_wp2_with fail
  generalize hwv : World.alloc _ _ = w0
  have Ba : Bk w0 (w.heap.size) 33 (stV a ha) := hwv ▸ ((Bk.new _ _ _).al _).al _
  have Bb : Bk w0 (w.heap.size + 1) 33 (stV b hb) := hwv ▸ (Bk.new' _ _ _ (by simp)).al _
  have Bc : Bk w0 (w.heap.size + 1 + 1) 24 #[.int .i64 c.id, .int .i64 c.x, .int .i64 c.y] := hwv ▸ Bk.new' _ _ _ (by simp)
  have hw0 : Below w.heap.size w w0 := hwv ▸ bl_alloc (bl_alloc (bl_alloc (Below.refl _ _) _) _) _
  clear hwv
  refine (few_any a ha _).mono ?_
  rintro e w1 ⟨rfl, hq⟩
  replace Ba := Ba.be hq
  replace Bb := Bb.be hq
  replace Bc := Bc.be hq
  have hw1 := bl_step hw0 hq
  clear hq hw0
  by_cases fa : StN 60 a
  case neg =>
    rw [decide_eq_false fa]
    go_wp2_with fail
    refine (awake_any _).mono ?_
    rintro e wx ⟨rfl, hbx⟩
    go_wp2_with fail
    go_ret
    exact ⟨rfl, bl_step hw1 hbx⟩
  rw [decide_eq_true fa]
  obtain ⟨k0, k1, k2, k3, k4, k5, k6, k7, k8, k9⟩ := Bk.c10 Bb
  go_wp2_with fail
  clear k0 k1 k2 k3 k4 k5 k6 k7 k8 k9
  refine (few_any b hb _).mono ?_
  rintro e w2 ⟨rfl, hq⟩
  replace Ba := Ba.be hq
  replace Bb := Bb.be hq
  replace Bc := Bc.be hq
  have hw2 := bl_step hw1 hq
  clear hq hw1
  by_cases fb : StN 60 b
  case neg =>
    rw [decide_eq_false fb]
    go_wp2_with fail
    refine (awake_any _).mono ?_
    rintro e wx ⟨rfl, hbx⟩
    go_wp2_with fail
    go_ret
    exact ⟨rfl, bl_step hw2 hbx⟩
  rw [decide_eq_true fb]
  by_cases h60 : (60 : Int) < (l.length : Int)
  case pos =>
    go_wp2_with fail
    refine (awake_any _).mono ?_
    rintro e wx ⟨rfl, hbx⟩
    go_wp2_with fail
    go_ret
    exact ⟨rfl, bl_step hw2 hbx⟩
  replace ra := ra.at hw2
  replace rb := rb.at hw2
  replace rl := (rl.be hw2).more hw2.size
  have a1 := fa.le (by omega : 60 ≤ 1000)
  have b1 := fb.le (by omega : 60 ≤ 1000)
  have nab := (mergeN fa fb).le (by omega : 60 + 60 ≤ 1000)
  have pab := (applyN fa fb).le (by omega : 60 + 60 ≤ 1000)
  have l60 : l.length ≤ 60 := by omega
  clear fa fb
  go_upto_region 3 with fail
  go_cut [9, 10] from 15 (fun s9 s10 wx => ∃ g9 g10 h9 h10, s9 = .pointer (some ⟨g9, 0, none⟩) ∧ s10 = .pointer (some ⟨g10, 0, none⟩) ∧ Bk wx g9 33 #[.bool a.att, .int .i64 a.buf, .slice h9.dA a.D.length h9.dc, .slice h9.fA a.F.length h9.fc, .bool a.inp, .bool a.all, .slice h9.rA a.R.length h9.rc, .bool a.ord, .slice h9.oA a.O.length h9.oc, .slice h9.pA a.P.length h9.pc] ∧ Bk wx g10 33 #[.bool b.att, .int .i64 b.buf, .slice h10.dA b.D.length h10.dc, .slice h10.fA b.F.length h10.fc, .bool b.inp, .bool b.all, .slice h10.rA b.R.length h10.rc, .bool b.ord, .slice h10.oA b.O.length h10.oc, .slice h10.pA b.P.length h10.pc] ∧ StO wx w2.heap.size a h9 ∧ StO wx w2.heap.size b h10 ∧ Below w2.heap.size w2 wx)
  case first =>
    rename_i J K' hJ hK'
    have hS : ∀ w' : World, Below w2.heap.size w2 w' → (Below w2.heap.size w2 w' ∧ _ ∧ _) := fun w' hq => ⟨hq, Bk.c10 (Ba.be hq), Bk.c10 (Bb.be hq)⟩
    go_region_held3 (fun w' : World => Below w2.heap.size w2 w' ∧ (w'.cell? ⟨w.heap.size, 0, none⟩ = some (.bool a.att) ∧ w'.cell? ⟨w.heap.size, 1, none⟩ = some (.int .i64 a.buf) ∧ w'.cell? ⟨w.heap.size, 2, none⟩ = some (.slice ha.dA a.D.length ha.dc) ∧ w'.cell? ⟨w.heap.size, 3, none⟩ = some (.slice ha.fA a.F.length ha.fc) ∧ w'.cell? ⟨w.heap.size, 4, none⟩ = some (.bool a.inp) ∧ w'.cell? ⟨w.heap.size, 5, none⟩ = some (.bool a.all) ∧ w'.cell? ⟨w.heap.size, 6, none⟩ = some (.slice ha.rA a.R.length ha.rc) ∧ w'.cell? ⟨w.heap.size, 7, none⟩ = some (.bool a.ord) ∧ w'.cell? ⟨w.heap.size, 8, none⟩ = some (.slice ha.oA a.O.length ha.oc) ∧ w'.cell? ⟨w.heap.size, 9, none⟩ = some (.slice ha.pA a.P.length ha.pc)) ∧ (w'.cell? ⟨w.heap.size + 1, 0, none⟩ = some (.bool b.att) ∧ w'.cell? ⟨w.heap.size + 1, 1, none⟩ = some (.int .i64 b.buf) ∧ w'.cell? ⟨w.heap.size + 1, 2, none⟩ = some (.slice hb.dA b.D.length hb.dc) ∧ w'.cell? ⟨w.heap.size + 1, 3, none⟩ = some (.slice hb.fA b.F.length hb.fc) ∧ w'.cell? ⟨w.heap.size + 1, 4, none⟩ = some (.bool b.inp) ∧ w'.cell? ⟨w.heap.size + 1, 5, none⟩ = some (.bool b.all) ∧ w'.cell? ⟨w.heap.size + 1, 6, none⟩ = some (.slice hb.rA b.R.length hb.rc) ∧ w'.cell? ⟨w.heap.size + 1, 7, none⟩ = some (.bool b.ord) ∧ w'.cell? ⟨w.heap.size + 1, 8, none⟩ = some (.slice hb.oA b.O.length hb.oc) ∧ w'.cell? ⟨w.heap.size + 1, 9, none⟩ = some (.slice hb.pA b.P.length hb.pc))) (exact hS _ (by repeat (first | (with_reducible exact Below.refl _ _) | (with_reducible assumption) | (with_reducible apply bl_alloc) | (with_reducible apply bl_drew) | (with_reducible refine bl_set10 ?_ (by omega) _ _ _ _ _ _ _ _ _ _) | ((with_reducible refine bl_set ?_ ?hs _); case hs => (simp; try omega)) | (with_reducible refine bl_step ?_ (by assumption))))) (first
      | (go_at_call_of 21 ha.dA; refine (copy_O a ha _ (ra.at (by repeat (first | (with_reducible exact Below.refl _ _) | (with_reducible assumption) | (with_reducible apply bl_alloc) | (with_reducible apply bl_drew) | (with_reducible refine bl_set10 ?_ (by omega) _ _ _ _ _ _ _ _ _ _) | ((with_reducible refine bl_set ?_ ?hs _); case hs => (simp; try omega)) | (with_reducible refine bl_step ?_ (by assumption))))) ca a1).mono ?_; rintro e u1 ⟨h9, rfl, hO1, hqu1⟩; have yu1 : Below w2.heap.size w2 u1 := (by repeat (first | (with_reducible exact Below.refl _ _) | (with_reducible assumption) | (with_reducible apply bl_alloc) | (with_reducible apply bl_drew) | (with_reducible refine bl_set10 ?_ (by omega) _ _ _ _ _ _ _ _ _ _) | ((with_reducible refine bl_set ?_ ?hs _); case hs => (simp; try omega)) | (with_reducible refine bl_step ?_ (by assumption)))); have zu1 := yu1.size; have hO1 := StO.low (w := w2) hO1 (by repeat (first | (with_reducible exact Below.refl _ _) | (with_reducible assumption) | (with_reducible apply bl_alloc) | (with_reducible apply bl_drew) | (with_reducible refine bl_set10 ?_ (by omega) _ _ _ _ _ _ _ _ _ _) | ((with_reducible refine bl_set ?_ ?hs _); case hs => (simp; try omega)) | (with_reducible refine bl_step ?_ (by assumption)))); (try (have H1 : Bk u1 w2.heap.size 33 #[.bool false, .int .i64 0, .slice none 0 0, .slice none 0 0, .bool false, .bool false, .slice none 0 0, .bool false, .slice none 0 0, .slice none 0 0] := (by first | exact (Bk.new _ _ _).be hqu1 | exact (Bk.new _ _ _).dr.be hqu1 | exact ((Bk.new _ _ _).al _).be hqu1 | exact ((Bk.new _ _ _).al _).dr.be hqu1 | exact ((Bk.new _ _ _).dr.al _).be hqu1))); (try (have H2 : Bk u1 (w2.heap.size + 1) 33 #[.bool false, .int .i64 0, .slice none 0 0, .slice none 0 0, .bool false, .bool false, .slice none 0 0, .bool false, .slice none 0 0, .slice none 0 0] := (by first | exact (Bk.new' _ _ _ (a_alloc_size _ _)).be hqu1 | exact (Bk.new' _ _ _ (a_alloc_size _ _)).dr.be hqu1))); (try (have nH1 := H1.lt; have mH1 := Nat.ne_of_lt nH1; have mH1' := (Nat.ne_of_lt nH1).symm)); (try (have nH2 := H2.lt; have mH2 := Nat.ne_of_lt nH2; have mH2' := (Nat.ne_of_lt nH2).symm)))
      | (go_at_call 21; refine (copy_O b hb _ (rb.at (by repeat (first | (with_reducible exact Below.refl _ _) | (with_reducible assumption) | (with_reducible apply bl_alloc) | (with_reducible apply bl_drew) | (with_reducible refine bl_set10 ?_ (by omega) _ _ _ _ _ _ _ _ _ _) | ((with_reducible refine bl_set ?_ ?hs _); case hs => (simp; try omega)) | (with_reducible refine bl_step ?_ (by assumption))))) cb b1).mono ?_; rintro e u2 ⟨h10, rfl, hO2, hqu2⟩; have xu2 : Below u1.heap.size u1 u2 := (by repeat (first | (with_reducible exact Below.refl _ _) | (with_reducible apply bl_alloc) | (with_reducible apply bl_drew) | (with_reducible refine bl_set10 ?_ (by omega) _ _ _ _ _ _ _ _ _ _) | ((with_reducible refine bl_set ?_ ?hs _); case hs => (simp; try omega)) | (with_reducible refine bl_step ?_ (by assumption)))); have yu2 : Below w2.heap.size w2 u2 := (by repeat (first | (with_reducible exact Below.refl _ _) | (with_reducible assumption) | (with_reducible apply bl_alloc) | (with_reducible apply bl_drew) | (with_reducible refine bl_set10 ?_ (by omega) _ _ _ _ _ _ _ _ _ _) | ((with_reducible refine bl_set ?_ ?hs _); case hs => (simp; try omega)) | (with_reducible refine bl_step ?_ (by assumption)))); have zu2 := yu2.size; have hO1' := hO1.be xu2; have hO2 := StO.low (w := w2) hO2 (by repeat (first | (with_reducible exact Below.refl _ _) | (with_reducible assumption) | (with_reducible apply bl_alloc) | (with_reducible apply bl_drew) | (with_reducible refine bl_set10 ?_ (by omega) _ _ _ _ _ _ _ _ _ _) | ((with_reducible refine bl_set ?_ ?hs _); case hs => (simp; try omega)) | (with_reducible refine bl_step ?_ (by assumption)))); (try (have J1 := H1.be xu2)); (try (have J2 := H2.be xu2)); (try (have J3 : Bk u2 u1.heap.size 33 #[.bool false, .int .i64 0, .slice none 0 0, .slice none 0 0, .bool false, .bool false, .slice none 0 0, .bool false, .slice none 0 0, .slice none 0 0] := (by first | exact (Bk.new _ _ _).be hqu2 | exact (Bk.new _ _ _).dr.be hqu2 | exact ((Bk.new _ _ _).al _).be hqu2 | exact ((Bk.new _ _ _).al _).dr.be hqu2 | exact ((Bk.new _ _ _).dr.al _).be hqu2))); (try (have J4 : Bk u2 (u1.heap.size + 1) 33 #[.bool false, .int .i64 0, .slice none 0 0, .slice none 0 0, .bool false, .bool false, .slice none 0 0, .bool false, .slice none 0 0, .slice none 0 0] := (by first | exact (Bk.new' _ _ _ (a_alloc_size _ _)).be hqu2 | exact (Bk.new' _ _ _ (a_alloc_size _ _)).dr.be hqu2))); (try (have nJ1 := J1.lt; have mJ1 := Nat.ne_of_lt nJ1; have mJ1' := (Nat.ne_of_lt nJ1).symm; obtain ⟨J10, J11, J12, J13, J14, J15, J16, J17, J18, J19⟩ := Bk.c10 J1; have J1z := J1.fz)); (try (have nJ2 := J2.lt; have mJ2 := Nat.ne_of_lt nJ2; have mJ2' := (Nat.ne_of_lt nJ2).symm; obtain ⟨J20, J21, J22, J23, J24, J25, J26, J27, J28, J29⟩ := Bk.c10 J2; have J2z := J2.fz)); (try (have nJ3 := J3.lt; have mJ3 := Nat.ne_of_lt nJ3; have mJ3' := (Nat.ne_of_lt nJ3).symm; obtain ⟨J30, J31, J32, J33, J34, J35, J36, J37, J38, J39⟩ := Bk.c10 J3; have J3z := J3.fz)); (try (have nJ4 := J4.lt; have mJ4 := Nat.ne_of_lt nJ4; have mJ4' := (Nat.ne_of_lt nJ4).symm; obtain ⟨J40, J41, J42, J43, J44, J45, J46, J47, J48, J49⟩ := Bk.c10 J4; have J4z := J4.fz))))
    all_goals (refine hK' _ _ (Met.intro (hJ _ _ ?_)); (repeat apply Exists.intro); refine ⟨?_, rfl⟩)
    all_goals (refine ⟨_, _, h9, h10, rfl, rfl, ?_, ?_, ?_, ?_, ?_⟩; rotate_right; (repeat (first | (with_reducible exact Below.refl _ _) | (with_reducible assumption) | (with_reducible apply bl_alloc) | (with_reducible apply bl_drew) | (with_reducible refine bl_set10 ?_ (by omega) _ _ _ _ _ _ _ _ _ _) | ((with_reducible refine bl_set ?_ ?hs _); case hs => (simp; try omega)) | (with_reducible refine bl_step ?_ (by assumption)))))
    all_goals (first | ((repeat (first | (with_reducible assumption) | (with_reducible exact Bk.new _ _ _) | (with_reducible exact Bk.new' _ _ _ (a_alloc_size _ _)) | (with_reducible exact Bk.new' _ _ _ (a_set10_size _ _ _ _ _ _ _ _ _ _ _ _)) | (with_reducible apply Bk.dr) | (with_reducible apply bk_st10) | (with_reducible refine bk_ot10 ?_ (by omega) _ _ _ _ _ _ _ _ _ _) | (with_reducible apply Bk.al))); done) | (first | (with_reducible exact StO.al (StO.al hO1' _) _) | (with_reducible exact StO.set10 (StO.al hO1' _) (Bk.al J1 _) _ _ _ _ _ _ _ _ _ _) | (with_reducible exact StO.al (StO.set10 hO1' J1 _ _ _ _ _ _ _ _ _ _) _) | (with_reducible exact StO.set10 (StO.set10 hO1' J1 _ _ _ _ _ _ _ _ _ _) (bk_ot10 J2 (by omega) _ _ _ _ _ _ _ _ _ _) _ _ _ _ _ _ _ _ _ _) | (with_reducible exact StO.set10 (StO.set10 hO1' J1 _ _ _ _ _ _ _ _ _ _) (bk_ot10 J3 (by omega) _ _ _ _ _ _ _ _ _ _) _ _ _ _ _ _ _ _ _ _) | (with_reducible exact StO.set10 (StO.set10 hO1' J1 _ _ _ _ _ _ _ _ _ _) (bk_ot10 J4 (by omega) _ _ _ _ _ _ _ _ _ _) _ _ _ _ _ _ _ _ _ _) | (with_reducible exact StO.set10 (StO.al hO1' _) (Bk.al J2 _) _ _ _ _ _ _ _ _ _ _) | (with_reducible exact StO.al (StO.set10 hO1' J2 _ _ _ _ _ _ _ _ _ _) _) | (with_reducible exact StO.set10 (StO.set10 hO1' J2 _ _ _ _ _ _ _ _ _ _) (bk_ot10 J1 (by omega) _ _ _ _ _ _ _ _ _ _) _ _ _ _ _ _ _ _ _ _) | (with_reducible exact StO.set10 (StO.set10 hO1' J2 _ _ _ _ _ _ _ _ _ _) (bk_ot10 J3 (by omega) _ _ _ _ _ _ _ _ _ _) _ _ _ _ _ _ _ _ _ _) | (with_reducible exact StO.set10 (StO.set10 hO1' J2 _ _ _ _ _ _ _ _ _ _) (bk_ot10 J4 (by omega) _ _ _ _ _ _ _ _ _ _) _ _ _ _ _ _ _ _ _ _) | (with_reducible exact StO.set10 (StO.al hO1' _) (Bk.al J3 _) _ _ _ _ _ _ _ _ _ _) | (with_reducible exact StO.al (StO.set10 hO1' J3 _ _ _ _ _ _ _ _ _ _) _) | (with_reducible exact StO.set10 (StO.set10 hO1' J3 _ _ _ _ _ _ _ _ _ _) (bk_ot10 J1 (by omega) _ _ _ _ _ _ _ _ _ _) _ _ _ _ _ _ _ _ _ _) | (with_reducible exact StO.set10 (StO.set10 hO1' J3 _ _ _ _ _ _ _ _ _ _) (bk_ot10 J2 (by omega) _ _ _ _ _ _ _ _ _ _) _ _ _ _ _ _ _ _ _ _) | (with_reducible exact StO.set10 (StO.set10 hO1' J3 _ _ _ _ _ _ _ _ _ _) (bk_ot10 J4 (by omega) _ _ _ _ _ _ _ _ _ _) _ _ _ _ _ _ _ _ _ _) | (with_reducible exact StO.set10 (StO.al hO1' _) (Bk.al J4 _) _ _ _ _ _ _ _ _ _ _) | (with_reducible exact StO.al (StO.set10 hO1' J4 _ _ _ _ _ _ _ _ _ _) _) | (with_reducible exact StO.set10 (StO.set10 hO1' J4 _ _ _ _ _ _ _ _ _ _) (bk_ot10 J1 (by omega) _ _ _ _ _ _ _ _ _ _) _ _ _ _ _ _ _ _ _ _) | (with_reducible exact StO.set10 (StO.set10 hO1' J4 _ _ _ _ _ _ _ _ _ _) (bk_ot10 J2 (by omega) _ _ _ _ _ _ _ _ _ _) _ _ _ _ _ _ _ _ _ _) | (with_reducible exact StO.set10 (StO.set10 hO1' J4 _ _ _ _ _ _ _ _ _ _) (bk_ot10 J3 (by omega) _ _ _ _ _ _ _ _ _ _) _ _ _ _ _ _ _ _ _ _) | (with_reducible exact StO.al (StO.al hO2 _) _) | (with_reducible exact StO.set10 (StO.al hO2 _) (Bk.al J1 _) _ _ _ _ _ _ _ _ _ _) | (with_reducible exact StO.al (StO.set10 hO2 J1 _ _ _ _ _ _ _ _ _ _) _) | (with_reducible exact StO.set10 (StO.set10 hO2 J1 _ _ _ _ _ _ _ _ _ _) (bk_ot10 J2 (by omega) _ _ _ _ _ _ _ _ _ _) _ _ _ _ _ _ _ _ _ _) | (with_reducible exact StO.set10 (StO.set10 hO2 J1 _ _ _ _ _ _ _ _ _ _) (bk_ot10 J3 (by omega) _ _ _ _ _ _ _ _ _ _) _ _ _ _ _ _ _ _ _ _) | (with_reducible exact StO.set10 (StO.set10 hO2 J1 _ _ _ _ _ _ _ _ _ _) (bk_ot10 J4 (by omega) _ _ _ _ _ _ _ _ _ _) _ _ _ _ _ _ _ _ _ _) | (with_reducible exact StO.set10 (StO.al hO2 _) (Bk.al J2 _) _ _ _ _ _ _ _ _ _ _) | (with_reducible exact StO.al (StO.set10 hO2 J2 _ _ _ _ _ _ _ _ _ _) _) | (with_reducible exact StO.set10 (StO.set10 hO2 J2 _ _ _ _ _ _ _ _ _ _) (bk_ot10 J1 (by omega) _ _ _ _ _ _ _ _ _ _) _ _ _ _ _ _ _ _ _ _) | (with_reducible exact StO.set10 (StO.set10 hO2 J2 _ _ _ _ _ _ _ _ _ _) (bk_ot10 J3 (by omega) _ _ _ _ _ _ _ _ _ _) _ _ _ _ _ _ _ _ _ _) | (with_reducible exact StO.set10 (StO.set10 hO2 J2 _ _ _ _ _ _ _ _ _ _) (bk_ot10 J4 (by omega) _ _ _ _ _ _ _ _ _ _) _ _ _ _ _ _ _ _ _ _) | (with_reducible exact StO.set10 (StO.al hO2 _) (Bk.al J3 _) _ _ _ _ _ _ _ _ _ _) | (with_reducible exact StO.al (StO.set10 hO2 J3 _ _ _ _ _ _ _ _ _ _) _) | (with_reducible exact StO.set10 (StO.set10 hO2 J3 _ _ _ _ _ _ _ _ _ _) (bk_ot10 J1 (by omega) _ _ _ _ _ _ _ _ _ _) _ _ _ _ _ _ _ _ _ _) | (with_reducible exact StO.set10 (StO.set10 hO2 J3 _ _ _ _ _ _ _ _ _ _) (bk_ot10 J2 (by omega) _ _ _ _ _ _ _ _ _ _) _ _ _ _ _ _ _ _ _ _) | (with_reducible exact StO.set10 (StO.set10 hO2 J3 _ _ _ _ _ _ _ _ _ _) (bk_ot10 J4 (by omega) _ _ _ _ _ _ _ _ _ _) _ _ _ _ _ _ _ _ _ _) | (with_reducible exact StO.set10 (StO.al hO2 _) (Bk.al J4 _) _ _ _ _ _ _ _ _ _ _) | (with_reducible exact StO.al (StO.set10 hO2 J4 _ _ _ _ _ _ _ _ _ _) _) | (with_reducible exact StO.set10 (StO.set10 hO2 J4 _ _ _ _ _ _ _ _ _ _) (bk_ot10 J1 (by omega) _ _ _ _ _ _ _ _ _ _) _ _ _ _ _ _ _ _ _ _) | (with_reducible exact StO.set10 (StO.set10 hO2 J4 _ _ _ _ _ _ _ _ _ _) (bk_ot10 J2 (by omega) _ _ _ _ _ _ _ _ _ _) _ _ _ _ _ _ _ _ _ _) | (with_reducible exact StO.set10 (StO.set10 hO2 J4 _ _ _ _ _ _ _ _ _ _) (bk_ot10 J3 (by omega) _ _ _ _ _ _ _ _ _ _) _ _ _ _ _ _ _ _ _ _)))
  case rest =>
  obtain ⟨g9, g10, h9, h10, rfl, rfl, B9, B10, O9, O10, hq⟩ := hcut
  obtain ⟨w3, rfl⟩ : ∃ x : World, x = wc := ⟨_, rfl⟩
  replace Ba := Ba.be hq
  replace Bb := Bb.be hq
  replace Bc := Bc.be hq
  replace ra := ra.at hq
  replace rb := rb.at hq
  replace rl := (rl.be hq).more hq.size
  have hw3 := bl_step hw2 hq
  clear hq hw2
  have r9 := O9.rd
  have r10 := O10.rd
  have c9 := O9.cp
  have c10 := O10.cp
  clear O9 O10
  obtain ⟨F, hF⟩ : ∃ F, opC (findC l c.id) = F := ⟨_, rfl⟩
  obtain ⟨I, hI⟩ : ∃ I, (findC l c.id).isSome = I := ⟨_, rfl⟩
  have hF := Lib.hid hF
  have hI := Lib.hid hI
  have cl := Lib.hid cl
  have l60 := Lib.hid l60
  have a1 := Lib.hid a1
  have b1 := Lib.hid b1
  have nab := Lib.hid nab
  have pab := Lib.hid pab
  have ca := Lib.hid ca
  have cb := Lib.hid cb
  have c9 := Lib.hid c9
  have c10 := Lib.hid c10
  clear h60
  go_upto_region 4 with fail
  go_cut [11, 12] from 15 (fun s11 s12 wx => ∃ g11, s11 = .pointer (some ⟨g11, 0, none⟩) ∧ s12 = .bool I ∧ Bk wx g11 24 #[.int .i64 F.id, .int .i64 F.x, .int .i64 F.y] ∧ Below w3.heap.size w3 wx)
  case first =>
    rename_i J K' hJ hK'
    have hS : ∀ w' : World, Below w3.heap.size w3 w' → (Below w3.heap.size w3 w' ∧ _) := fun w' hq => ⟨hq, c3 (Bc.be hq)⟩
    go_region_held3 (fun w' : World => Below w3.heap.size w3 w' ∧ (w'.cell? ⟨w.heap.size + 1 + 1, 0, none⟩ = some (.int .i64 c.id) ∧ w'.cell? ⟨w.heap.size + 1 + 1, 1, none⟩ = some (.int .i64 c.x) ∧ w'.cell? ⟨w.heap.size + 1 + 1, 2, none⟩ = some (.int .i64 c.y))) (exact hS _ (by repeat (first | (with_reducible exact Below.refl _ _) | (with_reducible assumption) | (with_reducible apply bl_alloc) | (with_reducible apply bl_drew) | (with_reducible refine bl_set10 ?_ (by omega) _ _ _ _ _ _ _ _ _ _) | ((with_reducible refine bl_set ?_ ?hs _); case hs => (simp; try omega)) | (with_reducible refine bl_step ?_ (by assumption))))) (first
      | (refine step_app _ (by rfl) (.const (.slice none 0 0)) (.tmp 34) _ (by rfl) 0 24 i0 _ 3 24 Try.underlying22 hi0 hz0 hz1 hz2 rfl (by omega) (.slice none 0 0) 0 [] (by rfl) (World.ownsRow_nil _ _ _ _) w3.heap.size A l.length lc (l.flatMap chC) (by rfl) (rl.be (by repeat (first | (with_reducible exact Below.refl _ _) | (with_reducible assumption) | (with_reducible apply bl_alloc) | (with_reducible apply bl_drew) | (with_reducible refine bl_set10 ?_ (by omega) _ _ _ _ _ _ _ _ _ _) | ((with_reducible refine bl_set ?_ ?hs _); case hs => (simp; try omega)) | (with_reducible refine bl_step ?_ (by assumption))))) (chC_one l) (by have := l60.out; simp only [maxLen]; omega) (by have := l60.out; omega) (Nat.zero_le _) ?_; intro vv1 v1 ownv1 hgv1 _; rw [Nat.zero_add, List.nil_append] at ownv1; obtain ⟨Av1, cv1, rfl, _⟩ := own_form ownv1; have hqv1 := (Below.refl _ _).grown hgv1 (Nat.le_refl _) (by simp [Value.ownBlock]); have yv1 : Below w3.heap.size w3 v1 := (by repeat (first | (with_reducible exact Below.refl _ _) | (with_reducible assumption) | (with_reducible apply bl_alloc) | (with_reducible apply bl_drew) | (with_reducible refine bl_set10 ?_ (by omega) _ _ _ _ _ _ _ _ _ _) | ((with_reducible refine bl_set ?_ ?hs _); case hs => (simp; try omega)) | (with_reducible refine bl_step ?_ (by assumption)))); have zv1 := yv1.size; (try (have H1 : Bk v1 w3.heap.size 24 #[.int .i64 0, .int .i64 0, .int .i64 0] := (by first | exact (Bk.new _ _ _).be hqv1 | exact (Bk.new _ _ _).dr.be hqv1 | exact ((Bk.new _ _ _).al _).be hqv1 | exact ((Bk.new _ _ _).al _).dr.be hqv1 | exact ((Bk.new _ _ _).dr.al _).be hqv1))); (try (have nH1 := H1.lt; have mH1 := Nat.ne_of_lt nH1; have mH1' := (Nat.ne_of_lt nH1).symm)))
      | (go_at_call 9; refine (find_any Av1 cv1 l c.id _ (by have := l60.out; omega) (((Rds.own ownv1).be (by repeat (first | (with_reducible exact Below.refl _ _) | (with_reducible assumption) | (with_reducible apply bl_alloc) | (with_reducible apply bl_drew) | (with_reducible refine bl_set10 ?_ (by omega) _ _ _ _ _ _ _ _ _ _) | ((with_reducible refine bl_set ?_ ?hs _); case hs => (simp; try omega)) | (with_reducible refine bl_step ?_ (by assumption))))).more (by simp)) ).mono ?_; rintro e v2 ⟨rfl, hqv2⟩; rw [hF.out, hI.out]; have xv2 : Below v1.heap.size v1 v2 := (by repeat (first | (with_reducible exact Below.refl _ _) | (with_reducible apply bl_alloc) | (with_reducible apply bl_drew) | (with_reducible refine bl_set10 ?_ (by omega) _ _ _ _ _ _ _ _ _ _) | ((with_reducible refine bl_set ?_ ?hs _); case hs => (simp; try omega)) | (with_reducible refine bl_step ?_ (by assumption)))); have yv2 : Below w3.heap.size w3 v2 := (by repeat (first | (with_reducible exact Below.refl _ _) | (with_reducible assumption) | (with_reducible apply bl_alloc) | (with_reducible apply bl_drew) | (with_reducible refine bl_set10 ?_ (by omega) _ _ _ _ _ _ _ _ _ _) | ((with_reducible refine bl_set ?_ ?hs _); case hs => (simp; try omega)) | (with_reducible refine bl_step ?_ (by assumption)))); have zv2 := yv2.size; (try (have J1 := H1.be xv2)); (try (have J3 : Bk v2 v1.heap.size 24 #[.int .i64 0, .int .i64 0, .int .i64 0] := (by first | exact (Bk.new _ _ _).be hqv2 | exact (Bk.new _ _ _).dr.be hqv2 | exact ((Bk.new _ _ _).al _).be hqv2 | exact ((Bk.new _ _ _).al _).dr.be hqv2 | exact ((Bk.new _ _ _).dr.al _).be hqv2))); (try (have nJ1 := J1.lt; have mJ1 := Nat.ne_of_lt nJ1; have mJ1' := (Nat.ne_of_lt nJ1).symm; obtain ⟨J10, J11, J12⟩ := c3 J1; have J1z := J1.fz)); (try (have nJ3 := J3.lt; have mJ3 := Nat.ne_of_lt nJ3; have mJ3' := (Nat.ne_of_lt nJ3).symm; obtain ⟨J30, J31, J32⟩ := c3 J3; have J3z := J3.fz))))
    all_goals (refine hK' _ _ (Met.intro (hJ _ _ ?_)); (repeat apply Exists.intro); refine ⟨?_, rfl⟩)
    all_goals (refine ⟨_, rfl, rfl, ?_, ?_⟩; rotate_right; (repeat (first | (with_reducible exact Below.refl _ _) | (with_reducible assumption) | (with_reducible apply bl_alloc) | (with_reducible apply bl_drew) | (with_reducible refine bl_set10 ?_ (by omega) _ _ _ _ _ _ _ _ _ _) | ((with_reducible refine bl_set ?_ ?hs _); case hs => (simp; try omega)) | (with_reducible refine bl_step ?_ (by assumption)))))
    all_goals (repeat (first | (with_reducible assumption) | (with_reducible exact Bk.new _ _ _) | (with_reducible exact Bk.new' _ _ _ (a_alloc_size _ _)) | (with_reducible apply Bk.dr) | (with_reducible apply st3) | (with_reducible apply Bk.al)))
  case rest =>
  obtain ⟨g11, rfl, rfl, B11, hq⟩ := hcut
  obtain ⟨w4, rfl⟩ : ∃ x : World, x = wc := ⟨_, rfl⟩
  replace Ba := Ba.be hq
  replace Bb := Bb.be hq
  replace Bc := Bc.be hq
  replace B9 := B9.be hq
  replace B10 := B10.be hq
  replace ra := ra.at hq
  replace rb := rb.at hq
  replace r9 := r9.at hq
  replace r10 := r10.at hq
  replace rl := (rl.be hq).more hq.size
  have hw4 := bl_step hw3 hq
  clear hq hw3
  go_upto_region 5 with fail
  obtain ⟨k0, k1, k2⟩ := c3 Bc
  go_wp2_with fail
  clear k0 k1 k2
  refine (rfind_any A lc l c.id _ (by have := l60.out; omega) rl).mono ?_
  rintro e w5 ⟨rfl, hq⟩
  rw [hF.out, hI.out]
  replace Ba := Ba.be hq
  replace Bb := Bb.be hq
  replace Bc := Bc.be hq
  replace B9 := B9.be hq
  replace B10 := B10.be hq
  replace B11 := B11.be hq
  replace ra := ra.at hq
  replace rb := rb.at hq
  replace r9 := r9.at hq
  replace r10 := r10.at hq
  replace rl := (rl.be hq).more hq.size
  have hw5 := bl_step hw4 hq
  clear hq hw4
  go_upto_region 6 with fail
  generalize hwv : World.alloc _ _ = w6
  have hw6' : Below w5.heap.size w5 w6 := hwv ▸ bl_alloc (Below.refl _ _) _
  have B13 : Bk w6 w5.heap.size 24 #[.int .i64 F.id, .int .i64 F.x, .int .i64 F.y] := hwv ▸ Bk.new _ _ _
  obtain ⟨g13, hg13⟩ : ∃ g13, w5.heap.size = g13 := ⟨_, rfl⟩
  replace Ba := Ba.be hw6'
  replace Bb := Bb.be hw6'
  replace Bc := Bc.be hw6'
  replace B9 := B9.be hw6'
  replace B10 := B10.be hw6'
  replace B11 := B11.be hw6'
  replace ra := ra.at hw6'
  replace rb := rb.at hw6'
  replace r9 := r9.at hw6'
  replace r10 := r10.at hw6'
  replace rl := (rl.be hw6').more hw6'.size
  have hw6 := bl_step hw5 hw6'
  rw [hg13] at B13 ⊢
  clear hw6' hw5 hwv
  obtain ⟨N, hN⟩ : ∃ N, (!a.att && a.D.length == 0 && a.F.length == 0 && !a.inp && !a.ord && a.P.length == 0) = N := ⟨_, rfl⟩
  have hN := Lib.hid hN
  have hS : ∀ w' : World, Below w6.heap.size w6 w' → (Below w6.heap.size w6 w' ∧ (w'.cell? ⟨w.heap.size, 0, none⟩ = some (.bool a.att) ∧ w'.cell? ⟨w.heap.size, 1, none⟩ = some (.int .i64 a.buf) ∧ w'.cell? ⟨w.heap.size, 2, none⟩ = some (.slice ha.dA a.D.length ha.dc) ∧ w'.cell? ⟨w.heap.size, 3, none⟩ = some (.slice ha.fA a.F.length ha.fc) ∧ w'.cell? ⟨w.heap.size, 4, none⟩ = some (.bool a.inp) ∧ w'.cell? ⟨w.heap.size, 5, none⟩ = some (.bool a.all) ∧ w'.cell? ⟨w.heap.size, 6, none⟩ = some (.slice ha.rA a.R.length ha.rc) ∧ w'.cell? ⟨w.heap.size, 7, none⟩ = some (.bool a.ord) ∧ w'.cell? ⟨w.heap.size, 8, none⟩ = some (.slice ha.oA a.O.length ha.oc) ∧ w'.cell? ⟨w.heap.size, 9, none⟩ = some (.slice ha.pA a.P.length ha.pc)) ∧ (w'.cell? ⟨w.heap.size + 1, 0, none⟩ = some (.bool b.att) ∧ w'.cell? ⟨w.heap.size + 1, 1, none⟩ = some (.int .i64 b.buf) ∧ w'.cell? ⟨w.heap.size + 1, 2, none⟩ = some (.slice hb.dA b.D.length hb.dc) ∧ w'.cell? ⟨w.heap.size + 1, 3, none⟩ = some (.slice hb.fA b.F.length hb.fc) ∧ w'.cell? ⟨w.heap.size + 1, 4, none⟩ = some (.bool b.inp) ∧ w'.cell? ⟨w.heap.size + 1, 5, none⟩ = some (.bool b.all) ∧ w'.cell? ⟨w.heap.size + 1, 6, none⟩ = some (.slice hb.rA b.R.length hb.rc) ∧ w'.cell? ⟨w.heap.size + 1, 7, none⟩ = some (.bool b.ord) ∧ w'.cell? ⟨w.heap.size + 1, 8, none⟩ = some (.slice hb.oA b.O.length hb.oc) ∧ w'.cell? ⟨w.heap.size + 1, 9, none⟩ = some (.slice hb.pA b.P.length hb.pc)) ∧ (w'.cell? ⟨g9, 0, none⟩ = some (.bool a.att) ∧ w'.cell? ⟨g9, 1, none⟩ = some (.int .i64 a.buf) ∧ w'.cell? ⟨g9, 2, none⟩ = some (.slice h9.dA a.D.length h9.dc) ∧ w'.cell? ⟨g9, 3, none⟩ = some (.slice h9.fA a.F.length h9.fc) ∧ w'.cell? ⟨g9, 4, none⟩ = some (.bool a.inp) ∧ w'.cell? ⟨g9, 5, none⟩ = some (.bool a.all) ∧ w'.cell? ⟨g9, 6, none⟩ = some (.slice h9.rA a.R.length h9.rc) ∧ w'.cell? ⟨g9, 7, none⟩ = some (.bool a.ord) ∧ w'.cell? ⟨g9, 8, none⟩ = some (.slice h9.oA a.O.length h9.oc) ∧ w'.cell? ⟨g9, 9, none⟩ = some (.slice h9.pA a.P.length h9.pc)) ∧ (w'.cell? ⟨g10, 0, none⟩ = some (.bool b.att) ∧ w'.cell? ⟨g10, 1, none⟩ = some (.int .i64 b.buf) ∧ w'.cell? ⟨g10, 2, none⟩ = some (.slice h10.dA b.D.length h10.dc) ∧ w'.cell? ⟨g10, 3, none⟩ = some (.slice h10.fA b.F.length h10.fc) ∧ w'.cell? ⟨g10, 4, none⟩ = some (.bool b.inp) ∧ w'.cell? ⟨g10, 5, none⟩ = some (.bool b.all) ∧ w'.cell? ⟨g10, 6, none⟩ = some (.slice h10.rA b.R.length h10.rc) ∧ w'.cell? ⟨g10, 7, none⟩ = some (.bool b.ord) ∧ w'.cell? ⟨g10, 8, none⟩ = some (.slice h10.oA b.O.length h10.oc) ∧ w'.cell? ⟨g10, 9, none⟩ = some (.slice h10.pA b.P.length h10.pc)) ∧ (w'.cell? ⟨w.heap.size + 1 + 1, 0, none⟩ = some (.int .i64 c.id) ∧ w'.cell? ⟨w.heap.size + 1 + 1, 1, none⟩ = some (.int .i64 c.x) ∧ w'.cell? ⟨w.heap.size + 1 + 1, 2, none⟩ = some (.int .i64 c.y)) ∧ (w'.cell? ⟨g11, 0, none⟩ = some (.int .i64 F.id) ∧ w'.cell? ⟨g11, 1, none⟩ = some (.int .i64 F.x) ∧ w'.cell? ⟨g11, 2, none⟩ = some (.int .i64 F.y)) ∧ (w'.cell? ⟨g13, 0, none⟩ = some (.int .i64 F.id) ∧ w'.cell? ⟨g13, 1, none⟩ = some (.int .i64 F.x) ∧ w'.cell? ⟨g13, 2, none⟩ = some (.int .i64 F.y))) := fun w' hq => ⟨hq, Bk.c10 (Ba.be hq), Bk.c10 (Bb.be hq), Bk.c10 (B9.be hq), Bk.c10 (B10.be hq), c3 (Bc.be hq), c3 (B11.be hq), c3 (B13.be hq)⟩
  refine wp_region_held_drew (S := fun w' : World => Below w6.heap.size w6 w' ∧ (w'.cell? ⟨w.heap.size, 0, none⟩ = some (.bool a.att) ∧ w'.cell? ⟨w.heap.size, 1, none⟩ = some (.int .i64 a.buf) ∧ w'.cell? ⟨w.heap.size, 2, none⟩ = some (.slice ha.dA a.D.length ha.dc) ∧ w'.cell? ⟨w.heap.size, 3, none⟩ = some (.slice ha.fA a.F.length ha.fc) ∧ w'.cell? ⟨w.heap.size, 4, none⟩ = some (.bool a.inp) ∧ w'.cell? ⟨w.heap.size, 5, none⟩ = some (.bool a.all) ∧ w'.cell? ⟨w.heap.size, 6, none⟩ = some (.slice ha.rA a.R.length ha.rc) ∧ w'.cell? ⟨w.heap.size, 7, none⟩ = some (.bool a.ord) ∧ w'.cell? ⟨w.heap.size, 8, none⟩ = some (.slice ha.oA a.O.length ha.oc) ∧ w'.cell? ⟨w.heap.size, 9, none⟩ = some (.slice ha.pA a.P.length ha.pc)) ∧ (w'.cell? ⟨w.heap.size + 1, 0, none⟩ = some (.bool b.att) ∧ w'.cell? ⟨w.heap.size + 1, 1, none⟩ = some (.int .i64 b.buf) ∧ w'.cell? ⟨w.heap.size + 1, 2, none⟩ = some (.slice hb.dA b.D.length hb.dc) ∧ w'.cell? ⟨w.heap.size + 1, 3, none⟩ = some (.slice hb.fA b.F.length hb.fc) ∧ w'.cell? ⟨w.heap.size + 1, 4, none⟩ = some (.bool b.inp) ∧ w'.cell? ⟨w.heap.size + 1, 5, none⟩ = some (.bool b.all) ∧ w'.cell? ⟨w.heap.size + 1, 6, none⟩ = some (.slice hb.rA b.R.length hb.rc) ∧ w'.cell? ⟨w.heap.size + 1, 7, none⟩ = some (.bool b.ord) ∧ w'.cell? ⟨w.heap.size + 1, 8, none⟩ = some (.slice hb.oA b.O.length hb.oc) ∧ w'.cell? ⟨w.heap.size + 1, 9, none⟩ = some (.slice hb.pA b.P.length hb.pc)) ∧ (w'.cell? ⟨g9, 0, none⟩ = some (.bool a.att) ∧ w'.cell? ⟨g9, 1, none⟩ = some (.int .i64 a.buf) ∧ w'.cell? ⟨g9, 2, none⟩ = some (.slice h9.dA a.D.length h9.dc) ∧ w'.cell? ⟨g9, 3, none⟩ = some (.slice h9.fA a.F.length h9.fc) ∧ w'.cell? ⟨g9, 4, none⟩ = some (.bool a.inp) ∧ w'.cell? ⟨g9, 5, none⟩ = some (.bool a.all) ∧ w'.cell? ⟨g9, 6, none⟩ = some (.slice h9.rA a.R.length h9.rc) ∧ w'.cell? ⟨g9, 7, none⟩ = some (.bool a.ord) ∧ w'.cell? ⟨g9, 8, none⟩ = some (.slice h9.oA a.O.length h9.oc) ∧ w'.cell? ⟨g9, 9, none⟩ = some (.slice h9.pA a.P.length h9.pc)) ∧ (w'.cell? ⟨g10, 0, none⟩ = some (.bool b.att) ∧ w'.cell? ⟨g10, 1, none⟩ = some (.int .i64 b.buf) ∧ w'.cell? ⟨g10, 2, none⟩ = some (.slice h10.dA b.D.length h10.dc) ∧ w'.cell? ⟨g10, 3, none⟩ = some (.slice h10.fA b.F.length h10.fc) ∧ w'.cell? ⟨g10, 4, none⟩ = some (.bool b.inp) ∧ w'.cell? ⟨g10, 5, none⟩ = some (.bool b.all) ∧ w'.cell? ⟨g10, 6, none⟩ = some (.slice h10.rA b.R.length h10.rc) ∧ w'.cell? ⟨g10, 7, none⟩ = some (.bool b.ord) ∧ w'.cell? ⟨g10, 8, none⟩ = some (.slice h10.oA b.O.length h10.oc) ∧ w'.cell? ⟨g10, 9, none⟩ = some (.slice h10.pA b.P.length h10.pc)) ∧ (w'.cell? ⟨w.heap.size + 1 + 1, 0, none⟩ = some (.int .i64 c.id) ∧ w'.cell? ⟨w.heap.size + 1 + 1, 1, none⟩ = some (.int .i64 c.x) ∧ w'.cell? ⟨w.heap.size + 1 + 1, 2, none⟩ = some (.int .i64 c.y)) ∧ (w'.cell? ⟨g11, 0, none⟩ = some (.int .i64 F.id) ∧ w'.cell? ⟨g11, 1, none⟩ = some (.int .i64 F.x) ∧ w'.cell? ⟨g11, 2, none⟩ = some (.int .i64 F.y)) ∧ (w'.cell? ⟨g13, 0, none⟩ = some (.int .i64 F.id) ∧ w'.cell? ⟨g13, 1, none⟩ = some (.int .i64 F.x) ∧ w'.cell? ⟨g13, 2, none⟩ = some (.int .i64 F.y))) (by kernel_rfl) (by (try dsimp only); exact hS _ (by repeat (first | (with_reducible exact Below.refl _ _) | (with_reducible assumption) | (with_reducible apply bl_alloc) | (with_reducible apply bl_drew) | (with_reducible refine bl_set10 ?_ (by omega) _ _ _ _ _ _ _ _ _ _) | ((with_reducible refine bl_set ?_ ?hs _); case hs => (simp; try omega)) | (with_reducible refine bl_step ?_ (by assumption))))) (fun hHeld => ?_)
  refine wpAnyH_take (i := 0) (v := ?_) rfl (by kernel_rfl) (by kernel_rfl) (by kernel_rfl) (fun _ _ _ h => h) (Or.inl ⟨by rfl, ?_⟩) (by assumption) ?_
  rotate_left
  · (intro w hSw; (try dsimp only at hSw); go_simp; try (with_reducible rfl))
  (try simp only [Act.put, List.setIfInBounds_toArray, List.set_cons_zero, List.set_cons_succ])
  refine wpAnyH_take (i := 1) (v := ?_) rfl (by kernel_rfl) (by kernel_rfl) (by kernel_rfl) (fun _ _ _ h => h) (Or.inl ⟨by rfl, ?_⟩) (by assumption) ?_
  rotate_left
  · (intro w hSw; (try dsimp only at hSw); go_simp; try (with_reducible rfl))
  (try simp only [Act.put, List.setIfInBounds_toArray, List.set_cons_zero, List.set_cons_succ])
  refine wpAnyH_take (i := 3) (v := ?_) rfl (by kernel_rfl) (by kernel_rfl) (by kernel_rfl) (fun _ _ _ h => h) (Or.inl ⟨by rfl, ?_⟩) (by assumption) ?_
  rotate_left
  · (intro w hSw; (try dsimp only at hSw); go_simp; try (with_reducible rfl))
  (try simp only [Act.put, List.setIfInBounds_toArray, List.set_cons_zero, List.set_cons_succ])
  refine wpAnyH_take (i := 4) (v := ?_) rfl (by kernel_rfl) (by kernel_rfl) (by kernel_rfl) (fun _ _ _ h => h) (Or.inl ⟨by rfl, ?_⟩) (by assumption) ?_
  rotate_left
  · (intro w hSw; (try dsimp only at hSw); go_simp; try (with_reducible rfl))
  (try simp only [Act.put, List.setIfInBounds_toArray, List.set_cons_zero, List.set_cons_succ])
  refine wpAnyH_ready (rs := [2]) (by kernel_rfl) (by simp) ?_
  refine AllReadyH.cons (i := 2) rfl (fun K hK => ?_) AllReadyH.nil
  go_simp
  (go_at_call 13; refine (merge_O2 a b h9 h10 _ (r9.at (by repeat (first | (with_reducible exact Below.refl _ _) | (with_reducible assumption) | (with_reducible apply bl_alloc) | (with_reducible apply bl_drew) | (with_reducible refine bl_set10 ?_ (by omega) _ _ _ _ _ _ _ _ _ _) | ((with_reducible refine bl_set ?_ ?hs _); case hs => (simp; try omega)) | (with_reducible refine bl_step ?_ (by assumption))))) (r10.at (by repeat (first | (with_reducible exact Below.refl _ _) | (with_reducible assumption) | (with_reducible apply bl_alloc) | (with_reducible apply bl_drew) | (with_reducible refine bl_set10 ?_ (by omega) _ _ _ _ _ _ _ _ _ _) | ((with_reducible refine bl_set ?_ ?hs _); case hs => (simp; try omega)) | (with_reducible refine bl_step ?_ (by assumption))))) a1.out b1.out).mono ?_; rintro e v1 ⟨m1, rfl, O1, hqv1⟩; have yv1 : Below w6.heap.size w6 v1 := (by repeat (first | (with_reducible exact Below.refl _ _) | (with_reducible assumption) | (with_reducible apply bl_alloc) | (with_reducible apply bl_drew) | (with_reducible refine bl_set10 ?_ (by omega) _ _ _ _ _ _ _ _ _ _) | ((with_reducible refine bl_set ?_ ?hs _); case hs => (simp; try omega)) | (with_reducible refine bl_step ?_ (by assumption)))); have rO1 := O1.rd; have cO1 := Lib.hid O1.cp; clear O1)
  try (go_wp2_with fail)
  refine hK.out _ _ (by (try dsimp only); exact hS _ (by repeat (first | (with_reducible exact Below.refl _ _) | (with_reducible assumption) | (with_reducible apply bl_alloc) | (with_reducible apply bl_drew) | (with_reducible refine bl_set10 ?_ (by omega) _ _ _ _ _ _ _ _ _ _) | ((with_reducible refine bl_set ?_ ?hs _); case hs => (simp; try omega)) | (with_reducible refine bl_step ?_ (by assumption))))) (fun hHeld2 => ?_)
  clear hHeld
  rename _ => hHeld
  clear hK K
  (try simp only [Act.put, List.setIfInBounds_toArray, List.set_cons_zero, List.set_cons_succ])
  refine wpAnyH_ready (rs := [5]) (by kernel_rfl) (by simp) ?_
  refine AllReadyH.cons (i := 5) rfl (fun K hK => ?_) AllReadyH.nil
  go_simp
  (go_at_call 17; refine (rmerge_any a b ha hb _ (ra.at (by repeat (first | (with_reducible exact Below.refl _ _) | (with_reducible assumption) | (with_reducible apply bl_alloc) | (with_reducible apply bl_drew) | (with_reducible refine bl_set10 ?_ (by omega) _ _ _ _ _ _ _ _ _ _) | ((with_reducible refine bl_set ?_ ?hs _); case hs => (simp; try omega)) | (with_reducible refine bl_step ?_ (by assumption))))) (rb.at (by repeat (first | (with_reducible exact Below.refl _ _) | (with_reducible assumption) | (with_reducible apply bl_alloc) | (with_reducible apply bl_drew) | (with_reducible refine bl_set10 ?_ (by omega) _ _ _ _ _ _ _ _ _ _) | ((with_reducible refine bl_set ?_ ?hs _); case hs => (simp; try omega)) | (with_reducible refine bl_step ?_ (by assumption))))) a1.out b1.out).mono ?_; rintro e v2 ⟨m2, rfl, O2, hqv2⟩; have yv2 : Below w6.heap.size w6 v2 := (by repeat (first | (with_reducible exact Below.refl _ _) | (with_reducible assumption) | (with_reducible apply bl_alloc) | (with_reducible apply bl_drew) | (with_reducible refine bl_set10 ?_ (by omega) _ _ _ _ _ _ _ _ _ _) | ((with_reducible refine bl_set ?_ ?hs _); case hs => (simp; try omega)) | (with_reducible refine bl_step ?_ (by assumption)))); have rO2 := O2.rd; have cO2 := Lib.hid O2.cp; clear O2)
  replace rO1 := rO1.at hqv2
  try (go_wp2_with fail)
  refine hK.out _ _ (by (try dsimp only); exact hS _ (by repeat (first | (with_reducible exact Below.refl _ _) | (with_reducible assumption) | (with_reducible apply bl_alloc) | (with_reducible apply bl_drew) | (with_reducible refine bl_set10 ?_ (by omega) _ _ _ _ _ _ _ _ _ _) | ((with_reducible refine bl_set ?_ ?hs _); case hs => (simp; try omega)) | (with_reducible refine bl_step ?_ (by assumption))))) (fun hHeld2 => ?_)
  clear hHeld
  rename _ => hHeld
  clear hK K
  (try simp only [Act.put, List.setIfInBounds_toArray, List.set_cons_zero, List.set_cons_succ])
  refine wpAnyH_ready (rs := [6]) (by kernel_rfl) (by simp) ?_
  refine AllReadyH.cons (i := 6) rfl (fun K hK => ?_) AllReadyH.nil
  go_simp
  (go_at_call 23; refine (rsame_any (mergeS a b) (mergeS a b) m1 m2 _ (rO1.at (by repeat (first | (with_reducible exact Below.refl _ _) | (with_reducible assumption) | (with_reducible apply bl_alloc) | (with_reducible apply bl_drew) | (with_reducible refine bl_set10 ?_ (by omega) _ _ _ _ _ _ _ _ _ _) | ((with_reducible refine bl_set ?_ ?hs _); case hs => (simp; try omega)) | (with_reducible refine bl_step ?_ (by assumption))))) (rO2.at (by repeat (first | (with_reducible exact Below.refl _ _) | (with_reducible assumption) | (with_reducible apply bl_alloc) | (with_reducible apply bl_drew) | (with_reducible refine bl_set10 ?_ (by omega) _ _ _ _ _ _ _ _ _ _) | ((with_reducible refine bl_set ?_ ?hs _); case hs => (simp; try omega)) | (with_reducible refine bl_step ?_ (by assumption))))) cO1.out cO2.out nab.out nab.out).mono ?_; rintro e v3 ⟨⟨q1, rfl, hq1'⟩, hqv3⟩; have yv3 : Below w6.heap.size w6 v3 := (by repeat (first | (with_reducible exact Below.refl _ _) | (with_reducible assumption) | (with_reducible apply bl_alloc) | (with_reducible apply bl_drew) | (with_reducible refine bl_set10 ?_ (by omega) _ _ _ _ _ _ _ _ _ _) | ((with_reducible refine bl_set ?_ ?hs _); case hs => (simp; try omega)) | (with_reducible refine bl_step ?_ (by assumption)))); obtain rfl : q1 = true := hq1'.2 rfl)
  try (go_wp2_with fail)
  refine hK.out _ _ (by (try dsimp only); exact hS _ (by repeat (first | (with_reducible exact Below.refl _ _) | (with_reducible assumption) | (with_reducible apply bl_alloc) | (with_reducible apply bl_drew) | (with_reducible refine bl_set10 ?_ (by omega) _ _ _ _ _ _ _ _ _ _) | ((with_reducible refine bl_set ?_ ?hs _); case hs => (simp; try omega)) | (with_reducible refine bl_step ?_ (by assumption))))) (fun hHeld2 => ?_)
  clear hHeld
  rename _ => hHeld
  clear hK K
  (try simp only [Act.put, List.setIfInBounds_toArray, List.set_cons_zero, List.set_cons_succ])
  refine wpAnyH_take (i := 7) (v := ?_) rfl (by kernel_rfl) (by kernel_rfl) (by kernel_rfl) (fun _ _ _ h => h) (Or.inl ⟨by rfl, ?_⟩) (by assumption) ?_
  rotate_left
  · (intro w hSw; (try dsimp only at hSw); go_simp; try (with_reducible rfl))
  (try simp only [Act.put, List.setIfInBounds_toArray, List.set_cons_zero, List.set_cons_succ])
  refine wpAnyH_take (i := 8) (v := ?_) rfl (by kernel_rfl) (by kernel_rfl) (by kernel_rfl) (fun _ _ _ h => h) (Or.inl ⟨by kernel_rfl, ?_⟩) (by assumption) ?_
  rotate_left
  · (intro w hSw; (try dsimp only at hSw); go_simp; try (with_reducible rfl))
  (try simp only [Act.put, List.setIfInBounds_toArray, List.set_cons_zero, List.set_cons_succ])
  refine wpAnyH_take (i := 9) (v := ?_) rfl (by kernel_rfl) (by kernel_rfl) (by kernel_rfl) (fun _ _ _ h => h) (Or.inl ⟨by kernel_rfl, ?_⟩) (by assumption) ?_
  rotate_left
  · (intro w hSw; (try dsimp only at hSw); go_simp; try (with_reducible rfl))
  (try simp only [Act.put, List.setIfInBounds_toArray, List.set_cons_zero, List.set_cons_succ])
  refine wpAnyH_take (i := 11) (v := ?_) rfl (by kernel_rfl) (by kernel_rfl) (by kernel_rfl) (fun _ _ _ h => h) (Or.inl ⟨by kernel_rfl, ?_⟩) (by assumption) ?_
  rotate_left
  · (intro w hSw; (try dsimp only at hSw); go_simp; try (with_reducible rfl))
  (try simp only [Act.put, List.setIfInBounds_toArray, List.set_cons_zero, List.set_cons_succ])
  refine wpAnyH_take (i := 12) (v := ?_) rfl (by kernel_rfl) (by kernel_rfl) (by kernel_rfl) (fun _ _ _ h => h) (Or.inl ⟨by kernel_rfl, ?_⟩) (by assumption) ?_
  rotate_left
  · (intro w hSw; (try dsimp only at hSw); go_simp; try (with_reducible rfl))
  (try simp only [Act.put, List.setIfInBounds_toArray, List.set_cons_zero, List.set_cons_succ])
  refine wpAnyH_ready (rs := [10]) (by kernel_rfl) (by simp) ?_
  refine AllReadyH.cons (i := 10) rfl (fun K hK => ?_) AllReadyH.nil
  rw [if_pos (by kernel_rfl)]
  go_simp
  (go_at_call 12; refine (apply_O a b h9 h10 _ (r9.at (by repeat (first | (with_reducible exact Below.refl _ _) | (with_reducible assumption) | (with_reducible apply bl_alloc) | (with_reducible apply bl_drew) | (with_reducible refine bl_set10 ?_ (by omega) _ _ _ _ _ _ _ _ _ _) | ((with_reducible refine bl_set ?_ ?hs _); case hs => (simp; try omega)) | (with_reducible refine bl_step ?_ (by assumption))))) (r10.at (by repeat (first | (with_reducible exact Below.refl _ _) | (with_reducible assumption) | (with_reducible apply bl_alloc) | (with_reducible apply bl_drew) | (with_reducible refine bl_set10 ?_ (by omega) _ _ _ _ _ _ _ _ _ _) | ((with_reducible refine bl_set ?_ ?hs _); case hs => (simp; try omega)) | (with_reducible refine bl_step ?_ (by assumption))))) a1.out b1.out).mono ?_; rintro e v4 ⟨m3, rfl, O3, hqv4⟩; have yv4 : Below w6.heap.size w6 v4 := (by repeat (first | (with_reducible exact Below.refl _ _) | (with_reducible assumption) | (with_reducible apply bl_alloc) | (with_reducible apply bl_drew) | (with_reducible refine bl_set10 ?_ (by omega) _ _ _ _ _ _ _ _ _ _) | ((with_reducible refine bl_set ?_ ?hs _); case hs => (simp; try omega)) | (with_reducible refine bl_step ?_ (by assumption)))); have rO3 := O3.rd; have cO3 := Lib.hid O3.cp; clear O3)
  try (go_wp2_with fail)
  refine hK.out _ _ (by (try dsimp only); exact hS _ (by repeat (first | (with_reducible exact Below.refl _ _) | (with_reducible assumption) | (with_reducible apply bl_alloc) | (with_reducible apply bl_drew) | (with_reducible refine bl_set10 ?_ (by omega) _ _ _ _ _ _ _ _ _ _) | ((with_reducible refine bl_set ?_ ?hs _); case hs => (simp; try omega)) | (with_reducible refine bl_step ?_ (by assumption))))) (fun hHeld2 => ?_)
  clear hHeld
  rename _ => hHeld
  clear hK K
  (try simp only [Act.put, List.setIfInBounds_toArray, List.set_cons_zero, List.set_cons_succ])
  refine wpAnyH_ready (rs := [13]) (by kernel_rfl) (by simp) ?_
  refine AllReadyH.cons (i := 13) rfl (fun K hK => ?_) AllReadyH.nil
  rw [if_pos (by kernel_rfl)]
  go_simp
  (go_at_call 16; refine (rapply_O a b ha hb _ (ra.at (by repeat (first | (with_reducible exact Below.refl _ _) | (with_reducible assumption) | (with_reducible apply bl_alloc) | (with_reducible apply bl_drew) | (with_reducible refine bl_set10 ?_ (by omega) _ _ _ _ _ _ _ _ _ _) | ((with_reducible refine bl_set ?_ ?hs _); case hs => (simp; try omega)) | (with_reducible refine bl_step ?_ (by assumption))))) (rb.at (by repeat (first | (with_reducible exact Below.refl _ _) | (with_reducible assumption) | (with_reducible apply bl_alloc) | (with_reducible apply bl_drew) | (with_reducible refine bl_set10 ?_ (by omega) _ _ _ _ _ _ _ _ _ _) | ((with_reducible refine bl_set ?_ ?hs _); case hs => (simp; try omega)) | (with_reducible refine bl_step ?_ (by assumption))))) a1.out b1.out).mono ?_; rintro e v5 ⟨m4, rfl, O4, hqv5⟩; have yv5 : Below w6.heap.size w6 v5 := (by repeat (first | (with_reducible exact Below.refl _ _) | (with_reducible assumption) | (with_reducible apply bl_alloc) | (with_reducible apply bl_drew) | (with_reducible refine bl_set10 ?_ (by omega) _ _ _ _ _ _ _ _ _ _) | ((with_reducible refine bl_set ?_ ?hs _); case hs => (simp; try omega)) | (with_reducible refine bl_step ?_ (by assumption)))); have rO4 := O4.rd; have cO4 := Lib.hid O4.cp; clear O4)
  replace rO3 := rO3.at hqv5
  try (go_wp2_with fail)
  refine hK.out _ _ (by (try dsimp only); exact hS _ (by repeat (first | (with_reducible exact Below.refl _ _) | (with_reducible assumption) | (with_reducible apply bl_alloc) | (with_reducible apply bl_drew) | (with_reducible refine bl_set10 ?_ (by omega) _ _ _ _ _ _ _ _ _ _) | ((with_reducible refine bl_set ?_ ?hs _); case hs => (simp; try omega)) | (with_reducible refine bl_step ?_ (by assumption))))) (fun hHeld2 => ?_)
  clear hHeld
  rename _ => hHeld
  clear hK K
  (try simp only [Act.put, List.setIfInBounds_toArray, List.set_cons_zero, List.set_cons_succ])
  refine wpAnyH_ready (rs := [14]) (by kernel_rfl) (by simp) ?_
  refine AllReadyH.cons (i := 14) rfl (fun K hK => ?_) AllReadyH.nil
  rw [if_pos (by kernel_rfl)]
  go_simp
  (go_at_call 23; refine (rsame_any (applyS a b) (applyS a b) m3 m4 _ (rO3.at (by repeat (first | (with_reducible exact Below.refl _ _) | (with_reducible assumption) | (with_reducible apply bl_alloc) | (with_reducible apply bl_drew) | (with_reducible refine bl_set10 ?_ (by omega) _ _ _ _ _ _ _ _ _ _) | ((with_reducible refine bl_set ?_ ?hs _); case hs => (simp; try omega)) | (with_reducible refine bl_step ?_ (by assumption))))) (rO4.at (by repeat (first | (with_reducible exact Below.refl _ _) | (with_reducible assumption) | (with_reducible apply bl_alloc) | (with_reducible apply bl_drew) | (with_reducible refine bl_set10 ?_ (by omega) _ _ _ _ _ _ _ _ _ _) | ((with_reducible refine bl_set ?_ ?hs _); case hs => (simp; try omega)) | (with_reducible refine bl_step ?_ (by assumption))))) cO3.out cO4.out pab.out pab.out).mono ?_; rintro e v6 ⟨⟨q2, rfl, hq2'⟩, hqv6⟩; have yv6 : Below w6.heap.size w6 v6 := (by repeat (first | (with_reducible exact Below.refl _ _) | (with_reducible assumption) | (with_reducible apply bl_alloc) | (with_reducible apply bl_drew) | (with_reducible refine bl_set10 ?_ (by omega) _ _ _ _ _ _ _ _ _ _) | ((with_reducible refine bl_set ?_ ?hs _); case hs => (simp; try omega)) | (with_reducible refine bl_step ?_ (by assumption)))); obtain rfl : q2 = true := hq2'.2 rfl)
  try (go_wp2_with fail)
  refine hK.out _ _ (by (try dsimp only); exact hS _ (by repeat (first | (with_reducible exact Below.refl _ _) | (with_reducible assumption) | (with_reducible apply bl_alloc) | (with_reducible apply bl_drew) | (with_reducible refine bl_set10 ?_ (by omega) _ _ _ _ _ _ _ _ _ _) | ((with_reducible refine bl_set ?_ ?hs _); case hs => (simp; try omega)) | (with_reducible refine bl_step ?_ (by assumption))))) (fun hHeld2 => ?_)
  clear hHeld
  rename _ => hHeld
  clear hK K
  (try simp only [Act.put, List.setIfInBounds_toArray, List.set_cons_zero, List.set_cons_succ])
  refine wpAnyH_take (i := 15) (v := ?_) rfl (by kernel_rfl) (by kernel_rfl) (by kernel_rfl) (fun _ _ _ h => h) (Or.inl ⟨by rfl, ?_⟩) (by assumption) ?_
  rotate_left
  · (intro w hSw; (try dsimp only at hSw); go_simp; try (with_reducible rfl))
  (try simp only [Act.put, List.setIfInBounds_toArray, List.set_cons_zero, List.set_cons_succ])
  refine wpAnyH_take (i := 16) (v := ?_) rfl (by kernel_rfl) (by kernel_rfl) (by kernel_rfl) (fun _ _ _ h => h) (Or.inl ⟨by rfl, ?_⟩) (by assumption) ?_
  rotate_left
  · (intro w hSw; (try dsimp only at hSw); go_simp; try (with_reducible rfl))
  (try simp only [Act.put, List.setIfInBounds_toArray, List.set_cons_zero, List.set_cons_succ])
  refine wpAnyH_take (i := 17) (v := ?_) rfl (by kernel_rfl) (by kernel_rfl) (by kernel_rfl) (fun _ _ _ h => h) (Or.inl ⟨by kernel_rfl, ?_⟩) (by assumption) ?_
  rotate_left
  · (intro w hSw; (try dsimp only at hSw); go_simp; try (with_reducible rfl))
  (try simp only [Act.put, List.setIfInBounds_toArray, List.set_cons_zero, List.set_cons_succ])
  refine wpAnyH_take (i := 19) (v := ?_) rfl (by kernel_rfl) (by kernel_rfl) (by kernel_rfl) (fun _ _ _ h => h) (Or.inl ⟨by kernel_rfl, ?_⟩) (by assumption) ?_
  rotate_left
  · (intro w hSw; (try dsimp only at hSw); go_simp; try (with_reducible rfl))
  (try simp only [Act.put, List.setIfInBounds_toArray, List.set_cons_zero, List.set_cons_succ])
  refine wpAnyH_ready (rs := [18]) (by kernel_rfl) (by simp) ?_
  refine AllReadyH.cons (i := 18) rfl (fun K hK => ?_) AllReadyH.nil
  rw [if_pos (by kernel_rfl)]
  go_simp
  (go_at_call 19; refine (none_any ⟨a.att, a.buf, h9.dA, a.D.length, h9.dc, h9.fA, a.F.length, h9.fc, a.inp, a.all, h9.rA, a.R.length, h9.rc, a.ord, h9.oA, a.O.length, h9.oc, h9.pA, a.P.length, h9.pc⟩ _).mono ?_; rintro e v7 ⟨rfl, hqv7⟩; have yv7 : Below w6.heap.size w6 v7 := (by repeat (first | (with_reducible exact Below.refl _ _) | (with_reducible assumption) | (with_reducible apply bl_alloc) | (with_reducible apply bl_drew) | (with_reducible refine bl_set10 ?_ (by omega) _ _ _ _ _ _ _ _ _ _) | ((with_reducible refine bl_set ?_ ?hs _); case hs => (simp; try omega)) | (with_reducible refine bl_step ?_ (by assumption)))); (try dsimp only); rw [hN.out])
  try (go_wp2_with fail)
  refine hK.out _ _ (by (try dsimp only); exact hS _ (by repeat (first | (with_reducible exact Below.refl _ _) | (with_reducible assumption) | (with_reducible apply bl_alloc) | (with_reducible apply bl_drew) | (with_reducible refine bl_set10 ?_ (by omega) _ _ _ _ _ _ _ _ _ _) | ((with_reducible refine bl_set ?_ ?hs _); case hs => (simp; try omega)) | (with_reducible refine bl_step ?_ (by assumption))))) (fun hHeld2 => ?_)
  clear hHeld
  rename _ => hHeld
  clear hK K
  (try simp only [Act.put, List.setIfInBounds_toArray, List.set_cons_zero, List.set_cons_succ])
  refine wpAnyH_ready (rs := [20]) (by kernel_rfl) (by simp) ?_
  refine AllReadyH.cons (i := 20) rfl (fun K hK => ?_) AllReadyH.nil
  rw [if_pos (by kernel_rfl)]
  go_simp
  (go_at_call 24; refine (rnone_any ⟨a.att, a.buf, ha.dA, a.D.length, ha.dc, ha.fA, a.F.length, ha.fc, a.inp, a.all, ha.rA, a.R.length, ha.rc, a.ord, ha.oA, a.O.length, ha.oc, ha.pA, a.P.length, ha.pc⟩ _).mono ?_; rintro e v8 ⟨rfl, hqv8⟩; have yv8 : Below w6.heap.size w6 v8 := (by repeat (first | (with_reducible exact Below.refl _ _) | (with_reducible assumption) | (with_reducible apply bl_alloc) | (with_reducible apply bl_drew) | (with_reducible refine bl_set10 ?_ (by omega) _ _ _ _ _ _ _ _ _ _) | ((with_reducible refine bl_set ?_ ?hs _); case hs => (simp; try omega)) | (with_reducible refine bl_step ?_ (by assumption)))); (try dsimp only); rw [hN.out])
  try (go_wp2_with fail)
  refine hK.out _ _ (by (try dsimp only); exact hS _ (by repeat (first | (with_reducible exact Below.refl _ _) | (with_reducible assumption) | (with_reducible apply bl_alloc) | (with_reducible apply bl_drew) | (with_reducible refine bl_set10 ?_ (by omega) _ _ _ _ _ _ _ _ _ _) | ((with_reducible refine bl_set ?_ ?hs _); case hs => (simp; try omega)) | (with_reducible refine bl_step ?_ (by assumption))))) (fun hHeld2 => ?_)
  clear hHeld
  rename _ => hHeld
  clear hK K
  (try simp only [Act.put, List.setIfInBounds_toArray, List.set_cons_zero, List.set_cons_succ])
  refine wpAnyH_take (i := 21) (v := ?_) rfl (by kernel_rfl) (by kernel_rfl) (by kernel_rfl) (fun _ _ _ h => h) (Or.inl ⟨by kernel_rfl, ?_⟩) (by assumption) ?_
  rotate_left
  · (intro w hSw; (try dsimp only at hSw); go_simp; try (with_reducible rfl))
  (try simp only [Act.put, List.setIfInBounds_toArray, List.set_cons_zero, List.set_cons_succ])
  refine wpAnyH_take (i := 22) (v := ?_) rfl (by kernel_rfl) (by kernel_rfl) (by kernel_rfl) (fun _ _ _ h => h) (Or.inl ⟨by rfl, ?_⟩) (by assumption) ?_
  rotate_left
  · (intro w hSw; (try dsimp only at hSw); go_simp; try (with_reducible rfl))
  (try simp only [Act.put, List.setIfInBounds_toArray, List.set_cons_zero, List.set_cons_succ])
  refine wpAnyH_take (i := 23) (v := ?_) rfl (by kernel_rfl) (by kernel_rfl) (by kernel_rfl) (fun _ _ _ h => h) (Or.inl ⟨by rfl, ?_⟩) (by assumption) ?_
  rotate_left
  · (intro w hSw; (try dsimp only at hSw); go_simp; try (with_reducible rfl))
  (try simp only [Act.put, List.setIfInBounds_toArray, List.set_cons_zero, List.set_cons_succ])
  refine wpAnyH_take (i := 24) (v := ?_) rfl (by kernel_rfl) (by kernel_rfl) (by kernel_rfl) (fun _ _ _ h => h) (Or.inl ⟨by kernel_rfl, ?_⟩) (by assumption) ?_
  rotate_left
  · (intro w hSw; (try dsimp only at hSw); go_simp; try (with_reducible rfl))
  (try simp only [Act.put, List.setIfInBounds_toArray, List.set_cons_zero, List.set_cons_succ])
  refine wpAnyH_take (i := 25) (v := ?_) rfl (by kernel_rfl) (by kernel_rfl) (by kernel_rfl) (fun _ _ _ h => h) (Or.inl ⟨by kernel_rfl, ?_⟩) (by assumption) ?_
  rotate_left
  · (intro w hSw; (try dsimp only at hSw); go_simp; try (with_reducible rfl))
  (try simp only [Act.put, List.setIfInBounds_toArray, List.set_cons_zero, List.set_cons_succ])
  refine wpAnyH_take (i := 27) (v := ?_) rfl (by kernel_rfl) (by kernel_rfl) (by kernel_rfl) (fun _ _ _ h => h) (Or.inl ⟨by kernel_rfl, ?_⟩) (by assumption) ?_
  rotate_left
  · (intro w hSw; (try dsimp only at hSw); go_simp; try (with_reducible rfl))
  (try simp only [Act.put, List.setIfInBounds_toArray, List.set_cons_zero, List.set_cons_succ])
  refine wpAnyH_take (i := 28) (v := ?_) rfl (by kernel_rfl) (by kernel_rfl) (by kernel_rfl) (fun _ _ _ h => h) (Or.inl ⟨by kernel_rfl, ?_⟩) (by assumption) ?_
  rotate_left
  · (intro w hSw; (try dsimp only at hSw); go_simp; try (with_reducible rfl))
  (try simp only [Act.put, List.setIfInBounds_toArray, List.set_cons_zero, List.set_cons_succ])
  refine wpAnyH_ready (rs := [26]) (by kernel_rfl) (by simp) ?_
  refine AllReadyH.cons (i := 26) rfl (fun K hK => ?_) AllReadyH.nil
  rw [if_pos (by kernel_rfl)]
  go_simp
  (go_at_call 14; refine (same_any (a) (b) h9 h10 _ (r9.at (by repeat (first | (with_reducible exact Below.refl _ _) | (with_reducible assumption) | (with_reducible apply bl_alloc) | (with_reducible apply bl_drew) | (with_reducible refine bl_set10 ?_ (by omega) _ _ _ _ _ _ _ _ _ _) | ((with_reducible refine bl_set ?_ ?hs _); case hs => (simp; try omega)) | (with_reducible refine bl_step ?_ (by assumption))))) (r10.at (by repeat (first | (with_reducible exact Below.refl _ _) | (with_reducible assumption) | (with_reducible apply bl_alloc) | (with_reducible apply bl_drew) | (with_reducible refine bl_set10 ?_ (by omega) _ _ _ _ _ _ _ _ _ _) | ((with_reducible refine bl_set ?_ ?hs _); case hs => (simp; try omega)) | (with_reducible refine bl_step ?_ (by assumption))))) c9.out c10.out a1.out b1.out).mono ?_; rintro e v9 ⟨⟨q3, rfl, hq3'⟩, hqv9⟩; have yv9 : Below w6.heap.size w6 v9 := (by repeat (first | (with_reducible exact Below.refl _ _) | (with_reducible assumption) | (with_reducible apply bl_alloc) | (with_reducible apply bl_drew) | (with_reducible refine bl_set10 ?_ (by omega) _ _ _ _ _ _ _ _ _ _) | ((with_reducible refine bl_set ?_ ?hs _); case hs => (simp; try omega)) | (with_reducible refine bl_step ?_ (by assumption)))); skip)
  try (go_wp2_with fail)
  refine hK.out _ _ (by (try dsimp only); exact hS _ (by repeat (first | (with_reducible exact Below.refl _ _) | (with_reducible assumption) | (with_reducible apply bl_alloc) | (with_reducible apply bl_drew) | (with_reducible refine bl_set10 ?_ (by omega) _ _ _ _ _ _ _ _ _ _) | ((with_reducible refine bl_set ?_ ?hs _); case hs => (simp; try omega)) | (with_reducible refine bl_step ?_ (by assumption))))) (fun hHeld2 => ?_)
  clear hHeld
  rename _ => hHeld
  clear hK K
  (try simp only [Act.put, List.setIfInBounds_toArray, List.set_cons_zero, List.set_cons_succ])
  refine wpAnyH_ready (rs := [29]) (by kernel_rfl) (by simp) ?_
  refine AllReadyH.cons (i := 29) rfl (fun K hK => ?_) AllReadyH.nil
  rw [if_pos (by kernel_rfl)]
  go_simp
  (go_at_call 23; refine (rsame_any (a) (b) ha hb _ (ra.at (by repeat (first | (with_reducible exact Below.refl _ _) | (with_reducible assumption) | (with_reducible apply bl_alloc) | (with_reducible apply bl_drew) | (with_reducible refine bl_set10 ?_ (by omega) _ _ _ _ _ _ _ _ _ _) | ((with_reducible refine bl_set ?_ ?hs _); case hs => (simp; try omega)) | (with_reducible refine bl_step ?_ (by assumption))))) (rb.at (by repeat (first | (with_reducible exact Below.refl _ _) | (with_reducible assumption) | (with_reducible apply bl_alloc) | (with_reducible apply bl_drew) | (with_reducible refine bl_set10 ?_ (by omega) _ _ _ _ _ _ _ _ _ _) | ((with_reducible refine bl_set ?_ ?hs _); case hs => (simp; try omega)) | (with_reducible refine bl_step ?_ (by assumption))))) ca.out cb.out a1.out b1.out).mono ?_; rintro e v10 ⟨⟨q4, rfl, hq4'⟩, hqv10⟩; have yv10 : Below w6.heap.size w6 v10 := (by repeat (first | (with_reducible exact Below.refl _ _) | (with_reducible assumption) | (with_reducible apply bl_alloc) | (with_reducible apply bl_drew) | (with_reducible refine bl_set10 ?_ (by omega) _ _ _ _ _ _ _ _ _ _) | ((with_reducible refine bl_set ?_ ?hs _); case hs => (simp; try omega)) | (with_reducible refine bl_step ?_ (by assumption)))); obtain rfl : q4 = q3 := same_eq hq3' hq4')
  try (go_wp2_with fail)
  refine hK.out _ _ (by (try dsimp only); exact hS _ (by repeat (first | (with_reducible exact Below.refl _ _) | (with_reducible assumption) | (with_reducible apply bl_alloc) | (with_reducible apply bl_drew) | (with_reducible refine bl_set10 ?_ (by omega) _ _ _ _ _ _ _ _ _ _) | ((with_reducible refine bl_set ?_ ?hs _); case hs => (simp; try omega)) | (with_reducible refine bl_step ?_ (by assumption))))) (fun hHeld2 => ?_)
  clear hHeld
  rename _ => hHeld
  clear hK K
  (try simp only [Act.put, List.setIfInBounds_toArray, List.set_cons_zero, List.set_cons_succ])
  refine wpAnyH_take (i := 30) (v := ?_) rfl (by kernel_rfl) (by kernel_rfl) (by kernel_rfl) (fun _ _ _ h => h) (Or.inl ⟨by kernel_rfl, ?_⟩) (by assumption) ?_
  rotate_left
  · (intro w hSw; (try dsimp only at hSw); go_simp; try (with_reducible rfl))
  (try simp only [Act.put, List.setIfInBounds_toArray, List.set_cons_zero, List.set_cons_succ])
  refine wpAnyH_take (i := 31) (v := ?_) rfl (by kernel_rfl) (by kernel_rfl) (by kernel_rfl) (fun _ _ _ h => h) (Or.inl ⟨by rfl, ?_⟩) (by assumption) ?_
  rotate_left
  · (intro w hSw; (try dsimp only at hSw); go_simp; try (with_reducible rfl))
  (try simp only [Act.put, List.setIfInBounds_toArray, List.set_cons_zero, List.set_cons_succ])
  refine wpAnyH_take (i := 32) (v := ?_) rfl (by kernel_rfl) (by kernel_rfl) (by kernel_rfl) (fun _ _ _ h => h) (Or.inl ⟨by rfl, ?_⟩) (by assumption) ?_
  rotate_left
  · (intro w hSw; (try dsimp only at hSw); go_simp; try (with_reducible rfl))
  (try simp only [Act.put, List.setIfInBounds_toArray, List.set_cons_zero, List.set_cons_succ])
  refine wpAnyH_take (i := 33) (v := ?_) rfl (by kernel_rfl) (by kernel_rfl) (by kernel_rfl) (fun _ _ _ h => h) (Or.inl ⟨by kernel_rfl, ?_⟩) (by assumption) ?_
  rotate_left
  · (intro w hSw; (try dsimp only at hSw); go_simp; try (with_reducible rfl))
  (try simp only [Act.put, List.setIfInBounds_toArray, List.set_cons_zero, List.set_cons_succ])
  refine wpAnyH_take (i := 34) (v := ?_) rfl (by kernel_rfl) (by kernel_rfl) (by kernel_rfl) (fun _ _ _ h => h) (Or.inl ⟨by kernel_rfl, ?_⟩) (by assumption) ?_
  rotate_left
  · (intro w hSw; (try dsimp only at hSw); go_simp; try (with_reducible rfl))
  (try simp only [Act.put, List.setIfInBounds_toArray, List.set_cons_zero, List.set_cons_succ])
  refine wpAnyH_take (i := 35) (v := ?_) rfl (by kernel_rfl) (by kernel_rfl) (by kernel_rfl) (fun _ _ _ h => h) (Or.inl ⟨by kernel_rfl, ?_⟩) (by assumption) ?_
  rotate_left
  · (intro w hSw; (try dsimp only at hSw); go_simp; try (with_reducible rfl))
  (try simp only [Act.put, List.setIfInBounds_toArray, List.set_cons_zero, List.set_cons_succ])
  refine wpAnyH_take (i := 36) (v := ?_) rfl (by kernel_rfl) (by kernel_rfl) (by kernel_rfl) (fun _ _ _ h => h) (Or.inl ⟨by rfl, ?_⟩) (by assumption) ?_
  rotate_left
  · (intro w hSw; (try dsimp only at hSw); go_simp; try (with_reducible rfl))
  (try simp only [Act.put, List.setIfInBounds_toArray, List.set_cons_zero, List.set_cons_succ])
  refine wpAnyH_take (i := 37) (v := ?_) rfl (by kernel_rfl) (by kernel_rfl) (by kernel_rfl) (fun _ _ _ h => h) (Or.inl ⟨by rfl, ?_⟩) (by assumption) ?_
  rotate_left
  · (intro w hSw; (try dsimp only at hSw); go_simp; try (with_reducible rfl))
  (try simp only [Act.put, List.setIfInBounds_toArray, List.set_cons_zero, List.set_cons_succ])
  refine wpAnyH_take (i := 38) (v := ?_) rfl (by kernel_rfl) (by kernel_rfl) (by kernel_rfl) (fun _ _ _ h => h) (Or.inl ⟨by kernel_rfl, ?_⟩) (by assumption) ?_
  rotate_left
  · (intro w hSw; (try dsimp only at hSw); go_simp; try (with_reducible rfl))
  (try simp only [Act.put, List.setIfInBounds_toArray, List.set_cons_zero, List.set_cons_succ])
  refine wpAnyH_take (i := 39) (v := ?_) rfl (by kernel_rfl) (by kernel_rfl) (by kernel_rfl) (fun _ _ _ h => h) (Or.inl ⟨by kernel_rfl, ?_⟩) (by assumption) ?_
  rotate_left
  · (intro w hSw; (try dsimp only at hSw); go_simp; try (with_reducible rfl))
  (try simp only [Act.put, List.setIfInBounds_toArray, List.set_cons_zero, List.set_cons_succ])
  refine wpAnyH_take (i := 40) (v := ?_) rfl (by kernel_rfl) (by kernel_rfl) (by kernel_rfl) (fun _ _ _ h => h) (Or.inl ⟨by kernel_rfl, ?_⟩) (by assumption) ?_
  rotate_left
  · (intro w hSw; (try dsimp only at hSw); go_simp; try (with_reducible rfl))
  (try simp only [Act.put, List.setIfInBounds_toArray, List.set_cons_zero, List.set_cons_succ])
  refine wpAnyH_take (i := 41) (v := ?_) rfl (by kernel_rfl) (by kernel_rfl) (by kernel_rfl) (fun _ _ _ h => h) (Or.inl ⟨by rfl, ?_⟩) (by assumption) ?_
  rotate_left
  · (intro w hSw; (try dsimp only at hSw); go_simp; try (with_reducible rfl))
  (try simp only [Act.put, List.setIfInBounds_toArray, List.set_cons_zero, List.set_cons_succ])
  refine wpAnyH_take (i := 42) (v := ?_) rfl (by kernel_rfl) (by kernel_rfl) (by kernel_rfl) (fun _ _ _ h => h) (Or.inl ⟨by rfl, ?_⟩) (by assumption) ?_
  rotate_left
  · (intro w hSw; (try dsimp only at hSw); go_simp; try (with_reducible rfl))
  (try simp only [Act.put, List.setIfInBounds_toArray, List.set_cons_zero, List.set_cons_succ])
  refine wpAnyH_take (i := 43) (v := ?_) rfl (by kernel_rfl) (by kernel_rfl) (by kernel_rfl) (fun _ _ _ h => h) (Or.inl ⟨by kernel_rfl, ?_⟩) (by assumption) ?_
  rotate_left
  · (intro w hSw; (try dsimp only at hSw); go_simp; try (with_reducible rfl))
  (try simp only [Act.put, List.setIfInBounds_toArray, List.set_cons_zero, List.set_cons_succ])
  refine wpAnyH_take (i := 45) (v := ?_) rfl (by kernel_rfl) (by kernel_rfl) (by kernel_rfl) (fun _ _ _ h => h) (Or.inl ⟨by kernel_rfl, ?_⟩) (by assumption) ?_
  rotate_left
  · (intro w hSw; (try dsimp only at hSw); go_simp; try (with_reducible rfl))
  (try simp only [Act.put, List.setIfInBounds_toArray, List.set_cons_zero, List.set_cons_succ])
  refine wpAnyH_take (i := 47) (v := ?_) rfl (by kernel_rfl) (by kernel_rfl) (by kernel_rfl) (fun _ _ _ h => h) (Or.inl ⟨by kernel_rfl, ?_⟩) (by assumption) ?_
  rotate_left
  · (intro w hSw; (try dsimp only at hSw); go_simp; try (with_reducible rfl))
  (try simp only [Act.put, List.setIfInBounds_toArray, List.set_cons_zero, List.set_cons_succ])
  refine wpAnyH_take (i := 48) (v := ?_) rfl (by kernel_rfl) (by kernel_rfl) (by kernel_rfl) (fun _ _ _ h => h) (Or.inl ⟨by kernel_rfl, ?_⟩) (by assumption) ?_
  rotate_left
  · (intro w hSw; (try dsimp only at hSw); go_simp; try (with_reducible rfl))
  (try simp only [Act.put, List.setIfInBounds_toArray, List.set_cons_zero, List.set_cons_succ])
  refine wpAnyH_ready (rs := [44]) (by kernel_rfl) (by simp) ?_
  refine AllReadyH.cons (i := 44) rfl (fun K hK => ?_) AllReadyH.nil
  rw [if_pos (by kernel_rfl)]
  refine app_nil (.tmp 91) _ (some 92) ?_ ?_ 24 i0 _ 3 24 Try.underlying22 hi0 hz0 hz1 hz2 rfl (by omega) w6.heap.size A l.length lc (l.flatMap chC) ?_ ?_ (chC_one l) ?_ ?_ ?_
  · kernel_rfl
  · kernel_rfl
  · kernel_rfl
  · exact rl.be (by repeat (first | (with_reducible exact Below.refl _ _) | (with_reducible assumption) | (with_reducible apply bl_alloc) | (with_reducible apply bl_drew) | (with_reducible refine bl_set10 ?_ (by omega) _ _ _ _ _ _ _ _ _ _) | ((with_reducible refine bl_set ?_ ?hs _); case hs => (simp; try omega)) | (with_reducible refine bl_step ?_ (by assumption))))
  · have := l60.out; simp only [maxLen]; omega
  · have := l60.out; omega
  intro A11 c11 v11 own11 hqv11
  have yv11 : Below w6.heap.size w6 v11 := (by repeat (first | (with_reducible exact Below.refl _ _) | (with_reducible assumption) | (with_reducible apply bl_alloc) | (with_reducible apply bl_drew) | (with_reducible refine bl_set10 ?_ (by omega) _ _ _ _ _ _ _ _ _ _) | ((with_reducible refine bl_set ?_ ?hs _); case hs => (simp; try omega)) | (with_reducible refine bl_step ?_ (by assumption))))
  refine hK.out _ _ (by (try dsimp only); exact hS _ (by repeat (first | (with_reducible exact Below.refl _ _) | (with_reducible assumption) | (with_reducible apply bl_alloc) | (with_reducible apply bl_drew) | (with_reducible refine bl_set10 ?_ (by omega) _ _ _ _ _ _ _ _ _ _) | ((with_reducible refine bl_set ?_ ?hs _); case hs => (simp; try omega)) | (with_reducible refine bl_step ?_ (by assumption))))) (fun hHeld2 => ?_)
  clear hHeld
  rename _ => hHeld
  clear hK K
  (try simp only [Act.put, List.setIfInBounds_toArray, List.set_cons_zero, List.set_cons_succ])
  refine wpAnyH_ready (rs := [46]) (by kernel_rfl) (by simp) ?_
  refine AllReadyH.cons (i := 46) rfl (fun K hK => ?_) AllReadyH.nil
  rw [if_pos (by kernel_rfl)]
  go_simp
  (go_at_call 8; refine (put_any A11 c11 l c _ (by have := l60.out; omega) (Rds.own own11)).mono ?_; rintro e v12 ⟨A12, c12, rfl, own12, hqv12⟩; have yv12 : Below w6.heap.size w6 v12 := (by repeat (first | (with_reducible exact Below.refl _ _) | (with_reducible assumption) | (with_reducible apply bl_alloc) | (with_reducible apply bl_drew) | (with_reducible refine bl_set10 ?_ (by omega) _ _ _ _ _ _ _ _ _ _) | ((with_reducible refine bl_set ?_ ?hs _); case hs => (simp; try omega)) | (with_reducible refine bl_step ?_ (by assumption)))))
  try (go_wp2_with fail)
  refine hK.out _ _ (by (try dsimp only); exact hS _ (by repeat (first | (with_reducible exact Below.refl _ _) | (with_reducible assumption) | (with_reducible apply bl_alloc) | (with_reducible apply bl_drew) | (with_reducible refine bl_set10 ?_ (by omega) _ _ _ _ _ _ _ _ _ _) | ((with_reducible refine bl_set ?_ ?hs _); case hs => (simp; try omega)) | (with_reducible refine bl_step ?_ (by assumption))))) (fun hHeld2 => ?_)
  clear hHeld
  rename _ => hHeld
  clear hK K
  (try simp only [Act.put, List.setIfInBounds_toArray, List.set_cons_zero, List.set_cons_succ])
  refine wpAnyH_ready (rs := [49]) (by kernel_rfl) (by simp) ?_
  refine AllReadyH.cons (i := 49) rfl (fun K hK => ?_) AllReadyH.nil
  rw [if_pos (by kernel_rfl)]
  go_simp
  (go_at_call 25; refine (rput_any A lc l c _ (by have := l60.out; omega) ((rl.be (by repeat (first | (with_reducible exact Below.refl _ _) | (with_reducible assumption) | (with_reducible apply bl_alloc) | (with_reducible apply bl_drew) | (with_reducible refine bl_set10 ?_ (by omega) _ _ _ _ _ _ _ _ _ _) | ((with_reducible refine bl_set ?_ ?hs _); case hs => (simp; try omega)) | (with_reducible refine bl_step ?_ (by assumption))))).more (by exact Below.size (by repeat (first | (with_reducible exact Below.refl _ _) | (with_reducible assumption) | (with_reducible apply bl_alloc) | (with_reducible apply bl_drew) | (with_reducible refine bl_set10 ?_ (by omega) _ _ _ _ _ _ _ _ _ _) | ((with_reducible refine bl_set ?_ ?hs _); case hs => (simp; try omega)) | (with_reducible refine bl_step ?_ (by assumption))))))).mono ?_; rintro e v13 ⟨A13, c13, rfl, own13, hqv13⟩; have yv13 : Below w6.heap.size w6 v13 := (by repeat (first | (with_reducible exact Below.refl _ _) | (with_reducible assumption) | (with_reducible apply bl_alloc) | (with_reducible apply bl_drew) | (with_reducible refine bl_set10 ?_ (by omega) _ _ _ _ _ _ _ _ _ _) | ((with_reducible refine bl_set ?_ ?hs _); case hs => (simp; try omega)) | (with_reducible refine bl_step ?_ (by assumption)))))
  try (go_wp2_with fail)
  refine hK.out _ _ (by (try dsimp only); exact hS _ (by repeat (first | (with_reducible exact Below.refl _ _) | (with_reducible assumption) | (with_reducible apply bl_alloc) | (with_reducible apply bl_drew) | (with_reducible refine bl_set10 ?_ (by omega) _ _ _ _ _ _ _ _ _ _) | ((with_reducible refine bl_set ?_ ?hs _); case hs => (simp; try omega)) | (with_reducible refine bl_step ?_ (by assumption))))) (fun hHeld2 => ?_)
  clear hHeld
  rename _ => hHeld
  clear hK K
  (try simp only [Act.put, List.setIfInBounds_toArray, List.set_cons_zero, List.set_cons_succ])
  refine wpAnyH_ready (rs := [50]) (by kernel_rfl) (by simp) ?_
  refine AllReadyH.cons (i := 50) rfl (fun K hK => ?_) AllReadyH.nil
  rw [if_pos (by kernel_rfl)]
  go_simp
  (go_at_call 20; refine (sameCh_any A12 A13 c12 c13 (putC l c) (putC l c) _ (((Rds.own own12).be hqv13).more hqv13.size) (Rds.own own13) (St.own_cap own12) (St.own_cap own13) (by have := (put_len l c).2; have := l60.out; omega) (by have := (put_len l c).2; have := l60.out; omega)).mono ?_; rintro e v14 ⟨⟨q5, rfl, hq5'⟩, hqv14⟩; have yv14 : Below w6.heap.size w6 v14 := (by repeat (first | (with_reducible exact Below.refl _ _) | (with_reducible assumption) | (with_reducible apply bl_alloc) | (with_reducible apply bl_drew) | (with_reducible refine bl_set10 ?_ (by omega) _ _ _ _ _ _ _ _ _ _) | ((with_reducible refine bl_set ?_ ?hs _); case hs => (simp; try omega)) | (with_reducible refine bl_step ?_ (by assumption)))); obtain rfl : q5 = true := hq5'.2 rfl)
  try (go_wp2_with fail)
  refine hK.out _ _ (by (try dsimp only); exact hS _ (by repeat (first | (with_reducible exact Below.refl _ _) | (with_reducible assumption) | (with_reducible apply bl_alloc) | (with_reducible apply bl_drew) | (with_reducible refine bl_set10 ?_ (by omega) _ _ _ _ _ _ _ _ _ _) | ((with_reducible refine bl_set ?_ ?hs _); case hs => (simp; try omega)) | (with_reducible refine bl_step ?_ (by assumption))))) (fun hHeld2 => ?_)
  clear hHeld
  rename _ => hHeld
  clear hK K
  (try simp only [Act.put, List.setIfInBounds_toArray, List.set_cons_zero, List.set_cons_succ])
  refine wpAnyH_take (i := 51) (v := ?_) rfl (by kernel_rfl) (by kernel_rfl) (by kernel_rfl) (fun _ _ _ h => h) (Or.inl ⟨by rfl, ?_⟩) (by assumption) ?_
  rotate_left
  · (intro w hSw; (try dsimp only at hSw); go_simp; try (with_reducible rfl))
  (try simp only [Act.put, List.setIfInBounds_toArray, List.set_cons_zero, List.set_cons_succ])
  refine wpAnyH_take (i := 52) (v := ?_) rfl (by kernel_rfl) (by kernel_rfl) (by kernel_rfl) (fun _ _ _ h => h) (Or.inl ⟨by rfl, ?_⟩) (by assumption) ?_
  rotate_left
  · (intro w hSw; (try dsimp only at hSw); go_simp; try (with_reducible rfl))
  (try simp only [Act.put, List.setIfInBounds_toArray, List.set_cons_zero, List.set_cons_succ])
  refine wpAnyH_take (i := 53) (v := ?_) rfl (by kernel_rfl) (by kernel_rfl) (by kernel_rfl) (fun _ _ _ h => h) (Or.inl ⟨by kernel_rfl, ?_⟩) (by assumption) ?_
  rotate_left
  · (intro w hSw; (try dsimp only at hSw); go_simp; try (with_reducible rfl))
  (try simp only [Act.put, List.setIfInBounds_toArray, List.set_cons_zero, List.set_cons_succ])
  refine wpAnyH_take (i := 54) (v := ?_) rfl (by kernel_rfl) (by kernel_rfl) (by kernel_rfl) (fun _ _ _ h => h) (Or.inl ⟨by kernel_rfl, ?_⟩) (by assumption) ?_
  rotate_left
  · (intro w hSw; (try dsimp only at hSw); go_simp; try (with_reducible rfl))
  (try simp only [Act.put, List.setIfInBounds_toArray, List.set_cons_zero, List.set_cons_succ])
  refine wpAnyH_ready (rs := [55]) (by kernel_rfl) (by simp) ?_
  refine AllReadyH.cons (i := 55) rfl (fun K hK => ?_) AllReadyH.nil
  rw [if_pos (by kernel_rfl)]
  go_simp
  (go_at_call 23; refine (rsame_any (a) (a) h9 ha _ (r9.at (by repeat (first | (with_reducible exact Below.refl _ _) | (with_reducible assumption) | (with_reducible apply bl_alloc) | (with_reducible apply bl_drew) | (with_reducible refine bl_set10 ?_ (by omega) _ _ _ _ _ _ _ _ _ _) | ((with_reducible refine bl_set ?_ ?hs _); case hs => (simp; try omega)) | (with_reducible refine bl_step ?_ (by assumption))))) (ra.at (by repeat (first | (with_reducible exact Below.refl _ _) | (with_reducible assumption) | (with_reducible apply bl_alloc) | (with_reducible apply bl_drew) | (with_reducible refine bl_set10 ?_ (by omega) _ _ _ _ _ _ _ _ _ _) | ((with_reducible refine bl_set ?_ ?hs _); case hs => (simp; try omega)) | (with_reducible refine bl_step ?_ (by assumption))))) c9.out ca.out a1.out a1.out).mono ?_; rintro e v15 ⟨⟨q6, rfl, hq6'⟩, hqv15⟩; have yv15 : Below w6.heap.size w6 v15 := (by repeat (first | (with_reducible exact Below.refl _ _) | (with_reducible assumption) | (with_reducible apply bl_alloc) | (with_reducible apply bl_drew) | (with_reducible refine bl_set10 ?_ (by omega) _ _ _ _ _ _ _ _ _ _) | ((with_reducible refine bl_set ?_ ?hs _); case hs => (simp; try omega)) | (with_reducible refine bl_step ?_ (by assumption)))); obtain rfl : q6 = true := hq6'.2 rfl)
  try (go_wp2_with fail)
  refine hK.out _ _ (by (try dsimp only); exact hS _ (by repeat (first | (with_reducible exact Below.refl _ _) | (with_reducible assumption) | (with_reducible apply bl_alloc) | (with_reducible apply bl_drew) | (with_reducible refine bl_set10 ?_ (by omega) _ _ _ _ _ _ _ _ _ _) | ((with_reducible refine bl_set ?_ ?hs _); case hs => (simp; try omega)) | (with_reducible refine bl_step ?_ (by assumption))))) (fun hHeld2 => ?_)
  clear hHeld
  rename _ => hHeld
  clear hK K
  (try simp only [Act.put, List.setIfInBounds_toArray, List.set_cons_zero, List.set_cons_succ])
  refine wpAnyH_take (i := 56) (v := ?_) rfl (by kernel_rfl) (by kernel_rfl) (by kernel_rfl) (fun _ _ _ h => h) (Or.inl ⟨by rfl, ?_⟩) (by assumption) ?_
  rotate_left
  · (intro w hSw; (try dsimp only at hSw); go_simp; try (with_reducible rfl))
  (try simp only [Act.put, List.setIfInBounds_toArray, List.set_cons_zero, List.set_cons_succ])
  refine wpAnyH_take (i := 57) (v := ?_) rfl (by kernel_rfl) (by kernel_rfl) (by kernel_rfl) (fun _ _ _ h => h) (Or.inl ⟨by rfl, ?_⟩) (by assumption) ?_
  rotate_left
  · (intro w hSw; (try dsimp only at hSw); go_simp; try (with_reducible rfl))
  (try simp only [Act.put, List.setIfInBounds_toArray, List.set_cons_zero, List.set_cons_succ])
  refine wpAnyH_take (i := 58) (v := ?_) rfl (by kernel_rfl) (by kernel_rfl) (by kernel_rfl) (fun _ _ _ h => h) (Or.inl ⟨by kernel_rfl, ?_⟩) (by assumption) ?_
  rotate_left
  · (intro w hSw; (try dsimp only at hSw); go_simp; try (with_reducible rfl))
  (try simp only [Act.put, List.setIfInBounds_toArray, List.set_cons_zero, List.set_cons_succ])
  refine wpAnyH_take (i := 59) (v := ?_) rfl (by kernel_rfl) (by kernel_rfl) (by kernel_rfl) (fun _ _ _ h => h) (Or.inl ⟨by kernel_rfl, ?_⟩) (by assumption) ?_
  rotate_left
  · (intro w hSw; (try dsimp only at hSw); go_simp; try (with_reducible rfl))
  (try simp only [Act.put, List.setIfInBounds_toArray, List.set_cons_zero, List.set_cons_succ])
  refine wpAnyH_ready (rs := [60]) (by kernel_rfl) (by simp) ?_
  refine AllReadyH.cons (i := 60) rfl (fun K hK => ?_) AllReadyH.nil
  rw [if_pos (by kernel_rfl)]
  go_simp
  (go_at_call 23; refine (rsame_any (b) (b) h10 hb _ (r10.at (by repeat (first | (with_reducible exact Below.refl _ _) | (with_reducible assumption) | (with_reducible apply bl_alloc) | (with_reducible apply bl_drew) | (with_reducible refine bl_set10 ?_ (by omega) _ _ _ _ _ _ _ _ _ _) | ((with_reducible refine bl_set ?_ ?hs _); case hs => (simp; try omega)) | (with_reducible refine bl_step ?_ (by assumption))))) (rb.at (by repeat (first | (with_reducible exact Below.refl _ _) | (with_reducible assumption) | (with_reducible apply bl_alloc) | (with_reducible apply bl_drew) | (with_reducible refine bl_set10 ?_ (by omega) _ _ _ _ _ _ _ _ _ _) | ((with_reducible refine bl_set ?_ ?hs _); case hs => (simp; try omega)) | (with_reducible refine bl_step ?_ (by assumption))))) c10.out cb.out b1.out b1.out).mono ?_; rintro e v16 ⟨⟨q7, rfl, hq7'⟩, hqv16⟩; have yv16 : Below w6.heap.size w6 v16 := (by repeat (first | (with_reducible exact Below.refl _ _) | (with_reducible assumption) | (with_reducible apply bl_alloc) | (with_reducible apply bl_drew) | (with_reducible refine bl_set10 ?_ (by omega) _ _ _ _ _ _ _ _ _ _) | ((with_reducible refine bl_set ?_ ?hs _); case hs => (simp; try omega)) | (with_reducible refine bl_step ?_ (by assumption)))); obtain rfl : q7 = true := hq7'.2 rfl)
  try (go_wp2_with fail)
  refine hK.out _ _ (by (try dsimp only); exact hS _ (by repeat (first | (with_reducible exact Below.refl _ _) | (with_reducible assumption) | (with_reducible apply bl_alloc) | (with_reducible apply bl_drew) | (with_reducible refine bl_set10 ?_ (by omega) _ _ _ _ _ _ _ _ _ _) | ((with_reducible refine bl_set ?_ ?hs _); case hs => (simp; try omega)) | (with_reducible refine bl_step ?_ (by assumption))))) (fun hHeld2 => ?_)
  clear hHeld
  rename _ => hHeld
  clear hK K
  (try simp only [Act.put, List.setIfInBounds_toArray, List.set_cons_zero, List.set_cons_succ])
  refine wpAnyH_take (i := 61) (v := ?_) rfl (by kernel_rfl) (by kernel_rfl) (by kernel_rfl) (fun _ _ _ h => h) (Or.inl ⟨by rfl, ?_⟩) (by assumption) ?_
  rotate_left
  · (intro w hSw; (try dsimp only at hSw); go_simp; try (with_reducible rfl))
  (try simp only [Act.put, List.setIfInBounds_toArray, List.set_cons_zero, List.set_cons_succ])
  refine wpAnyH_take (i := 62) (v := ?_) rfl (by kernel_rfl) (by kernel_rfl) (by kernel_rfl) (fun _ _ _ h => h) (Or.inl ⟨by rfl, ?_⟩) (by assumption) ?_
  rotate_left
  · (intro w hSw; (try dsimp only at hSw); go_simp; try (with_reducible rfl))
  (try simp only [Act.put, List.setIfInBounds_toArray, List.set_cons_zero, List.set_cons_succ])
  refine wpAnyH_ready (rs := [63]) (by kernel_rfl) (by simp) ?_
  refine AllReadyH.cons (i := 63) rfl (fun K hK => ?_) AllReadyH.nil
  rw [if_pos (by kernel_rfl)]
  go_simp
  (go_at_call 7; refine (awake_any _).mono ?_; rintro e v17 ⟨rfl, hqv17⟩; have yv17 : Below w6.heap.size w6 v17 := (by repeat (first | (with_reducible exact Below.refl _ _) | (with_reducible assumption) | (with_reducible apply bl_alloc) | (with_reducible apply bl_drew) | (with_reducible refine bl_set10 ?_ (by omega) _ _ _ _ _ _ _ _ _ _) | ((with_reducible refine bl_set ?_ ?hs _); case hs => (simp; try omega)) | (with_reducible refine bl_step ?_ (by assumption)))))
  try (go_wp2_with fail)
  refine hK.out _ _ (by (try dsimp only); exact hS _ (by repeat (first | (with_reducible exact Below.refl _ _) | (with_reducible assumption) | (with_reducible apply bl_alloc) | (with_reducible apply bl_drew) | (with_reducible refine bl_set10 ?_ (by omega) _ _ _ _ _ _ _ _ _ _) | ((with_reducible refine bl_set ?_ ?hs _); case hs => (simp; try omega)) | (with_reducible refine bl_step ?_ (by assumption))))) (fun hHeld2 => ?_)
  clear hHeld
  rename _ => hHeld
  clear hK K
  (try simp only [Act.put, List.setIfInBounds_toArray, List.set_cons_zero, List.set_cons_succ])
  refine wpAnyH_take (i := 64) (v := ?_) rfl (by kernel_rfl) (by kernel_rfl) (by kernel_rfl) (fun _ _ _ h => h) (Or.inl ⟨by rfl, ?_⟩) (by assumption) ?_
  rotate_left
  · (intro w hSw; (try dsimp only at hSw); go_simp; try (with_reducible rfl))
  (try simp only [Act.put, List.setIfInBounds_toArray, List.set_cons_zero, List.set_cons_succ])
  refine wpAnyH_ready (rs := [65]) (by kernel_rfl) (by simp) ?_
  refine AllReadyH.cons (i := 65) rfl (fun K hK => ?_) AllReadyH.nil
  go_simp
  refine hK.out _ _ hHeld (fun hHeld2 => ?_)
  clear hHeld2 hK K
  (try simp only [Act.put, List.setIfInBounds_toArray, List.set_cons_zero, List.set_cons_succ])
  refine wpAnyH_done (by kernel_rfl) ?_ _
  go_wp2_with fail
  go_ret
  exact ⟨rfl, bl_step hw6 (by repeat (first | (with_reducible exact Below.refl _ _) | (with_reducible assumption) | (with_reducible apply bl_alloc) | (with_reducible apply bl_drew) | (with_reducible refine bl_set10 ?_ (by omega) _ _ _ _ _ _ _ _ _ _) | ((with_reducible refine bl_set ?_ ?hs _); case hs => (simp; try omega)) | (with_reducible refine bl_step ?_ (by assumption))))⟩
theorem StateAll_law (a b : Stt) (ha hb : Hd) (A : Option Addr) (lc : Nat) (l : List Ch) (c : Ch) (w : World) (ra : StR w w.heap.size a ha) (ca : StC a ha) (rb : StR w w.heap.size b hb) (cb : StC b hb) (rl : Rds w w.heap.size 3 A l.length (l.flatMap chC)) (cl : l.length ≤ lc) :
    Calls Try.prog 6 #[.agg (stV a ha), .agg (stV b hb), .slice A l.length lc, .agg #[.int .i64 c.id, .int .i64 c.x, .int .i64 c.y]] w fun e w' => e = .returned (.bool true) ∧ Below w.heap.size w w' := all_law a b ha hb A lc l c w ra ca rb cb rl cl
end Go.Proofs.Ytnboncbekcodnaa.PR
