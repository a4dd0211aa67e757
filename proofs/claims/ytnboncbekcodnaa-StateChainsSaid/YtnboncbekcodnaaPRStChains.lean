/- StateChains, walked by hand. Printed by gen_chains.py. -/
import Derived.Test.YtnboncbekcodnaaPRStSame
import Derived.Test.YtnboncbekcodnaaPRStOnce
import Derived.Test.YtnboncbekcodnaaPRAw15
import Derived.Test.YtnboncbekcodnaaSt10
import Derived.Deep.RegionHeld3
import Derived.Deep.Cut
set_option linter.unusedVariables false
set_option linter.unusedSimpArgs false
namespace Go.Proofs.Ytnboncbekcodnaa.PR
open Go.RowKit Go.Proofs.YtnboncbekcodnaaW.PrintWords Go.Proofs.Ytnboncbekcodnaa.Kit Go.Proofs.Ytnboncbekcodnaa.St

theorem put_state {w0 W : World} {g B : Nat} {X : Stt} {h : Hd} (hb : Bk W g 33 (stV zS zH)) (hO : StO W B X h) (hB : Below w0.heap.size w0 W) (hg : w0.heap.size ≤ g) :
    Bk ((((((((((W.setCell ⟨g, 0, none⟩ (.bool X.att)).setCell ⟨g, 1, none⟩ (.int .i64 X.buf)).setCell ⟨g, 2, none⟩ (.slice h.dA X.D.length h.dc)).setCell ⟨g, 3, none⟩ (.slice h.fA X.F.length h.fc)).setCell ⟨g, 4, none⟩ (.bool X.inp)).setCell ⟨g, 5, none⟩ (.bool X.all)).setCell ⟨g, 6, none⟩ (.slice h.rA X.R.length h.rc)).setCell ⟨g, 7, none⟩ (.bool X.ord)).setCell ⟨g, 8, none⟩ (.slice h.oA X.O.length h.oc)).setCell ⟨g, 9, none⟩ (.slice h.pA X.P.length h.pc)) g 33 (stV X h) ∧ StR ((((((((((W.setCell ⟨g, 0, none⟩ (.bool X.att)).setCell ⟨g, 1, none⟩ (.int .i64 X.buf)).setCell ⟨g, 2, none⟩ (.slice h.dA X.D.length h.dc)).setCell ⟨g, 3, none⟩ (.slice h.fA X.F.length h.fc)).setCell ⟨g, 4, none⟩ (.bool X.inp)).setCell ⟨g, 5, none⟩ (.bool X.all)).setCell ⟨g, 6, none⟩ (.slice h.rA X.R.length h.rc)).setCell ⟨g, 7, none⟩ (.bool X.ord)).setCell ⟨g, 8, none⟩ (.slice h.oA X.O.length h.oc)).setCell ⟨g, 9, none⟩ (.slice h.pA X.P.length h.pc)) ((((((((((W.setCell ⟨g, 0, none⟩ (.bool X.att)).setCell ⟨g, 1, none⟩ (.int .i64 X.buf)).setCell ⟨g, 2, none⟩ (.slice h.dA X.D.length h.dc)).setCell ⟨g, 3, none⟩ (.slice h.fA X.F.length h.fc)).setCell ⟨g, 4, none⟩ (.bool X.inp)).setCell ⟨g, 5, none⟩ (.bool X.all)).setCell ⟨g, 6, none⟩ (.slice h.rA X.R.length h.rc)).setCell ⟨g, 7, none⟩ (.bool X.ord)).setCell ⟨g, 8, none⟩ (.slice h.oA X.O.length h.oc)).setCell ⟨g, 9, none⟩ (.slice h.pA X.P.length h.pc)).heap.size X h ∧ StC X h ∧ Below w0.heap.size w0 ((((((((((W.setCell ⟨g, 0, none⟩ (.bool X.att)).setCell ⟨g, 1, none⟩ (.int .i64 X.buf)).setCell ⟨g, 2, none⟩ (.slice h.dA X.D.length h.dc)).setCell ⟨g, 3, none⟩ (.slice h.fA X.F.length h.fc)).setCell ⟨g, 4, none⟩ (.bool X.inp)).setCell ⟨g, 5, none⟩ (.bool X.all)).setCell ⟨g, 6, none⟩ (.slice h.rA X.R.length h.rc)).setCell ⟨g, 7, none⟩ (.bool X.ord)).setCell ⟨g, 8, none⟩ (.slice h.oA X.O.length h.oc)).setCell ⟨g, 9, none⟩ (.slice h.pA X.P.length h.pc)) :=
  ⟨bk_st10 hb _ _ _ _ _ _ _ _ _ _, (hO.set10 hb _ _ _ _ _ _ _ _ _ _).rd, hO.cp, bl_set10 hB hg _ _ _ _ _ _ _ _ _ _⟩
theorem put_new {w0 W : World} {B : Nat} {X : Stt} {h : Hd} (hO : StO W B X h) (hB : Below w0.heap.size w0 W) :
    Bk (W.alloc (.cells #[.bool X.att, .int .i64 X.buf, .slice h.dA X.D.length h.dc, .slice h.fA X.F.length h.fc, .bool X.inp, .bool X.all, .slice h.rA X.R.length h.rc, .bool X.ord, .slice h.oA X.O.length h.oc, .slice h.pA X.P.length h.pc] 33)) W.heap.size 33 (stV X h) ∧ StR (W.alloc (.cells #[.bool X.att, .int .i64 X.buf, .slice h.dA X.D.length h.dc, .slice h.fA X.F.length h.fc, .bool X.inp, .bool X.all, .slice h.rA X.R.length h.rc, .bool X.ord, .slice h.oA X.O.length h.oc, .slice h.pA X.P.length h.pc] 33)) (W.alloc (.cells #[.bool X.att, .int .i64 X.buf, .slice h.dA X.D.length h.dc, .slice h.fA X.F.length h.fc, .bool X.inp, .bool X.all, .slice h.rA X.R.length h.rc, .bool X.ord, .slice h.oA X.O.length h.oc, .slice h.pA X.P.length h.pc] 33)).heap.size X h ∧ StC X h ∧ Below w0.heap.size w0 (W.alloc (.cells #[.bool X.att, .int .i64 X.buf, .slice h.dA X.D.length h.dc, .slice h.fA X.F.length h.fc, .bool X.inp, .bool X.all, .slice h.rA X.R.length h.rc, .bool X.ord, .slice h.oA X.O.length h.oc, .slice h.pA X.P.length h.pc] 33)) :=
  ⟨Bk.new _ _ _, (hO.be (bl_alloc (Below.refl _ _) _)).rd, hO.cp, bl_alloc hB _⟩
theorem merge_O (s t : Stt) (hs ht : Hd) (w : World) (hS : StR w w.heap.size s hs) (hT : StR w w.heap.size t ht) (n : StN 1000 s) (m : StN 1000 t) :
    Calls Try.prog 13 #[.agg (stV s hs), .agg (stV t ht)] w fun e w' => ∃ h, e = .returned (.agg (stV (mergeS s t) h)) ∧ StO w' w.heap.size (mergeS s t) h ∧ Below w.heap.size w w' :=
  merge_any s t hs ht w hS hT n.d n.f n.r n.o n.p m.d m.f m.r m.o m.p
set_option maxRecDepth 100000 in
set_option maxHeartbeats 64000000 in
theorem chains_law (n a b : Stt) (hn ha hb : Hd) (w : World) (rn : StR w w.heap.size n hn) (cn : StC n hn) (ra : StR w w.heap.size a ha) (ca : StC a ha) (rb : StR w w.heap.size b hb) (cb : StC b hb) :
    Calls Try.prog 4 #[.agg (stV n hn), .agg (stV a ha), .agg (stV b hb)] w fun e w' => e = .returned (.bool true) ∧ Below w.heap.size w w' := by
  go_enter Try.func4, Try.ntmps4
  go_wp2_with fail
  generalize hwv : World.alloc _ _ = w0
  have Bn : Bk w0 (w.heap.size) 33 (stV n hn) := hwv ▸ ((Bk.new _ _ _).al _).al _
  have Ba : Bk w0 (w.heap.size + 1) 33 (stV a ha) := hwv ▸ (Bk.new' _ _ _ (by simp)).al _
  have Bb : Bk w0 (w.heap.size + 1 + 1) 33 (stV b hb) := hwv ▸ Bk.new' _ _ _ (by simp)
  have hw0 : Below w.heap.size w w0 := hwv ▸ bl_alloc (bl_alloc (bl_alloc (Below.refl _ _) _) _) _
  clear hwv
  refine (few_any n hn _).mono ?_
  rintro e w1 ⟨rfl, hq⟩
  replace Bn := Bn.be hq
  replace Ba := Ba.be hq
  replace Bb := Bb.be hq
  have hw1 := bl_step hw0 hq
  clear hq hw0
  by_cases fn : StN 60 n
  case neg =>
    rw [decide_eq_false fn]
    go_wp2_with fail
    refine (awake_any _).mono ?_
    rintro e wx ⟨rfl, hbx⟩
    go_wp2_with fail
    go_ret
    exact ⟨rfl, bl_step hw1 hbx⟩
  rw [decide_eq_true fn]
  obtain ⟨k0, k1, k2, k3, k4, k5, k6, k7, k8, k9⟩ := Bk.c10 Ba
  go_wp2_with fail
  clear k0 k1 k2 k3 k4 k5 k6 k7 k8 k9
  refine (few_any a ha _).mono ?_
  rintro e w2 ⟨rfl, hq⟩
  replace Bn := Bn.be hq
  replace Ba := Ba.be hq
  replace Bb := Bb.be hq
  have hw2 := bl_step hw1 hq
  clear hq hw1
  by_cases fa : StN 60 a
  case neg =>
    rw [decide_eq_false fa]
    go_wp2_with fail
    refine (awake_any _).mono ?_
    rintro e wx ⟨rfl, hbx⟩
    go_wp2_with fail
    go_ret
    exact ⟨rfl, bl_step hw2 hbx⟩
  rw [decide_eq_true fa]
  obtain ⟨k0, k1, k2, k3, k4, k5, k6, k7, k8, k9⟩ := Bk.c10 Bb
  go_wp2_with fail
  clear k0 k1 k2 k3 k4 k5 k6 k7 k8 k9
  refine (few_any b hb _).mono ?_
  rintro e w3 ⟨rfl, hq⟩
  replace Bn := Bn.be hq
  replace Ba := Ba.be hq
  replace Bb := Bb.be hq
  have hw3 := bl_step hw2 hq
  clear hq hw2
  by_cases fb : StN 60 b
  case neg =>
    rw [decide_eq_false fb]
    go_wp2_with fail
    refine (awake_any _).mono ?_
    rintro e wx ⟨rfl, hbx⟩
    go_wp2_with fail
    go_ret
    exact ⟨rfl, bl_step hw3 hbx⟩
  rw [decide_eq_true fb]
  have k9 : w3.cell? ⟨w.heap.size + 1, 9, none⟩ = some (.slice ha.pA a.P.length ha.pc) := Ba.cell 9
  go_wp2_with fail
  clear k9
  refine (once_any ha.pA ha.pc a.P _ (ra.at hw3).p ca.p (by have := fa.p; omega)).mono ?_
  rintro e w4 ⟨⟨r4, rfl, hr4⟩, hq⟩
  replace Bn := Bn.be hq
  replace Ba := Ba.be hq
  replace Bb := Bb.be hq
  have hw4 := bl_step hw3 hq
  clear hq hw3
  by_cases ho : onceC a.P
  case neg =>
    obtain rfl : r4 = false := by cases r4 with | false => rfl | true => exact absurd (hr4.1 rfl) ho
    go_wp2_with fail
    refine (awake_any _).mono ?_
    rintro e wx ⟨rfl, hbx⟩
    go_wp2_with fail
    go_ret
    exact ⟨rfl, bl_step hw4 hbx⟩
  obtain rfl := hr4.2 ho
  clear hr4
  replace rn := rn.at hw4
  replace ra := ra.at hw4
  replace rb := rb.at hw4
  have n1 := fn.le (by omega : 60 ≤ 1000)
  have a1 := fa.le (by omega : 60 ≤ 1000)
  have b1 := fb.le (by omega : 60 ≤ 1000)
  have nab := (mergeN fa fb).le (by omega : 60 + 60 ≤ 1000)
  have nna := (mergeN fn fa).le (by omega : 60 + 60 ≤ 1000)
  have pna := (applyN fn fa).le (by omega : 60 + 60 ≤ 1000)
  have nX := (applyN fn (mergeN fa fb)).le (by omega : 60 + (60 + 60) ≤ 1000)
  have nY := (applyN (applyN fn fa) fb).le (by omega : 60 + 60 + 60 ≤ 1000)
  have nZ := (mergeN (mergeN fn fa) fb).le (by omega : 60 + 60 + 60 ≤ 1000)
  have nW := (mergeN fn (mergeN fa fb)).le (by omega : 60 + (60 + 60) ≤ 1000)
  clear fn fa fb
  go_upto_region 3 with fail
  go_cut [7] from 11 (fun s7 wx => ∃ g h, s7 = .pointer (some ⟨g, 0, none⟩) ∧ w4.heap.size ≤ g ∧ Bk wx g 33 (stV (applyS n (mergeS a b)) h) ∧ StR wx wx.heap.size (applyS n (mergeS a b)) h ∧ StC (applyS n (mergeS a b)) h ∧ Below w4.heap.size w4 wx)
  case first =>
    rename_i J K' hJ hK'
    have hS : ∀ w' : World, Below w4.heap.size w4 w' → (Below w4.heap.size w4 w' ∧ _ ∧ _ ∧ _) := fun w' hq => ⟨hq, Bk.c10 (Bn.be hq), Bk.c10 (Ba.be hq), Bk.c10 (Bb.be hq)⟩
    go_region_held3 (fun w' : World => Below w4.heap.size w4 w' ∧ (w'.cell? ⟨w.heap.size, 0, none⟩ = some (.bool (n).att) ∧ w'.cell? ⟨w.heap.size, 1, none⟩ = some (.int .i64 (n).buf) ∧ w'.cell? ⟨w.heap.size, 2, none⟩ = some (.slice (hn).dA (n).D.length (hn).dc) ∧ w'.cell? ⟨w.heap.size, 3, none⟩ = some (.slice (hn).fA (n).F.length (hn).fc) ∧ w'.cell? ⟨w.heap.size, 4, none⟩ = some (.bool (n).inp) ∧ w'.cell? ⟨w.heap.size, 5, none⟩ = some (.bool (n).all) ∧ w'.cell? ⟨w.heap.size, 6, none⟩ = some (.slice (hn).rA (n).R.length (hn).rc) ∧ w'.cell? ⟨w.heap.size, 7, none⟩ = some (.bool (n).ord) ∧ w'.cell? ⟨w.heap.size, 8, none⟩ = some (.slice (hn).oA (n).O.length (hn).oc) ∧ w'.cell? ⟨w.heap.size, 9, none⟩ = some (.slice (hn).pA (n).P.length (hn).pc)) ∧ (w'.cell? ⟨w.heap.size + 1, 0, none⟩ = some (.bool (a).att) ∧ w'.cell? ⟨w.heap.size + 1, 1, none⟩ = some (.int .i64 (a).buf) ∧ w'.cell? ⟨w.heap.size + 1, 2, none⟩ = some (.slice (ha).dA (a).D.length (ha).dc) ∧ w'.cell? ⟨w.heap.size + 1, 3, none⟩ = some (.slice (ha).fA (a).F.length (ha).fc) ∧ w'.cell? ⟨w.heap.size + 1, 4, none⟩ = some (.bool (a).inp) ∧ w'.cell? ⟨w.heap.size + 1, 5, none⟩ = some (.bool (a).all) ∧ w'.cell? ⟨w.heap.size + 1, 6, none⟩ = some (.slice (ha).rA (a).R.length (ha).rc) ∧ w'.cell? ⟨w.heap.size + 1, 7, none⟩ = some (.bool (a).ord) ∧ w'.cell? ⟨w.heap.size + 1, 8, none⟩ = some (.slice (ha).oA (a).O.length (ha).oc) ∧ w'.cell? ⟨w.heap.size + 1, 9, none⟩ = some (.slice (ha).pA (a).P.length (ha).pc)) ∧ (w'.cell? ⟨w.heap.size + 1 + 1, 0, none⟩ = some (.bool (b).att) ∧ w'.cell? ⟨w.heap.size + 1 + 1, 1, none⟩ = some (.int .i64 (b).buf) ∧ w'.cell? ⟨w.heap.size + 1 + 1, 2, none⟩ = some (.slice (hb).dA (b).D.length (hb).dc) ∧ w'.cell? ⟨w.heap.size + 1 + 1, 3, none⟩ = some (.slice (hb).fA (b).F.length (hb).fc) ∧ w'.cell? ⟨w.heap.size + 1 + 1, 4, none⟩ = some (.bool (b).inp) ∧ w'.cell? ⟨w.heap.size + 1 + 1, 5, none⟩ = some (.bool (b).all) ∧ w'.cell? ⟨w.heap.size + 1 + 1, 6, none⟩ = some (.slice (hb).rA (b).R.length (hb).rc) ∧ w'.cell? ⟨w.heap.size + 1 + 1, 7, none⟩ = some (.bool (b).ord) ∧ w'.cell? ⟨w.heap.size + 1 + 1, 8, none⟩ = some (.slice (hb).oA (b).O.length (hb).oc) ∧ w'.cell? ⟨w.heap.size + 1 + 1, 9, none⟩ = some (.slice (hb).pA (b).P.length (hb).pc))) (exact hS _ (by repeat (first | (with_reducible exact Below.refl _ _) | (with_reducible assumption) | (with_reducible apply bl_alloc) | (with_reducible apply bl_drew) | (with_reducible refine bl_set10 ?_ (by omega) _ _ _ _ _ _ _ _ _ _) | (with_reducible refine bl_step ?_ (by assumption))))) (first
      | (go_at_call 13; refine (merge_O a b ha hb _ (ra.at (by repeat (first | (with_reducible exact Below.refl _ _) | (with_reducible assumption) | (with_reducible apply bl_alloc) | (with_reducible apply bl_drew) | (with_reducible refine bl_set10 ?_ (by omega) _ _ _ _ _ _ _ _ _ _) | (with_reducible refine bl_step ?_ (by assumption))))) (rb.at (by repeat (first | (with_reducible exact Below.refl _ _) | (with_reducible assumption) | (with_reducible apply bl_alloc) | (with_reducible apply bl_drew) | (with_reducible refine bl_set10 ?_ (by omega) _ _ _ _ _ _ _ _ _ _) | (with_reducible refine bl_step ?_ (by assumption))))) a1 b1).mono ?_; rintro e u1 ⟨e1, rfl, hOu1, hqu1⟩; have yu1 : Below w4.heap.size w4 u1 := (by repeat (first | (with_reducible exact Below.refl _ _) | (with_reducible assumption) | (with_reducible apply bl_alloc) | (with_reducible apply bl_drew) | (with_reducible refine bl_set10 ?_ (by omega) _ _ _ _ _ _ _ _ _ _) | (with_reducible refine bl_step ?_ (by assumption)))); have zu1 := yu1.size; try (have HB1 : Bk u1 w4.heap.size 33 (stV zS zH) := (by first | exact (Bk.new _ _ _).be hqu1 | exact (Bk.new _ _ _).dr.be hqu1)))
      | (go_at_call 12; refine (apply_O n (mergeS a b) hn e1 _ (rn.at (by repeat (first | (with_reducible exact Below.refl _ _) | (with_reducible assumption) | (with_reducible apply bl_alloc) | (with_reducible apply bl_drew) | (with_reducible refine bl_set10 ?_ (by omega) _ _ _ _ _ _ _ _ _ _) | (with_reducible refine bl_step ?_ (by assumption))))) (hOu1.rd.at (by repeat (first | (with_reducible exact Below.refl _ _) | (with_reducible assumption) | (with_reducible apply bl_alloc) | (with_reducible apply bl_drew) | (with_reducible refine bl_set10 ?_ (by omega) _ _ _ _ _ _ _ _ _ _) | (with_reducible refine bl_step ?_ (by assumption))))) n1 nab).mono ?_; rintro e u2 ⟨e2, rfl, hOu2, hqu2⟩; have yu2 : Below w4.heap.size w4 u2 := (by repeat (first | (with_reducible exact Below.refl _ _) | (with_reducible assumption) | (with_reducible apply bl_alloc) | (with_reducible apply bl_drew) | (with_reducible refine bl_set10 ?_ (by omega) _ _ _ _ _ _ _ _ _ _) | (with_reducible refine bl_step ?_ (by assumption)))); have zu2 := yu2.size; try (first | (have HB2 := HB1.be hqu2) | (have HB2 : Bk u2 u1.heap.size 33 (stV zS zH) := (by first | exact (Bk.new _ _ _).be hqu2 | exact (Bk.new _ _ _).dr.be hqu2))); try (obtain ⟨q0, q1, q2, q3, q4, q5, q6, q7, q8, q9⟩ := Bk.c10 HB2; have qz := HB2.fz)))
    all_goals (refine hK' _ _ (Met.intro (hJ _ _ ?_)); (repeat apply Exists.intro); refine ⟨?_, rfl⟩)
    all_goals refine ⟨_, e2, rfl, by omega, ?_⟩
    all_goals (first | (with_reducible exact put_new hOu2 yu2) | (with_reducible exact put_state HB2 hOu2 yu2 (by omega)))
  case rest =>
  obtain ⟨g7, h7, rfl, l7, B7, R7, C7, hq⟩ := hcut
  obtain ⟨w5, rfl⟩ : ∃ x : World, x = wc := ⟨_, rfl⟩
  replace Bn := Bn.be hq
  replace Ba := Ba.be hq
  replace Bb := Bb.be hq
  replace rn := rn.at hq
  replace ra := ra.at hq
  replace rb := rb.at hq
  have hw5 := bl_step hw4 hq
  clear hq l7 hw4
  go_upto_region 4 with fail
  go_cut [8] from 11 (fun s8 wx => ∃ g h, s8 = .pointer (some ⟨g, 0, none⟩) ∧ w5.heap.size ≤ g ∧ Bk wx g 33 (stV (applyS (applyS n a) b) h) ∧ StR wx wx.heap.size (applyS (applyS n a) b) h ∧ StC (applyS (applyS n a) b) h ∧ Below w5.heap.size w5 wx)
  case first =>
    rename_i J K' hJ hK'
    have hS : ∀ w' : World, Below w5.heap.size w5 w' → (Below w5.heap.size w5 w' ∧ _ ∧ _ ∧ _) := fun w' hq => ⟨hq, Bk.c10 (Bn.be hq), Bk.c10 (Ba.be hq), Bk.c10 (Bb.be hq)⟩
    go_region_held3 (fun w' : World => Below w5.heap.size w5 w' ∧ (w'.cell? ⟨w.heap.size, 0, none⟩ = some (.bool (n).att) ∧ w'.cell? ⟨w.heap.size, 1, none⟩ = some (.int .i64 (n).buf) ∧ w'.cell? ⟨w.heap.size, 2, none⟩ = some (.slice (hn).dA (n).D.length (hn).dc) ∧ w'.cell? ⟨w.heap.size, 3, none⟩ = some (.slice (hn).fA (n).F.length (hn).fc) ∧ w'.cell? ⟨w.heap.size, 4, none⟩ = some (.bool (n).inp) ∧ w'.cell? ⟨w.heap.size, 5, none⟩ = some (.bool (n).all) ∧ w'.cell? ⟨w.heap.size, 6, none⟩ = some (.slice (hn).rA (n).R.length (hn).rc) ∧ w'.cell? ⟨w.heap.size, 7, none⟩ = some (.bool (n).ord) ∧ w'.cell? ⟨w.heap.size, 8, none⟩ = some (.slice (hn).oA (n).O.length (hn).oc) ∧ w'.cell? ⟨w.heap.size, 9, none⟩ = some (.slice (hn).pA (n).P.length (hn).pc)) ∧ (w'.cell? ⟨w.heap.size + 1, 0, none⟩ = some (.bool (a).att) ∧ w'.cell? ⟨w.heap.size + 1, 1, none⟩ = some (.int .i64 (a).buf) ∧ w'.cell? ⟨w.heap.size + 1, 2, none⟩ = some (.slice (ha).dA (a).D.length (ha).dc) ∧ w'.cell? ⟨w.heap.size + 1, 3, none⟩ = some (.slice (ha).fA (a).F.length (ha).fc) ∧ w'.cell? ⟨w.heap.size + 1, 4, none⟩ = some (.bool (a).inp) ∧ w'.cell? ⟨w.heap.size + 1, 5, none⟩ = some (.bool (a).all) ∧ w'.cell? ⟨w.heap.size + 1, 6, none⟩ = some (.slice (ha).rA (a).R.length (ha).rc) ∧ w'.cell? ⟨w.heap.size + 1, 7, none⟩ = some (.bool (a).ord) ∧ w'.cell? ⟨w.heap.size + 1, 8, none⟩ = some (.slice (ha).oA (a).O.length (ha).oc) ∧ w'.cell? ⟨w.heap.size + 1, 9, none⟩ = some (.slice (ha).pA (a).P.length (ha).pc)) ∧ (w'.cell? ⟨w.heap.size + 1 + 1, 0, none⟩ = some (.bool (b).att) ∧ w'.cell? ⟨w.heap.size + 1 + 1, 1, none⟩ = some (.int .i64 (b).buf) ∧ w'.cell? ⟨w.heap.size + 1 + 1, 2, none⟩ = some (.slice (hb).dA (b).D.length (hb).dc) ∧ w'.cell? ⟨w.heap.size + 1 + 1, 3, none⟩ = some (.slice (hb).fA (b).F.length (hb).fc) ∧ w'.cell? ⟨w.heap.size + 1 + 1, 4, none⟩ = some (.bool (b).inp) ∧ w'.cell? ⟨w.heap.size + 1 + 1, 5, none⟩ = some (.bool (b).all) ∧ w'.cell? ⟨w.heap.size + 1 + 1, 6, none⟩ = some (.slice (hb).rA (b).R.length (hb).rc) ∧ w'.cell? ⟨w.heap.size + 1 + 1, 7, none⟩ = some (.bool (b).ord) ∧ w'.cell? ⟨w.heap.size + 1 + 1, 8, none⟩ = some (.slice (hb).oA (b).O.length (hb).oc) ∧ w'.cell? ⟨w.heap.size + 1 + 1, 9, none⟩ = some (.slice (hb).pA (b).P.length (hb).pc))) (exact hS _ (by repeat (first | (with_reducible exact Below.refl _ _) | (with_reducible assumption) | (with_reducible apply bl_alloc) | (with_reducible apply bl_drew) | (with_reducible refine bl_set10 ?_ (by omega) _ _ _ _ _ _ _ _ _ _) | (with_reducible refine bl_step ?_ (by assumption))))) (first
      | (go_at_call_of 12 hn.dA; go_at_call 12; refine (apply_O n a hn ha _ (rn.at (by repeat (first | (with_reducible exact Below.refl _ _) | (with_reducible assumption) | (with_reducible apply bl_alloc) | (with_reducible apply bl_drew) | (with_reducible refine bl_set10 ?_ (by omega) _ _ _ _ _ _ _ _ _ _) | (with_reducible refine bl_step ?_ (by assumption))))) (ra.at (by repeat (first | (with_reducible exact Below.refl _ _) | (with_reducible assumption) | (with_reducible apply bl_alloc) | (with_reducible apply bl_drew) | (with_reducible refine bl_set10 ?_ (by omega) _ _ _ _ _ _ _ _ _ _) | (with_reducible refine bl_step ?_ (by assumption))))) n1 a1).mono ?_; rintro e u1 ⟨e1, rfl, hOu1, hqu1⟩; have yu1 : Below w5.heap.size w5 u1 := (by repeat (first | (with_reducible exact Below.refl _ _) | (with_reducible assumption) | (with_reducible apply bl_alloc) | (with_reducible apply bl_drew) | (with_reducible refine bl_set10 ?_ (by omega) _ _ _ _ _ _ _ _ _ _) | (with_reducible refine bl_step ?_ (by assumption)))); have zu1 := yu1.size; try (have HB1 : Bk u1 w5.heap.size 33 (stV zS zH) := (by first | exact (Bk.new _ _ _).be hqu1 | exact (Bk.new _ _ _).dr.be hqu1)))
      | (go_at_call 12; refine (apply_O (applyS n a) b e1 hb _ (hOu1.rd.at (by repeat (first | (with_reducible exact Below.refl _ _) | (with_reducible assumption) | (with_reducible apply bl_alloc) | (with_reducible apply bl_drew) | (with_reducible refine bl_set10 ?_ (by omega) _ _ _ _ _ _ _ _ _ _) | (with_reducible refine bl_step ?_ (by assumption))))) (rb.at (by repeat (first | (with_reducible exact Below.refl _ _) | (with_reducible assumption) | (with_reducible apply bl_alloc) | (with_reducible apply bl_drew) | (with_reducible refine bl_set10 ?_ (by omega) _ _ _ _ _ _ _ _ _ _) | (with_reducible refine bl_step ?_ (by assumption))))) pna b1).mono ?_; rintro e u2 ⟨e2, rfl, hOu2, hqu2⟩; have yu2 : Below w5.heap.size w5 u2 := (by repeat (first | (with_reducible exact Below.refl _ _) | (with_reducible assumption) | (with_reducible apply bl_alloc) | (with_reducible apply bl_drew) | (with_reducible refine bl_set10 ?_ (by omega) _ _ _ _ _ _ _ _ _ _) | (with_reducible refine bl_step ?_ (by assumption)))); have zu2 := yu2.size; try (first | (have HB2 := HB1.be hqu2) | (have HB2 : Bk u2 u1.heap.size 33 (stV zS zH) := (by first | exact (Bk.new _ _ _).be hqu2 | exact (Bk.new _ _ _).dr.be hqu2))); try (obtain ⟨q0, q1, q2, q3, q4, q5, q6, q7, q8, q9⟩ := Bk.c10 HB2; have qz := HB2.fz)))
    all_goals (refine hK' _ _ (Met.intro (hJ _ _ ?_)); (repeat apply Exists.intro); refine ⟨?_, rfl⟩)
    all_goals refine ⟨_, e2, rfl, by omega, ?_⟩
    all_goals (first | (with_reducible exact put_new hOu2 yu2) | (with_reducible exact put_state HB2 hOu2 yu2 (by omega)))
  case rest =>
  obtain ⟨g8, h8, rfl, l8, B8, R8, C8, hq⟩ := hcut
  obtain ⟨w6, rfl⟩ : ∃ x : World, x = wc := ⟨_, rfl⟩
  replace Bn := Bn.be hq
  replace Ba := Ba.be hq
  replace Bb := Bb.be hq
  replace rn := rn.at hq
  replace ra := ra.at hq
  replace rb := rb.at hq
  have hw6 := bl_step hw5 hq
  replace B7 := B7.be hq
  replace R7 := R7.at hq
  clear hq l8 hw5
  go_upto_region 5 with fail
  go_cut [9] from 11 (fun s9 wx => ∃ g h, s9 = .pointer (some ⟨g, 0, none⟩) ∧ w6.heap.size ≤ g ∧ Bk wx g 33 (stV (mergeS (mergeS n a) b) h) ∧ StR wx wx.heap.size (mergeS (mergeS n a) b) h ∧ StC (mergeS (mergeS n a) b) h ∧ Below w6.heap.size w6 wx)
  case first =>
    rename_i J K' hJ hK'
    have hS : ∀ w' : World, Below w6.heap.size w6 w' → (Below w6.heap.size w6 w' ∧ _ ∧ _ ∧ _) := fun w' hq => ⟨hq, Bk.c10 (Bn.be hq), Bk.c10 (Ba.be hq), Bk.c10 (Bb.be hq)⟩
    go_region_held3 (fun w' : World => Below w6.heap.size w6 w' ∧ (w'.cell? ⟨w.heap.size, 0, none⟩ = some (.bool (n).att) ∧ w'.cell? ⟨w.heap.size, 1, none⟩ = some (.int .i64 (n).buf) ∧ w'.cell? ⟨w.heap.size, 2, none⟩ = some (.slice (hn).dA (n).D.length (hn).dc) ∧ w'.cell? ⟨w.heap.size, 3, none⟩ = some (.slice (hn).fA (n).F.length (hn).fc) ∧ w'.cell? ⟨w.heap.size, 4, none⟩ = some (.bool (n).inp) ∧ w'.cell? ⟨w.heap.size, 5, none⟩ = some (.bool (n).all) ∧ w'.cell? ⟨w.heap.size, 6, none⟩ = some (.slice (hn).rA (n).R.length (hn).rc) ∧ w'.cell? ⟨w.heap.size, 7, none⟩ = some (.bool (n).ord) ∧ w'.cell? ⟨w.heap.size, 8, none⟩ = some (.slice (hn).oA (n).O.length (hn).oc) ∧ w'.cell? ⟨w.heap.size, 9, none⟩ = some (.slice (hn).pA (n).P.length (hn).pc)) ∧ (w'.cell? ⟨w.heap.size + 1, 0, none⟩ = some (.bool (a).att) ∧ w'.cell? ⟨w.heap.size + 1, 1, none⟩ = some (.int .i64 (a).buf) ∧ w'.cell? ⟨w.heap.size + 1, 2, none⟩ = some (.slice (ha).dA (a).D.length (ha).dc) ∧ w'.cell? ⟨w.heap.size + 1, 3, none⟩ = some (.slice (ha).fA (a).F.length (ha).fc) ∧ w'.cell? ⟨w.heap.size + 1, 4, none⟩ = some (.bool (a).inp) ∧ w'.cell? ⟨w.heap.size + 1, 5, none⟩ = some (.bool (a).all) ∧ w'.cell? ⟨w.heap.size + 1, 6, none⟩ = some (.slice (ha).rA (a).R.length (ha).rc) ∧ w'.cell? ⟨w.heap.size + 1, 7, none⟩ = some (.bool (a).ord) ∧ w'.cell? ⟨w.heap.size + 1, 8, none⟩ = some (.slice (ha).oA (a).O.length (ha).oc) ∧ w'.cell? ⟨w.heap.size + 1, 9, none⟩ = some (.slice (ha).pA (a).P.length (ha).pc)) ∧ (w'.cell? ⟨w.heap.size + 1 + 1, 0, none⟩ = some (.bool (b).att) ∧ w'.cell? ⟨w.heap.size + 1 + 1, 1, none⟩ = some (.int .i64 (b).buf) ∧ w'.cell? ⟨w.heap.size + 1 + 1, 2, none⟩ = some (.slice (hb).dA (b).D.length (hb).dc) ∧ w'.cell? ⟨w.heap.size + 1 + 1, 3, none⟩ = some (.slice (hb).fA (b).F.length (hb).fc) ∧ w'.cell? ⟨w.heap.size + 1 + 1, 4, none⟩ = some (.bool (b).inp) ∧ w'.cell? ⟨w.heap.size + 1 + 1, 5, none⟩ = some (.bool (b).all) ∧ w'.cell? ⟨w.heap.size + 1 + 1, 6, none⟩ = some (.slice (hb).rA (b).R.length (hb).rc) ∧ w'.cell? ⟨w.heap.size + 1 + 1, 7, none⟩ = some (.bool (b).ord) ∧ w'.cell? ⟨w.heap.size + 1 + 1, 8, none⟩ = some (.slice (hb).oA (b).O.length (hb).oc) ∧ w'.cell? ⟨w.heap.size + 1 + 1, 9, none⟩ = some (.slice (hb).pA (b).P.length (hb).pc))) (exact hS _ (by repeat (first | (with_reducible exact Below.refl _ _) | (with_reducible assumption) | (with_reducible apply bl_alloc) | (with_reducible apply bl_drew) | (with_reducible refine bl_set10 ?_ (by omega) _ _ _ _ _ _ _ _ _ _) | (with_reducible refine bl_step ?_ (by assumption))))) (first
      | (go_at_call_of 13 hn.dA; go_at_call 13; refine (merge_O n a hn ha _ (rn.at (by repeat (first | (with_reducible exact Below.refl _ _) | (with_reducible assumption) | (with_reducible apply bl_alloc) | (with_reducible apply bl_drew) | (with_reducible refine bl_set10 ?_ (by omega) _ _ _ _ _ _ _ _ _ _) | (with_reducible refine bl_step ?_ (by assumption))))) (ra.at (by repeat (first | (with_reducible exact Below.refl _ _) | (with_reducible assumption) | (with_reducible apply bl_alloc) | (with_reducible apply bl_drew) | (with_reducible refine bl_set10 ?_ (by omega) _ _ _ _ _ _ _ _ _ _) | (with_reducible refine bl_step ?_ (by assumption))))) n1 a1).mono ?_; rintro e u1 ⟨e1, rfl, hOu1, hqu1⟩; have yu1 : Below w6.heap.size w6 u1 := (by repeat (first | (with_reducible exact Below.refl _ _) | (with_reducible assumption) | (with_reducible apply bl_alloc) | (with_reducible apply bl_drew) | (with_reducible refine bl_set10 ?_ (by omega) _ _ _ _ _ _ _ _ _ _) | (with_reducible refine bl_step ?_ (by assumption)))); have zu1 := yu1.size; try (have HB1 : Bk u1 w6.heap.size 33 (stV zS zH) := (by first | exact (Bk.new _ _ _).be hqu1 | exact (Bk.new _ _ _).dr.be hqu1)))
      | (go_at_call 13; refine (merge_O (mergeS n a) b e1 hb _ (hOu1.rd.at (by repeat (first | (with_reducible exact Below.refl _ _) | (with_reducible assumption) | (with_reducible apply bl_alloc) | (with_reducible apply bl_drew) | (with_reducible refine bl_set10 ?_ (by omega) _ _ _ _ _ _ _ _ _ _) | (with_reducible refine bl_step ?_ (by assumption))))) (rb.at (by repeat (first | (with_reducible exact Below.refl _ _) | (with_reducible assumption) | (with_reducible apply bl_alloc) | (with_reducible apply bl_drew) | (with_reducible refine bl_set10 ?_ (by omega) _ _ _ _ _ _ _ _ _ _) | (with_reducible refine bl_step ?_ (by assumption))))) nna b1).mono ?_; rintro e u2 ⟨e2, rfl, hOu2, hqu2⟩; have yu2 : Below w6.heap.size w6 u2 := (by repeat (first | (with_reducible exact Below.refl _ _) | (with_reducible assumption) | (with_reducible apply bl_alloc) | (with_reducible apply bl_drew) | (with_reducible refine bl_set10 ?_ (by omega) _ _ _ _ _ _ _ _ _ _) | (with_reducible refine bl_step ?_ (by assumption)))); have zu2 := yu2.size; try (first | (have HB2 := HB1.be hqu2) | (have HB2 : Bk u2 u1.heap.size 33 (stV zS zH) := (by first | exact (Bk.new _ _ _).be hqu2 | exact (Bk.new _ _ _).dr.be hqu2))); try (obtain ⟨q0, q1, q2, q3, q4, q5, q6, q7, q8, q9⟩ := Bk.c10 HB2; have qz := HB2.fz)))
    all_goals (refine hK' _ _ (Met.intro (hJ _ _ ?_)); (repeat apply Exists.intro); refine ⟨?_, rfl⟩)
    all_goals refine ⟨_, e2, rfl, by omega, ?_⟩
    all_goals (first | (with_reducible exact put_new hOu2 yu2) | (with_reducible exact put_state HB2 hOu2 yu2 (by omega)))
  case rest =>
  obtain ⟨g9, h9, rfl, l9, B9, R9, C9, hq⟩ := hcut
  obtain ⟨w7, rfl⟩ : ∃ x : World, x = wc := ⟨_, rfl⟩
  replace Bn := Bn.be hq
  replace Ba := Ba.be hq
  replace Bb := Bb.be hq
  replace rn := rn.at hq
  replace ra := ra.at hq
  replace rb := rb.at hq
  have hw7 := bl_step hw6 hq
  replace B7 := B7.be hq
  replace R7 := R7.at hq
  replace B8 := B8.be hq
  replace R8 := R8.at hq
  clear hq l9 hw6
  go_upto_region 6 with fail
  go_cut [10] from 11 (fun s10 wx => ∃ g h, s10 = .pointer (some ⟨g, 0, none⟩) ∧ w7.heap.size ≤ g ∧ Bk wx g 33 (stV (mergeS n (mergeS a b)) h) ∧ StR wx wx.heap.size (mergeS n (mergeS a b)) h ∧ StC (mergeS n (mergeS a b)) h ∧ Below w7.heap.size w7 wx)
  case first =>
    rename_i J K' hJ hK'
    have hS : ∀ w' : World, Below w7.heap.size w7 w' → (Below w7.heap.size w7 w' ∧ _ ∧ _ ∧ _) := fun w' hq => ⟨hq, Bk.c10 (Bn.be hq), Bk.c10 (Ba.be hq), Bk.c10 (Bb.be hq)⟩
    go_region_held3 (fun w' : World => Below w7.heap.size w7 w' ∧ (w'.cell? ⟨w.heap.size, 0, none⟩ = some (.bool (n).att) ∧ w'.cell? ⟨w.heap.size, 1, none⟩ = some (.int .i64 (n).buf) ∧ w'.cell? ⟨w.heap.size, 2, none⟩ = some (.slice (hn).dA (n).D.length (hn).dc) ∧ w'.cell? ⟨w.heap.size, 3, none⟩ = some (.slice (hn).fA (n).F.length (hn).fc) ∧ w'.cell? ⟨w.heap.size, 4, none⟩ = some (.bool (n).inp) ∧ w'.cell? ⟨w.heap.size, 5, none⟩ = some (.bool (n).all) ∧ w'.cell? ⟨w.heap.size, 6, none⟩ = some (.slice (hn).rA (n).R.length (hn).rc) ∧ w'.cell? ⟨w.heap.size, 7, none⟩ = some (.bool (n).ord) ∧ w'.cell? ⟨w.heap.size, 8, none⟩ = some (.slice (hn).oA (n).O.length (hn).oc) ∧ w'.cell? ⟨w.heap.size, 9, none⟩ = some (.slice (hn).pA (n).P.length (hn).pc)) ∧ (w'.cell? ⟨w.heap.size + 1, 0, none⟩ = some (.bool (a).att) ∧ w'.cell? ⟨w.heap.size + 1, 1, none⟩ = some (.int .i64 (a).buf) ∧ w'.cell? ⟨w.heap.size + 1, 2, none⟩ = some (.slice (ha).dA (a).D.length (ha).dc) ∧ w'.cell? ⟨w.heap.size + 1, 3, none⟩ = some (.slice (ha).fA (a).F.length (ha).fc) ∧ w'.cell? ⟨w.heap.size + 1, 4, none⟩ = some (.bool (a).inp) ∧ w'.cell? ⟨w.heap.size + 1, 5, none⟩ = some (.bool (a).all) ∧ w'.cell? ⟨w.heap.size + 1, 6, none⟩ = some (.slice (ha).rA (a).R.length (ha).rc) ∧ w'.cell? ⟨w.heap.size + 1, 7, none⟩ = some (.bool (a).ord) ∧ w'.cell? ⟨w.heap.size + 1, 8, none⟩ = some (.slice (ha).oA (a).O.length (ha).oc) ∧ w'.cell? ⟨w.heap.size + 1, 9, none⟩ = some (.slice (ha).pA (a).P.length (ha).pc)) ∧ (w'.cell? ⟨w.heap.size + 1 + 1, 0, none⟩ = some (.bool (b).att) ∧ w'.cell? ⟨w.heap.size + 1 + 1, 1, none⟩ = some (.int .i64 (b).buf) ∧ w'.cell? ⟨w.heap.size + 1 + 1, 2, none⟩ = some (.slice (hb).dA (b).D.length (hb).dc) ∧ w'.cell? ⟨w.heap.size + 1 + 1, 3, none⟩ = some (.slice (hb).fA (b).F.length (hb).fc) ∧ w'.cell? ⟨w.heap.size + 1 + 1, 4, none⟩ = some (.bool (b).inp) ∧ w'.cell? ⟨w.heap.size + 1 + 1, 5, none⟩ = some (.bool (b).all) ∧ w'.cell? ⟨w.heap.size + 1 + 1, 6, none⟩ = some (.slice (hb).rA (b).R.length (hb).rc) ∧ w'.cell? ⟨w.heap.size + 1 + 1, 7, none⟩ = some (.bool (b).ord) ∧ w'.cell? ⟨w.heap.size + 1 + 1, 8, none⟩ = some (.slice (hb).oA (b).O.length (hb).oc) ∧ w'.cell? ⟨w.heap.size + 1 + 1, 9, none⟩ = some (.slice (hb).pA (b).P.length (hb).pc))) (exact hS _ (by repeat (first | (with_reducible exact Below.refl _ _) | (with_reducible assumption) | (with_reducible apply bl_alloc) | (with_reducible apply bl_drew) | (with_reducible refine bl_set10 ?_ (by omega) _ _ _ _ _ _ _ _ _ _) | (with_reducible refine bl_step ?_ (by assumption))))) (first
      | (go_at_call_of 13 ha.dA; go_at_call 13; refine (merge_O a b ha hb _ (ra.at (by repeat (first | (with_reducible exact Below.refl _ _) | (with_reducible assumption) | (with_reducible apply bl_alloc) | (with_reducible apply bl_drew) | (with_reducible refine bl_set10 ?_ (by omega) _ _ _ _ _ _ _ _ _ _) | (with_reducible refine bl_step ?_ (by assumption))))) (rb.at (by repeat (first | (with_reducible exact Below.refl _ _) | (with_reducible assumption) | (with_reducible apply bl_alloc) | (with_reducible apply bl_drew) | (with_reducible refine bl_set10 ?_ (by omega) _ _ _ _ _ _ _ _ _ _) | (with_reducible refine bl_step ?_ (by assumption))))) a1 b1).mono ?_; rintro e u1 ⟨e1, rfl, hOu1, hqu1⟩; have yu1 : Below w7.heap.size w7 u1 := (by repeat (first | (with_reducible exact Below.refl _ _) | (with_reducible assumption) | (with_reducible apply bl_alloc) | (with_reducible apply bl_drew) | (with_reducible refine bl_set10 ?_ (by omega) _ _ _ _ _ _ _ _ _ _) | (with_reducible refine bl_step ?_ (by assumption)))); have zu1 := yu1.size; try (have HB1 : Bk u1 w7.heap.size 33 (stV zS zH) := (by first | exact (Bk.new _ _ _).be hqu1 | exact (Bk.new _ _ _).dr.be hqu1)))
      | (go_at_call 13; refine (merge_O n (mergeS a b) hn e1 _ (rn.at (by repeat (first | (with_reducible exact Below.refl _ _) | (with_reducible assumption) | (with_reducible apply bl_alloc) | (with_reducible apply bl_drew) | (with_reducible refine bl_set10 ?_ (by omega) _ _ _ _ _ _ _ _ _ _) | (with_reducible refine bl_step ?_ (by assumption))))) (hOu1.rd.at (by repeat (first | (with_reducible exact Below.refl _ _) | (with_reducible assumption) | (with_reducible apply bl_alloc) | (with_reducible apply bl_drew) | (with_reducible refine bl_set10 ?_ (by omega) _ _ _ _ _ _ _ _ _ _) | (with_reducible refine bl_step ?_ (by assumption))))) n1 nab).mono ?_; rintro e u2 ⟨e2, rfl, hOu2, hqu2⟩; have yu2 : Below w7.heap.size w7 u2 := (by repeat (first | (with_reducible exact Below.refl _ _) | (with_reducible assumption) | (with_reducible apply bl_alloc) | (with_reducible apply bl_drew) | (with_reducible refine bl_set10 ?_ (by omega) _ _ _ _ _ _ _ _ _ _) | (with_reducible refine bl_step ?_ (by assumption)))); have zu2 := yu2.size; try (first | (have HB2 := HB1.be hqu2) | (have HB2 : Bk u2 u1.heap.size 33 (stV zS zH) := (by first | exact (Bk.new _ _ _).be hqu2 | exact (Bk.new _ _ _).dr.be hqu2))); try (obtain ⟨q0, q1, q2, q3, q4, q5, q6, q7, q8, q9⟩ := Bk.c10 HB2; have qz := HB2.fz)))
    all_goals (refine hK' _ _ (Met.intro (hJ _ _ ?_)); (repeat apply Exists.intro); refine ⟨?_, rfl⟩)
    all_goals refine ⟨_, e2, rfl, by omega, ?_⟩
    all_goals (first | (with_reducible exact put_new hOu2 yu2) | (with_reducible exact put_state HB2 hOu2 yu2 (by omega)))
  case rest =>
  obtain ⟨g10, h10, rfl, l10, B10, R10, C10, hq⟩ := hcut
  obtain ⟨w8, rfl⟩ : ∃ x : World, x = wc := ⟨_, rfl⟩
  replace Bn := Bn.be hq
  replace Ba := Ba.be hq
  replace Bb := Bb.be hq
  replace rn := rn.at hq
  replace ra := ra.at hq
  replace rb := rb.at hq
  have hw8 := bl_step hw7 hq
  replace B7 := B7.be hq
  replace R7 := R7.at hq
  replace B8 := B8.be hq
  replace R8 := R8.at hq
  replace B9 := B9.be hq
  replace R9 := R9.at hq
  clear hq l10 hw7
  rw [← apply_merge n a b ho] at B8 R8 C8 nY
  rw [merge_assoc n a b ho] at B10 R10 C10 nW
  obtain ⟨X, hX⟩ : ∃ X, applyS n (mergeS a b) = X := ⟨_, rfl⟩
  obtain ⟨Z, hZ⟩ : ∃ Z, mergeS (mergeS n a) b = Z := ⟨_, rfl⟩
  rw [hX] at B7 R7 C7 nX B8 R8 C8 nY
  rw [hZ] at B9 R9 C9 nZ B10 R10 C10 nW
  have f1 := nZ.f
  have f2 := nZ.o
  have hX := Lib.hid hX
  clear hZ ho
  have nZ := Lib.hid nZ
  have nX := Lib.hid nX
  have C7 := Lib.hid C7
  have C8 := Lib.hid C8
  have C9 := Lib.hid C9
  have C10 := Lib.hid C10
  have f1 := Lib.hid f1
  have f2 := Lib.hid f2
  go_upto_region 7 with fail
  have hS : ∀ w' : World, Below w8.heap.size w8 w' → (Below w8.heap.size w8 w' ∧ (w'.cell? ⟨w.heap.size, 0, none⟩ = some (.bool (n).att) ∧ w'.cell? ⟨w.heap.size, 1, none⟩ = some (.int .i64 (n).buf) ∧ w'.cell? ⟨w.heap.size, 2, none⟩ = some (.slice (hn).dA (n).D.length (hn).dc) ∧ w'.cell? ⟨w.heap.size, 3, none⟩ = some (.slice (hn).fA (n).F.length (hn).fc) ∧ w'.cell? ⟨w.heap.size, 4, none⟩ = some (.bool (n).inp) ∧ w'.cell? ⟨w.heap.size, 5, none⟩ = some (.bool (n).all) ∧ w'.cell? ⟨w.heap.size, 6, none⟩ = some (.slice (hn).rA (n).R.length (hn).rc) ∧ w'.cell? ⟨w.heap.size, 7, none⟩ = some (.bool (n).ord) ∧ w'.cell? ⟨w.heap.size, 8, none⟩ = some (.slice (hn).oA (n).O.length (hn).oc) ∧ w'.cell? ⟨w.heap.size, 9, none⟩ = some (.slice (hn).pA (n).P.length (hn).pc)) ∧ (w'.cell? ⟨w.heap.size + 1, 0, none⟩ = some (.bool (a).att) ∧ w'.cell? ⟨w.heap.size + 1, 1, none⟩ = some (.int .i64 (a).buf) ∧ w'.cell? ⟨w.heap.size + 1, 2, none⟩ = some (.slice (ha).dA (a).D.length (ha).dc) ∧ w'.cell? ⟨w.heap.size + 1, 3, none⟩ = some (.slice (ha).fA (a).F.length (ha).fc) ∧ w'.cell? ⟨w.heap.size + 1, 4, none⟩ = some (.bool (a).inp) ∧ w'.cell? ⟨w.heap.size + 1, 5, none⟩ = some (.bool (a).all) ∧ w'.cell? ⟨w.heap.size + 1, 6, none⟩ = some (.slice (ha).rA (a).R.length (ha).rc) ∧ w'.cell? ⟨w.heap.size + 1, 7, none⟩ = some (.bool (a).ord) ∧ w'.cell? ⟨w.heap.size + 1, 8, none⟩ = some (.slice (ha).oA (a).O.length (ha).oc) ∧ w'.cell? ⟨w.heap.size + 1, 9, none⟩ = some (.slice (ha).pA (a).P.length (ha).pc)) ∧ (w'.cell? ⟨w.heap.size + 1 + 1, 0, none⟩ = some (.bool (b).att) ∧ w'.cell? ⟨w.heap.size + 1 + 1, 1, none⟩ = some (.int .i64 (b).buf) ∧ w'.cell? ⟨w.heap.size + 1 + 1, 2, none⟩ = some (.slice (hb).dA (b).D.length (hb).dc) ∧ w'.cell? ⟨w.heap.size + 1 + 1, 3, none⟩ = some (.slice (hb).fA (b).F.length (hb).fc) ∧ w'.cell? ⟨w.heap.size + 1 + 1, 4, none⟩ = some (.bool (b).inp) ∧ w'.cell? ⟨w.heap.size + 1 + 1, 5, none⟩ = some (.bool (b).all) ∧ w'.cell? ⟨w.heap.size + 1 + 1, 6, none⟩ = some (.slice (hb).rA (b).R.length (hb).rc) ∧ w'.cell? ⟨w.heap.size + 1 + 1, 7, none⟩ = some (.bool (b).ord) ∧ w'.cell? ⟨w.heap.size + 1 + 1, 8, none⟩ = some (.slice (hb).oA (b).O.length (hb).oc) ∧ w'.cell? ⟨w.heap.size + 1 + 1, 9, none⟩ = some (.slice (hb).pA (b).P.length (hb).pc)) ∧ (w'.cell? ⟨g7, 0, none⟩ = some (.bool (X).att) ∧ w'.cell? ⟨g7, 1, none⟩ = some (.int .i64 (X).buf) ∧ w'.cell? ⟨g7, 2, none⟩ = some (.slice (h7).dA (X).D.length (h7).dc) ∧ w'.cell? ⟨g7, 3, none⟩ = some (.slice (h7).fA (X).F.length (h7).fc) ∧ w'.cell? ⟨g7, 4, none⟩ = some (.bool (X).inp) ∧ w'.cell? ⟨g7, 5, none⟩ = some (.bool (X).all) ∧ w'.cell? ⟨g7, 6, none⟩ = some (.slice (h7).rA (X).R.length (h7).rc) ∧ w'.cell? ⟨g7, 7, none⟩ = some (.bool (X).ord) ∧ w'.cell? ⟨g7, 8, none⟩ = some (.slice (h7).oA (X).O.length (h7).oc) ∧ w'.cell? ⟨g7, 9, none⟩ = some (.slice (h7).pA (X).P.length (h7).pc)) ∧ (w'.cell? ⟨g8, 0, none⟩ = some (.bool (X).att) ∧ w'.cell? ⟨g8, 1, none⟩ = some (.int .i64 (X).buf) ∧ w'.cell? ⟨g8, 2, none⟩ = some (.slice (h8).dA (X).D.length (h8).dc) ∧ w'.cell? ⟨g8, 3, none⟩ = some (.slice (h8).fA (X).F.length (h8).fc) ∧ w'.cell? ⟨g8, 4, none⟩ = some (.bool (X).inp) ∧ w'.cell? ⟨g8, 5, none⟩ = some (.bool (X).all) ∧ w'.cell? ⟨g8, 6, none⟩ = some (.slice (h8).rA (X).R.length (h8).rc) ∧ w'.cell? ⟨g8, 7, none⟩ = some (.bool (X).ord) ∧ w'.cell? ⟨g8, 8, none⟩ = some (.slice (h8).oA (X).O.length (h8).oc) ∧ w'.cell? ⟨g8, 9, none⟩ = some (.slice (h8).pA (X).P.length (h8).pc)) ∧ (w'.cell? ⟨g9, 1, none⟩ = some (.int .i64 (Z).buf) ∧ w'.cell? ⟨g9, 2, none⟩ = some (.slice (h9).dA (Z).D.length (h9).dc) ∧ w'.cell? ⟨g9, 3, none⟩ = some (.slice (h9).fA (Z).F.length (h9).fc) ∧ w'.cell? ⟨g9, 8, none⟩ = some (.slice (h9).oA (Z).O.length (h9).oc)) ∧ (w'.cell? ⟨g10, 1, none⟩ = some (.int .i64 (Z).buf) ∧ w'.cell? ⟨g10, 2, none⟩ = some (.slice (h10).dA (Z).D.length (h10).dc) ∧ w'.cell? ⟨g10, 3, none⟩ = some (.slice (h10).fA (Z).F.length (h10).fc) ∧ w'.cell? ⟨g10, 8, none⟩ = some (.slice (h10).oA (Z).O.length (h10).oc))) := fun w' hq => ⟨hq, Bk.c10 (Bn.be hq), Bk.c10 (Ba.be hq), Bk.c10 (Bb.be hq), Bk.c10 (B7.be hq), Bk.c10 (B8.be hq), (fun q => ⟨q.2.1, q.2.2.1, q.2.2.2.1, q.2.2.2.2.2.2.2.2.1⟩) (Bk.c10 (B9.be hq)), (fun q => ⟨q.2.1, q.2.2.1, q.2.2.2.1, q.2.2.2.2.2.2.2.2.1⟩) (Bk.c10 (B10.be hq))⟩
  go_region_held3 (fun w' : World => Below w8.heap.size w8 w' ∧ (w'.cell? ⟨w.heap.size, 0, none⟩ = some (.bool (n).att) ∧ w'.cell? ⟨w.heap.size, 1, none⟩ = some (.int .i64 (n).buf) ∧ w'.cell? ⟨w.heap.size, 2, none⟩ = some (.slice (hn).dA (n).D.length (hn).dc) ∧ w'.cell? ⟨w.heap.size, 3, none⟩ = some (.slice (hn).fA (n).F.length (hn).fc) ∧ w'.cell? ⟨w.heap.size, 4, none⟩ = some (.bool (n).inp) ∧ w'.cell? ⟨w.heap.size, 5, none⟩ = some (.bool (n).all) ∧ w'.cell? ⟨w.heap.size, 6, none⟩ = some (.slice (hn).rA (n).R.length (hn).rc) ∧ w'.cell? ⟨w.heap.size, 7, none⟩ = some (.bool (n).ord) ∧ w'.cell? ⟨w.heap.size, 8, none⟩ = some (.slice (hn).oA (n).O.length (hn).oc) ∧ w'.cell? ⟨w.heap.size, 9, none⟩ = some (.slice (hn).pA (n).P.length (hn).pc)) ∧ (w'.cell? ⟨w.heap.size + 1, 0, none⟩ = some (.bool (a).att) ∧ w'.cell? ⟨w.heap.size + 1, 1, none⟩ = some (.int .i64 (a).buf) ∧ w'.cell? ⟨w.heap.size + 1, 2, none⟩ = some (.slice (ha).dA (a).D.length (ha).dc) ∧ w'.cell? ⟨w.heap.size + 1, 3, none⟩ = some (.slice (ha).fA (a).F.length (ha).fc) ∧ w'.cell? ⟨w.heap.size + 1, 4, none⟩ = some (.bool (a).inp) ∧ w'.cell? ⟨w.heap.size + 1, 5, none⟩ = some (.bool (a).all) ∧ w'.cell? ⟨w.heap.size + 1, 6, none⟩ = some (.slice (ha).rA (a).R.length (ha).rc) ∧ w'.cell? ⟨w.heap.size + 1, 7, none⟩ = some (.bool (a).ord) ∧ w'.cell? ⟨w.heap.size + 1, 8, none⟩ = some (.slice (ha).oA (a).O.length (ha).oc) ∧ w'.cell? ⟨w.heap.size + 1, 9, none⟩ = some (.slice (ha).pA (a).P.length (ha).pc)) ∧ (w'.cell? ⟨w.heap.size + 1 + 1, 0, none⟩ = some (.bool (b).att) ∧ w'.cell? ⟨w.heap.size + 1 + 1, 1, none⟩ = some (.int .i64 (b).buf) ∧ w'.cell? ⟨w.heap.size + 1 + 1, 2, none⟩ = some (.slice (hb).dA (b).D.length (hb).dc) ∧ w'.cell? ⟨w.heap.size + 1 + 1, 3, none⟩ = some (.slice (hb).fA (b).F.length (hb).fc) ∧ w'.cell? ⟨w.heap.size + 1 + 1, 4, none⟩ = some (.bool (b).inp) ∧ w'.cell? ⟨w.heap.size + 1 + 1, 5, none⟩ = some (.bool (b).all) ∧ w'.cell? ⟨w.heap.size + 1 + 1, 6, none⟩ = some (.slice (hb).rA (b).R.length (hb).rc) ∧ w'.cell? ⟨w.heap.size + 1 + 1, 7, none⟩ = some (.bool (b).ord) ∧ w'.cell? ⟨w.heap.size + 1 + 1, 8, none⟩ = some (.slice (hb).oA (b).O.length (hb).oc) ∧ w'.cell? ⟨w.heap.size + 1 + 1, 9, none⟩ = some (.slice (hb).pA (b).P.length (hb).pc)) ∧ (w'.cell? ⟨g7, 0, none⟩ = some (.bool (X).att) ∧ w'.cell? ⟨g7, 1, none⟩ = some (.int .i64 (X).buf) ∧ w'.cell? ⟨g7, 2, none⟩ = some (.slice (h7).dA (X).D.length (h7).dc) ∧ w'.cell? ⟨g7, 3, none⟩ = some (.slice (h7).fA (X).F.length (h7).fc) ∧ w'.cell? ⟨g7, 4, none⟩ = some (.bool (X).inp) ∧ w'.cell? ⟨g7, 5, none⟩ = some (.bool (X).all) ∧ w'.cell? ⟨g7, 6, none⟩ = some (.slice (h7).rA (X).R.length (h7).rc) ∧ w'.cell? ⟨g7, 7, none⟩ = some (.bool (X).ord) ∧ w'.cell? ⟨g7, 8, none⟩ = some (.slice (h7).oA (X).O.length (h7).oc) ∧ w'.cell? ⟨g7, 9, none⟩ = some (.slice (h7).pA (X).P.length (h7).pc)) ∧ (w'.cell? ⟨g8, 0, none⟩ = some (.bool (X).att) ∧ w'.cell? ⟨g8, 1, none⟩ = some (.int .i64 (X).buf) ∧ w'.cell? ⟨g8, 2, none⟩ = some (.slice (h8).dA (X).D.length (h8).dc) ∧ w'.cell? ⟨g8, 3, none⟩ = some (.slice (h8).fA (X).F.length (h8).fc) ∧ w'.cell? ⟨g8, 4, none⟩ = some (.bool (X).inp) ∧ w'.cell? ⟨g8, 5, none⟩ = some (.bool (X).all) ∧ w'.cell? ⟨g8, 6, none⟩ = some (.slice (h8).rA (X).R.length (h8).rc) ∧ w'.cell? ⟨g8, 7, none⟩ = some (.bool (X).ord) ∧ w'.cell? ⟨g8, 8, none⟩ = some (.slice (h8).oA (X).O.length (h8).oc) ∧ w'.cell? ⟨g8, 9, none⟩ = some (.slice (h8).pA (X).P.length (h8).pc)) ∧ (w'.cell? ⟨g9, 1, none⟩ = some (.int .i64 (Z).buf) ∧ w'.cell? ⟨g9, 2, none⟩ = some (.slice (h9).dA (Z).D.length (h9).dc) ∧ w'.cell? ⟨g9, 3, none⟩ = some (.slice (h9).fA (Z).F.length (h9).fc) ∧ w'.cell? ⟨g9, 8, none⟩ = some (.slice (h9).oA (Z).O.length (h9).oc)) ∧ (w'.cell? ⟨g10, 1, none⟩ = some (.int .i64 (Z).buf) ∧ w'.cell? ⟨g10, 2, none⟩ = some (.slice (h10).dA (Z).D.length (h10).dc) ∧ w'.cell? ⟨g10, 3, none⟩ = some (.slice (h10).fA (Z).F.length (h10).fc) ∧ w'.cell? ⟨g10, 8, none⟩ = some (.slice (h10).oA (Z).O.length (h10).oc))) (exact hS _ (by repeat (first | (with_reducible exact Below.refl _ _) | (with_reducible assumption) | (with_reducible apply bl_alloc) | (with_reducible apply bl_drew) | (with_reducible refine bl_set10 ?_ (by omega) _ _ _ _ _ _ _ _ _ _) | (with_reducible refine bl_step ?_ (by assumption))))) (first
    | (go_at_call_of 14 h8.dA; refine (same_any X X h7 h8 _ (R7.at (by repeat (first | (with_reducible exact Below.refl _ _) | (with_reducible assumption) | (with_reducible apply bl_alloc) | (with_reducible apply bl_drew) | (with_reducible refine bl_set10 ?_ (by omega) _ _ _ _ _ _ _ _ _ _) | (with_reducible refine bl_step ?_ (by assumption))))) (R8.at (by repeat (first | (with_reducible exact Below.refl _ _) | (with_reducible assumption) | (with_reducible apply bl_alloc) | (with_reducible apply bl_drew) | (with_reducible refine bl_set10 ?_ (by omega) _ _ _ _ _ _ _ _ _ _) | (with_reducible refine bl_step ?_ (by assumption))))) C7.out C8.out nX.out nX.out).mono ?_; rintro e u1 ⟨⟨r1, rfl, hr1⟩, hqu1⟩; obtain rfl := hr1.2 rfl; have yu1 : Below w8.heap.size w8 u1 := (by repeat (first | (with_reducible exact Below.refl _ _) | (with_reducible assumption) | (with_reducible apply bl_alloc) | (with_reducible apply bl_drew) | (with_reducible refine bl_set10 ?_ (by omega) _ _ _ _ _ _ _ _ _ _) | (with_reducible refine bl_step ?_ (by assumption)))))
    | (go_at_call_of 15 h9.fA; refine (sameInts_any h9.fA h10.fA h9.fc h10.fc Z.F Z.F _ (R9.at (by repeat (first | (with_reducible exact Below.refl _ _) | (with_reducible assumption) | (with_reducible apply bl_alloc) | (with_reducible apply bl_drew) | (with_reducible refine bl_set10 ?_ (by omega) _ _ _ _ _ _ _ _ _ _) | (with_reducible refine bl_step ?_ (by assumption))))).f (R10.at (by repeat (first | (with_reducible exact Below.refl _ _) | (with_reducible assumption) | (with_reducible apply bl_alloc) | (with_reducible apply bl_drew) | (with_reducible refine bl_set10 ?_ (by omega) _ _ _ _ _ _ _ _ _ _) | (with_reducible refine bl_step ?_ (by assumption))))).f C9.out.f C10.out.f f1.out f1.out).mono ?_; rintro e u2 ⟨⟨r2, rfl, hr2⟩, hqu2⟩; obtain rfl := hr2.2 rfl; have yu2 : Below w8.heap.size w8 u2 := (by repeat (first | (with_reducible exact Below.refl _ _) | (with_reducible assumption) | (with_reducible apply bl_alloc) | (with_reducible apply bl_drew) | (with_reducible refine bl_set10 ?_ (by omega) _ _ _ _ _ _ _ _ _ _) | (with_reducible refine bl_step ?_ (by assumption)))))
    | (go_at_call_of 15 h9.oA; refine (sameInts_any h9.oA h10.oA h9.oc h10.oc Z.O Z.O _ (R9.at (by repeat (first | (with_reducible exact Below.refl _ _) | (with_reducible assumption) | (with_reducible apply bl_alloc) | (with_reducible apply bl_drew) | (with_reducible refine bl_set10 ?_ (by omega) _ _ _ _ _ _ _ _ _ _) | (with_reducible refine bl_step ?_ (by assumption))))).o (R10.at (by repeat (first | (with_reducible exact Below.refl _ _) | (with_reducible assumption) | (with_reducible apply bl_alloc) | (with_reducible apply bl_drew) | (with_reducible refine bl_set10 ?_ (by omega) _ _ _ _ _ _ _ _ _ _) | (with_reducible refine bl_step ?_ (by assumption))))).o C9.out.o C10.out.o f2.out f2.out).mono ?_; rintro e u3 ⟨⟨r3, rfl, hr3⟩, hqu3⟩; obtain rfl := hr3.2 rfl; have yu3 : Below w8.heap.size w8 u3 := (by repeat (first | (with_reducible exact Below.refl _ _) | (with_reducible assumption) | (with_reducible apply bl_alloc) | (with_reducible apply bl_drew) | (with_reducible refine bl_set10 ?_ (by omega) _ _ _ _ _ _ _ _ _ _) | (with_reducible refine bl_step ?_ (by assumption)))))
    | (go_at_call 17; refine (rmerge_any a b ha hb _ (ra.at (by repeat (first | (with_reducible exact Below.refl _ _) | (with_reducible assumption) | (with_reducible apply bl_alloc) | (with_reducible apply bl_drew) | (with_reducible refine bl_set10 ?_ (by omega) _ _ _ _ _ _ _ _ _ _) | (with_reducible refine bl_step ?_ (by assumption))))) (rb.at (by repeat (first | (with_reducible exact Below.refl _ _) | (with_reducible assumption) | (with_reducible apply bl_alloc) | (with_reducible apply bl_drew) | (with_reducible refine bl_set10 ?_ (by omega) _ _ _ _ _ _ _ _ _ _) | (with_reducible refine bl_step ?_ (by assumption))))) a1 b1).mono ?_; rintro e u4 ⟨h4, rfl, hO4, hqu4⟩; have yu4 : Below w8.heap.size w8 u4 := (by repeat (first | (with_reducible exact Below.refl _ _) | (with_reducible assumption) | (with_reducible apply bl_alloc) | (with_reducible apply bl_drew) | (with_reducible refine bl_set10 ?_ (by omega) _ _ _ _ _ _ _ _ _ _) | (with_reducible refine bl_step ?_ (by assumption)))))
    | (go_at_call 16; refine (rapply_O n (mergeS a b) hn h4 _ (rn.at (by repeat (first | (with_reducible exact Below.refl _ _) | (with_reducible assumption) | (with_reducible apply bl_alloc) | (with_reducible apply bl_drew) | (with_reducible refine bl_set10 ?_ (by omega) _ _ _ _ _ _ _ _ _ _) | (with_reducible refine bl_step ?_ (by assumption))))) (hO4.rd.at (by repeat (first | (with_reducible exact Below.refl _ _) | (with_reducible assumption) | (with_reducible apply bl_alloc) | (with_reducible apply bl_drew) | (with_reducible refine bl_set10 ?_ (by omega) _ _ _ _ _ _ _ _ _ _) | (with_reducible refine bl_step ?_ (by assumption))))) n1 nab).mono ?_; rintro e u5 ⟨h5, rfl, hO5, hqu5⟩; have yu5 : Below w8.heap.size w8 u5 := (by repeat (first | (with_reducible exact Below.refl _ _) | (with_reducible assumption) | (with_reducible apply bl_alloc) | (with_reducible apply bl_drew) | (with_reducible refine bl_set10 ?_ (by omega) _ _ _ _ _ _ _ _ _ _) | (with_reducible refine bl_step ?_ (by assumption)))); rw [hX.out] at hO5 ⊢; have hO5 := Lib.hid hO5)
    | (go_at_call 14; refine (same_any X X h7 h5 _ (R7.at (by repeat (first | (with_reducible exact Below.refl _ _) | (with_reducible assumption) | (with_reducible apply bl_alloc) | (with_reducible apply bl_drew) | (with_reducible refine bl_set10 ?_ (by omega) _ _ _ _ _ _ _ _ _ _) | (with_reducible refine bl_step ?_ (by assumption))))) (hO5.out.rd.at (by repeat (first | (with_reducible exact Below.refl _ _) | (with_reducible assumption) | (with_reducible apply bl_alloc) | (with_reducible apply bl_drew) | (with_reducible refine bl_set10 ?_ (by omega) _ _ _ _ _ _ _ _ _ _) | (with_reducible refine bl_step ?_ (by assumption))))) C7.out hO5.out.cp nX.out nX.out).mono ?_; rintro e u6 ⟨⟨r6, rfl, hr6⟩, hqu6⟩; obtain rfl := hr6.2 rfl; have yu6 : Below w8.heap.size w8 u6 := (by repeat (first | (with_reducible exact Below.refl _ _) | (with_reducible assumption) | (with_reducible apply bl_alloc) | (with_reducible apply bl_drew) | (with_reducible refine bl_set10 ?_ (by omega) _ _ _ _ _ _ _ _ _ _) | (with_reducible refine bl_step ?_ (by assumption)))))
    | (go_at_call 7; refine (awake_any _).mono ?_; rintro e u7 ⟨rfl, hqu7⟩; have yu7 : Below w8.heap.size w8 u7 := (by repeat (first | (with_reducible exact Below.refl _ _) | (with_reducible assumption) | (with_reducible apply bl_alloc) | (with_reducible apply bl_drew) | (with_reducible refine bl_set10 ?_ (by omega) _ _ _ _ _ _ _ _ _ _) | (with_reducible refine bl_step ?_ (by assumption))))))
  go_wp2_with fail
  go_ret
  exact ⟨rfl, bl_step hw8 (by repeat (first | (with_reducible exact Below.refl _ _) | (with_reducible assumption) | (with_reducible apply bl_alloc) | (with_reducible apply bl_drew) | (with_reducible refine bl_set10 ?_ (by omega) _ _ _ _ _ _ _ _ _ _) | (with_reducible refine bl_step ?_ (by assumption))))⟩
end Go.Proofs.Ytnboncbekcodnaa.PR
