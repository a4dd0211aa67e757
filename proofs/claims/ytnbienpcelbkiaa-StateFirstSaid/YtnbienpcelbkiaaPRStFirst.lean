/- StateFirst, walked by hand. -/
import Derived.Test.YtnbienpcelbkiaaPRStSame
import Derived.Test.YtnbienpcelbkiaaPRAw15
import Derived.Deep.RegionHeld3
import Derived.Deep.Cut
set_option linter.unusedVariables false
set_option linter.unusedSimpArgs false
namespace Go.Proofs.Ytnbienpcelbkiaa.PR
open Go.RowKit Go.Proofs.YtnbienpcelbkiaaW.PrintWords Go.Proofs.Ytnbienpcelbkiaa.Kit Go.Proofs.Ytnbienpcelbkiaa.St

theorem apply_z (n : Stt) : applyS n zS = { n with att := false, D := [], inp := false, ord := false } := by
  obtain ⟨a0, a1, a2, a3, a4, a5, a6, a7, a8, a9⟩ := n
  simp [applyS, mergeS, zS]
set_option maxRecDepth 100000 in
set_option maxHeartbeats 32000000 in
theorem first_law (n : Stt) (h : Hd) (w : World) (hr : StR w w.heap.size n h) (hc : StC n h) :
    Calls Try.prog 5 #[.agg (stV n h)] w fun e w' => e = .returned (.bool true) ∧ Below w.heap.size w w' := by
  go_enter Try.func5, Try.ntmps5
  go_wp2_with fail
  generalize hwv : World.alloc _ _ = wv
  have Bn : Bk wv w.heap.size 33 (stV n h) := hwv ▸ Bk.new _ _ _
  have hbv : Below w.heap.size w wv := hwv ▸ bl_alloc (Below.refl _ _) _
  clear hwv
  refine (few_any n h _).mono ?_
  rintro e w1 ⟨rfl, hb1⟩
  have hbw := bl_step hbv hb1
  have B1 := Bn.be hb1
  clear Bn hbv hb1
  by_cases hf : StN 60 n
  case neg =>
    rw [decide_eq_false hf]
    go_wp2_with fail
    refine (awake_any _).mono ?_
    rintro e w2 ⟨rfl, hb2⟩
    go_wp2_with fail
    go_ret
    exact ⟨rfl, bl_step hbw hb2⟩
  rw [decide_eq_true hf]
  obtain ⟨k0, k1, k2, k3, k4, k5, k6, k7, k8, k9⟩ := Bk.c10 B1
  go_wp2_with fail
  refine (apply_any n zS h zH _ ((hr.be hbw).more hbw.size) (zR _ _) (hf.le (by omega)) (zN _)).mono ?_
  rintro e w2 ⟨h2, rfl, hR2, hC2, hb2⟩
  have hn2 := applyN (hf.le (by omega : 60 ≤ 60)) (zN 0)
  have hbx := bl_step hbw hb2
  have B2 := B1.be hb2
  rw [apply_z] at hR2 hC2 hn2 ⊢
  clear k0 k1 k2 k3 k4 k5 k6 k7 k8 k9
  go_wp2_with fail
  generalize hwv : World.alloc _ _ = wv
  have B3 : Bk wv w.heap.size 33 (stV n h) := hwv ▸ B2.al _
  have X3 : Bk wv w2.heap.size 33 (stV { n with att := false, D := [], inp := false, ord := false } h2) := hwv ▸ Bk.new _ _ _
  have hb3 : Below w2.heap.size w2 wv := hwv ▸ bl_alloc (Below.refl _ _) _
  clear hwv
  have hbv := bl_step hbx hb3
  have hR3 := (hR2.be hb3).more hb3.size
  have hr3 := (hr.be hbv).more hbv.size
  clear B2 B1 hbx hb2 hb3 hR2 hbw
  refine (first_any _).mono ?_
  rintro e w3 ⟨rfl, Bo, hb3⟩
  have o0 : w3.cell? ⟨wv.heap.size + 1, 0, none⟩ = some (.int .i64 0) := Bo.cell 0
  have B4 := B3.be hb3
  have X4 := X3.be hb3
  have hbv4 := bl_step hbv hb3
  have hR4 := (hR3.be hb3).more hb3.size
  have hr4 := (hr3.be hb3).more hb3.size
  have lt0 : wv.heap.size + 1 < w3.heap.size := Bo.lt
  clear B3 X3 hb3 hbv hR3 hr3 Bo
  go_upto_region 7 with (go_at_call 19; refine (none_any ⟨false, 0, none, 0, 0, none, 0, 0, false, true, none, 0, 0, false, some ⟨wv.heap.size + 1, 0, none⟩, 1, 1, none, 0, 0⟩ _).mono ?_; rintro e w5 ⟨rfl, hb5⟩)
  have B5 := Bk.be (Bk.al B4 _) hb5
  have X5 := Bk.be (Bk.al X4 _) hb5
  have ha5 := bl_step (bl_alloc (Below.refl w3.heap.size w3) _) hb5
  have hbv5 := bl_step hbv4 ha5
  have hR5 := (hR4.be ha5).more ha5.size
  have hr5 := (hr4.be ha5).more ha5.size
  clear B4 X4 hb5 ha5 hbv4 hR4 hr4 o0 lt0
  have hf1 := hf.le (by omega : 60 ≤ 1000)
  have hn3 := hn2.le (by omega : 60 + 0 ≤ 1000)
  have f1 := hf1.f
  have f2 := hf1.o
  have f3 := hf1.p
  have hS : ∀ w' : World, Below w5.heap.size w5 w' → (Below w5.heap.size w5 w' ∧ _ ∧ _) := fun w' hb => ⟨hb, Bk.c10 (X5.be hb), Bk.c10 (B5.be hb)⟩
  have hq : Below w5.heap.size w5 w5.drew := bl_drew (Below.refl _ _)
  have f1 := Lib.hid f1
  have f2 := Lib.hid f2
  have f3 := Lib.hid f3
  have hC2 := Lib.hid hC2
  have hc := Lib.hid hc
  have hn3 := Lib.hid hn3
  simp only [List.append_eq, List.cons_append, List.nil_append]
  go_region_held3 (fun w' : World => Below w5.heap.size w5 w' ∧ (w'.cell? ⟨w2.heap.size, 0, none⟩ = some (.bool false) ∧ w'.cell? ⟨w2.heap.size, 1, none⟩ = some (.int .i64 n.buf) ∧ w'.cell? ⟨w2.heap.size, 2, none⟩ = some (.slice h2.dA 0 h2.dc) ∧ w'.cell? ⟨w2.heap.size, 3, none⟩ = some (.slice h2.fA n.F.length h2.fc) ∧ w'.cell? ⟨w2.heap.size, 4, none⟩ = some (.bool false) ∧ w'.cell? ⟨w2.heap.size, 5, none⟩ = some (.bool n.all) ∧ w'.cell? ⟨w2.heap.size, 6, none⟩ = some (.slice h2.rA n.R.length h2.rc) ∧ w'.cell? ⟨w2.heap.size, 7, none⟩ = some (.bool false) ∧ w'.cell? ⟨w2.heap.size, 8, none⟩ = some (.slice h2.oA n.O.length h2.oc) ∧ w'.cell? ⟨w2.heap.size, 9, none⟩ = some (.slice h2.pA n.P.length h2.pc)) ∧ (w'.cell? ⟨w.heap.size, 0, none⟩ = some (.bool n.att) ∧ w'.cell? ⟨w.heap.size, 1, none⟩ = some (.int .i64 n.buf) ∧ w'.cell? ⟨w.heap.size, 2, none⟩ = some (.slice h.dA n.D.length h.dc) ∧ w'.cell? ⟨w.heap.size, 3, none⟩ = some (.slice h.fA n.F.length h.fc) ∧ w'.cell? ⟨w.heap.size, 4, none⟩ = some (.bool n.inp) ∧ w'.cell? ⟨w.heap.size, 5, none⟩ = some (.bool n.all) ∧ w'.cell? ⟨w.heap.size, 6, none⟩ = some (.slice h.rA n.R.length h.rc) ∧ w'.cell? ⟨w.heap.size, 7, none⟩ = some (.bool n.ord) ∧ w'.cell? ⟨w.heap.size, 8, none⟩ = some (.slice h.oA n.O.length h.oc) ∧ w'.cell? ⟨w.heap.size, 9, none⟩ = some (.slice h.pA n.P.length h.pc))) (exact hS _ hq) (first
    | (go_at_call_of 15 h2.fA; refine (sameInts_any h2.fA h.fA h2.fc h.fc n.F n.F _ ((hR5.f.be hq).more hq.size) ((hr5.f.be hq).more hq.size) hC2.out.f hc.out.f f1.out f1.out).mono ?_; rintro e w6 ⟨⟨r6, rfl, hr6⟩, hb6⟩; obtain rfl := hr6.2 rfl; have hq := bl_step hq hb6)
    | (go_at_call_of 15 h2.oA; refine (sameInts_any h2.oA h.oA h2.oc h.oc n.O n.O _ ((hR5.o.be hq).more hq.size) ((hr5.o.be hq).more hq.size) hC2.out.o hc.out.o f2.out f2.out).mono ?_; rintro e w6 ⟨⟨r6, rfl, hr6⟩, hb6⟩; obtain rfl := hr6.2 rfl; have hq := bl_step hq hb6)
    | (go_at_call 20; refine (sameCh_any h2.pA h.pA h2.pc h.pc n.P n.P _ ((hR5.p.be hq).more hq.size) ((hr5.p.be hq).more hq.size) hC2.out.p hc.out.p f3.out f3.out).mono ?_; rintro e w6 ⟨⟨r6, rfl, hr6⟩, hb6⟩; obtain rfl := hr6.2 rfl; have hq := bl_step hq hb6)
    | (go_at_call 12; refine (apply_any _ zS h2 zH _ ((hR5.be hq).more hq.size) (zR _ _) hn3.out (zN _)).mono ?_; rintro e w6 ⟨h6, rfl, hR6, hC6, hb6⟩; have hq := bl_step hq hb6; rw [apply_z] at hR6 hC6 ⊢; have hC6 := Lib.hid hC6)
    | (go_at_call 14; refine (same_any _ _ h6 h2 _ hR6 ((hR5.be hq).more hq.size) hC6.out hC2.out hn3.out hn3.out).mono ?_; rintro e w7 ⟨⟨r7, rfl, hr7⟩, hb7⟩; obtain rfl := hr7.2 rfl; have hq := bl_step hq hb7)
    | (go_at_call 7; refine (awake_any _).mono ?_; rintro e w8 ⟨rfl, hb8⟩; have hq := bl_step hq hb8))
  go_wp2_with fail
  go_ret
  exact ⟨rfl, bl_step hbv5 hq⟩
end Go.Proofs.Ytnbienpcelbkiaa.PR
