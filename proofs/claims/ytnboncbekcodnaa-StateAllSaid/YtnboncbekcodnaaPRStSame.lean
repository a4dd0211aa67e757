/- state.Same, SameInts, SameChildren in terms of rows. -/
import Derived.Test.YtnboncbekcodnaaPRStK
import Derived.Test.YtnboncbekcodnaaSt8
set_option linter.unusedVariables false
set_option linter.unusedSimpArgs false
namespace Go.Proofs.Ytnboncbekcodnaa.PR
open Go.RowKit Go.Proofs.YtnboncbekcodnaaW.PrintWords Go.Proofs.Ytnboncbekcodnaa.Kit Go.Proofs.Ytnboncbekcodnaa.St

theorem mapR_iff {l m : List Rc} : l.map ofR = m.map ofR ↔ l = m := ⟨fun h => map_inj ofR_inj h, fun h => by rw [h]⟩
theorem mapC_iff {l m : List Ch} : l.map ofC = m.map ofC ↔ l = m := ⟨fun h => map_inj ofC_inj h, fun h => by rw [h]⟩
/-- the two states are the same -/
def SameS (s t : Stt) : Prop := s.att = t.att ∧ s.buf = t.buf ∧ s.D = t.D ∧ s.F = t.F ∧ s.inp = t.inp ∧ s.all = t.all ∧ s.R = t.R ∧ s.ord = t.ord ∧ s.O = t.O ∧ s.P = t.P
theorem SameS.eq {s t : Stt} (h : SameS s t) : s = t := by
  obtain ⟨a0, a1, a2, a3, a4, a5, a6, a7, a8, a9⟩ := s
  obtain ⟨b0, b1, b2, b3, b4, b5, b6, b7, b8, b9⟩ := t
  obtain ⟨h0, h1, h2, h3, h4, h5, h6, h7, h8, h9⟩ := h
  dsimp only at h0 h1 h2 h3 h4 h5 h6 h7 h8 h9
  subst h0 h1 h2 h3 h4 h5 h6 h7 h8 h9
  rfl
theorem SameS.refl (s : Stt) : SameS s s := ⟨rfl, rfl, rfl, rfl, rfl, rfl, rfl, rfl, rfl, rfl⟩
theorem SameS.of {s t : Stt} (h : s = t) : SameS s t := h ▸ SameS.refl s
theorem same_tells (s t : Stt) (n : StN 1000 s) (m : StN 1000 t) : Tells (fun k => state_Same.f k s.att s.buf (s.D.map ofR) s.F s.inp s.all (s.R.map ofR) s.ord s.O (s.P.map ofC) t.att t.buf (t.D.map ofR) t.F t.inp t.all (t.R.map ofR) t.ord t.O (t.P.map ofC)) (SameS s t) := by
  have n1 := n.d
  have n2 := n.f
  have n3 := n.r
  have n4 := n.o
  have n5 := n.p
  have t1 := eqRects_tells (s.D.map ofR) (t.D.map ofR) (by rw [List.length_map]; omega)
  have t2 := eqInts_tells s.F t.F (by omega)
  have t3 := eqRects_tells (s.R.map ofR) (t.R.map ofR) (by rw [List.length_map]; omega)
  have t4 := eqInts_tells s.O t.O (by omega)
  have t5 := eqChs_tells (s.P.map ofC) (t.P.map ofC) (by rw [List.length_map]; omega)
  unfold state_Same.f
  by_cases h0 : (s.att == t.att) = true
  case neg => exact Tells.of (fun q => absurd (by rw [q.1]; exact beq_self_eq_true _) h0) (fun _ => Ev.neg h0 (Ev.ret _))
  by_cases h1 : s.buf = t.buf
  case neg => exact Tells.of (fun q => absurd q.2.1 h1) (fun _ => Ev.pos h0 (Ev.neg h1 (Ev.ret _)))
  by_cases h2 : s.D = t.D
  case neg => exact Tells.of (fun q => absurd q.2.2.1 h2) (fun _ => Ev.pos h0 (Ev.pos h1 (Ev.bind (t1.no fun q => h2 (mapR_iff.1 q)) (Ev.neg (by simp) (Ev.ret _)))))
  by_cases h3 : s.F = t.F
  case neg => exact Tells.of (fun q => absurd q.2.2.2.1 h3) (fun _ => Ev.pos h0 (Ev.pos h1 (Ev.bind (t1.yes (mapR_iff.2 h2)) (Ev.pos rfl (Ev.bind (t2.no h3) (Ev.neg (by simp) (Ev.ret _)))))))
  by_cases h4 : (s.inp == t.inp) = true
  case neg => exact Tells.of (fun q => absurd (by rw [q.2.2.2.2.1]; exact beq_self_eq_true _) h4) (fun _ => Ev.pos h0 (Ev.pos h1 (Ev.bind (t1.yes (mapR_iff.2 h2)) (Ev.pos rfl (Ev.bind (t2.yes h3) (Ev.pos rfl (Ev.neg h4 (Ev.ret _))))))))
  by_cases h5 : (s.all == t.all) = true
  case neg => exact Tells.of (fun q => absurd (by rw [q.2.2.2.2.2.1]; exact beq_self_eq_true _) h5) (fun _ => Ev.pos h0 (Ev.pos h1 (Ev.bind (t1.yes (mapR_iff.2 h2)) (Ev.pos rfl (Ev.bind (t2.yes h3) (Ev.pos rfl (Ev.pos h4 (Ev.neg h5 (Ev.ret _)))))))))
  by_cases h6 : s.R = t.R
  case neg => exact Tells.of (fun q => absurd q.2.2.2.2.2.2.1 h6) (fun _ => Ev.pos h0 (Ev.pos h1 (Ev.bind (t1.yes (mapR_iff.2 h2)) (Ev.pos rfl (Ev.bind (t2.yes h3) (Ev.pos rfl (Ev.pos h4 (Ev.pos h5 (Ev.bind (t3.no fun q => h6 (mapR_iff.1 q)) (Ev.neg (by simp) (Ev.ret _)))))))))))
  by_cases h7 : (s.ord == t.ord) = true
  case neg => exact Tells.of (fun q => absurd (by rw [q.2.2.2.2.2.2.2.1]; exact beq_self_eq_true _) h7) (fun _ => Ev.pos h0 (Ev.pos h1 (Ev.bind (t1.yes (mapR_iff.2 h2)) (Ev.pos rfl (Ev.bind (t2.yes h3) (Ev.pos rfl (Ev.pos h4 (Ev.pos h5 (Ev.bind (t3.yes (mapR_iff.2 h6)) (Ev.pos rfl (Ev.neg h7 (Ev.ret _))))))))))))
  by_cases h8 : s.O = t.O
  case neg => exact Tells.of (fun q => absurd q.2.2.2.2.2.2.2.2.1 h8) (fun _ => Ev.pos h0 (Ev.pos h1 (Ev.bind (t1.yes (mapR_iff.2 h2)) (Ev.pos rfl (Ev.bind (t2.yes h3) (Ev.pos rfl (Ev.pos h4 (Ev.pos h5 (Ev.bind (t3.yes (mapR_iff.2 h6)) (Ev.pos rfl (Ev.pos h7 (Ev.bind (t4.no h8) (Ev.neg (by simp) (Ev.ret _))))))))))))))
  by_cases h9 : s.P = t.P
  case neg => exact Tells.of (fun q => absurd q.2.2.2.2.2.2.2.2.2 h9) (fun _ => Ev.pos h0 (Ev.pos h1 (Ev.bind (t1.yes (mapR_iff.2 h2)) (Ev.pos rfl (Ev.bind (t2.yes h3) (Ev.pos rfl (Ev.pos h4 (Ev.pos h5 (Ev.bind (t3.yes (mapR_iff.2 h6)) (Ev.pos rfl (Ev.pos h7 (Ev.bind (t4.yes h8) (Ev.pos rfl (Ev.bind (t5.no fun q => h9 (mapC_iff.1 q)) (Ev.ret _)))))))))))))))
  exact Tells.of (fun _ => Ev.pos h0 (Ev.pos h1 (Ev.bind (t1.yes (mapR_iff.2 h2)) (Ev.pos rfl (Ev.bind (t2.yes h3) (Ev.pos rfl (Ev.pos h4 (Ev.pos h5 (Ev.bind (t3.yes (mapR_iff.2 h6)) (Ev.pos rfl (Ev.pos h7 (Ev.bind (t4.yes h8) (Ev.pos rfl (Ev.bind (t5.yes (mapC_iff.2 h9)) (Ev.ret _))))))))))))))) (fun q => absurd ⟨eq_of_beq h0, h1, h2, h3, eq_of_beq h4, eq_of_beq h5, h6, eq_of_beq h7, h8, h9⟩ q)
theorem same_any (s t : Stt) (hs ht : Hd) (w : World) (hS : StR w w.heap.size s hs) (hT : StR w w.heap.size t ht) (cs : StC s hs) (ct : StC t ht) (n : StN 1000 s) (m : StN 1000 t) :
    Calls Try.prog 14 #[.agg (stV s hs), .agg (stV t ht)] w fun e w' => (∃ r, e = .returned (.bool r) ∧ (r = true ↔ s = t)) ∧ Below w.heap.size w w' := by
  obtain ⟨r, e, hr⟩ := same_tells s t n m
  obtain ⟨k, hk⟩ := e.some_
  have n1 := n.d
  have n2 := n.f
  have n3 := n.r
  have n4 := n.o
  have n5 := n.p
  have m1 := m.d
  have m2 := m.f
  have m3 := m.r
  have m4 := m.o
  have m5 := m.p
  have c1 := cs.d
  have c2 := cs.f
  have c3 := cs.r
  have c4 := cs.o
  have c5 := cs.p
  have d1 := ct.d
  have d2 := ct.f
  have d3 := ct.r
  have d4 := ct.o
  have d5 := ct.p
  have := state_Same.calls k s.att s.buf hs.dA hs.dc (s.D.map ofR) hs.fA hs.fc s.F s.inp s.all hs.rA hs.rc (s.R.map ofR) s.ord hs.oA hs.oc s.O hs.pA hs.pc (s.P.map ofC) t.att t.buf ht.dA ht.dc (t.D.map ofR) ht.fA ht.fc t.F t.inp t.all ht.rA ht.rc (t.R.map ofR) t.ord ht.oA ht.oc t.O ht.pA ht.pc (t.P.map ofC) r w
    (rect_C (by omega) hS.d) (by rw [List.length_map]; exact c1) (ints_C' (by omega) hS.f) c2 (rect_C (by omega) hS.r) (by rw [List.length_map]; exact c3) (ints_C' (by omega) hS.o) c4 (child_C (by omega) hS.p) (by rw [List.length_map]; exact c5)
    (rect_C (by omega) hT.d) (by rw [List.length_map]; exact d1) (ints_C' (by omega) hT.f) d2 (rect_C (by omega) hT.r) (by rw [List.length_map]; exact d3) (ints_C' (by omega) hT.o) d4 (child_C (by omega) hT.p) (by rw [List.length_map]; exact d5) hk
  simp only [List.length_map] at this
  exact this.mono fun e w' q => ⟨⟨r, q.1, hr.trans ⟨SameS.eq, SameS.of⟩⟩, q.2⟩
theorem sameInts_any (A B : Option Addr) (c d : Nat) (l m : List Int) (w : World) (hl : Rds w w.heap.size 1 A l.length (l.flatMap inC)) (hm : Rds w w.heap.size 1 B m.length (m.flatMap inC)) (hc : l.length ≤ c) (hd : m.length ≤ d) (n : l.length ≤ 1000) (n' : m.length ≤ 1000) :
    Calls Try.prog 15 #[.slice A l.length c, .slice B m.length d] w fun e w' => (∃ r, e = .returned (.bool r) ∧ (r = true ↔ l = m)) ∧ Below w.heap.size w w' := by
  obtain ⟨r, e, hr⟩ := sameInts_tells l m (by omega)
  obtain ⟨k, hk⟩ := e.some_
  refine (tableaulaw00_SameInts.calls k A c l B d m r w (ints_C' (by omega) hl) hc (ints_C' (by omega) hm) hd hk).mono ?_
  rintro e w' ⟨he, nd, rfl⟩
  exact ⟨⟨r, he, hr⟩, bl_drewN (Below.refl _ _) nd⟩
theorem sameCh_any (A B : Option Addr) (c d : Nat) (l m : List Ch) (w : World) (hl : Rds w w.heap.size 3 A l.length (l.flatMap chC)) (hm : Rds w w.heap.size 3 B m.length (m.flatMap chC)) (hc : l.length ≤ c) (hd : m.length ≤ d) (n : l.length ≤ 1000) (n' : m.length ≤ 1000) :
    Calls Try.prog 20 #[.slice A l.length c, .slice B m.length d] w fun e w' => (∃ r, e = .returned (.bool r) ∧ (r = true ↔ l = m)) ∧ Below w.heap.size w w' := by
  obtain ⟨r, e, hr⟩ := sameCh_tells (l.map ofC) (m.map ofC) (by rw [List.length_map]; omega)
  obtain ⟨k, hk⟩ := e.some_
  have := tableaulaw00_SameChildren.calls k A c (l.map ofC) B d (m.map ofC) r w (child_C (by omega) hl) (by rw [List.length_map]; exact hc) (child_C (by omega) hm) (by rw [List.length_map]; exact hd) hk
  simp only [List.length_map] at this
  refine this.mono ?_
  rintro e w' ⟨he, nd, rfl⟩
  exact ⟨⟨r, he, hr.trans mapC_iff⟩, bl_drewN (Below.refl _ _) nd⟩
end Go.Proofs.Ytnboncbekcodnaa.PR
