/- What the reference's Same tells. -/
import Derived.Test.YtnboncbekcodnaaPRStOnce
import Derived.Test.YtnboncbekcodnaaPRx4
set_option linter.unusedVariables false
set_option linter.unusedSimpArgs false
namespace Go.Proofs.Ytnboncbekcodnaa.PR
open Go.RowKit Go.Proofs.YtnboncbekcodnaaW.PrintWords Go.Proofs.Ytnboncbekcodnaa.Kit Go.Proofs.Ytnboncbekcodnaa.St

theorem loop_tells {α : Type} (L : Nat → Bool → Int → Option Bool) (N : Nat → Bool → Option Bool) (l m : List α) (eq : α → α → Bool) (heq : ∀ a b, eq a b = true ↔ a = b) (hlen : l.length = m.length)
    (st1 : ∀ k i (hi : i < l.length) (hj : i < m.length), L (k + 1) true (i : Int) = L k (eq l[i] m[i]) ((i + 1 : Nat) : Int)) (st0 : ∀ k i, i < l.length → L (k + 1) false (i : Int) = L k false ((i + 1 : Nat) : Int))
    (en : ∀ k b, L (k + 1) b (l.length : Int) = N k b) {Q : Prop} (hN : ∀ b, Tells (fun k => N k b) (b = true ∧ Q)) :
    ∀ n i b, i + n = l.length → Tells (fun k => L k b (i : Int)) (b = true ∧ l.drop i = m.drop i ∧ Q)
  | 0, i, b, h => by
    obtain rfl : i = l.length := by omega
    refine Tells.next (fun k => en k b) ((hN b).iff ⟨fun q => ⟨q.1, ?_, q.2⟩, fun q => ⟨q.1, q.2.2⟩⟩)
    rw [List.drop_length, List.drop_of_length_le (by omega)]
  | n + 1, i, b, h => by
    have hi : i < l.length := by omega
    have hj : i < m.length := by omega
    cases b with
    | true =>
      refine Tells.next (fun k => st1 k i hi hj) ((loop_tells L N l m eq heq hlen st1 st0 en hN n (i + 1) _ (by omega)).iff ?_)
      rw [heq, List.drop_eq_getElem_cons hi, List.drop_eq_getElem_cons hj, List.cons.injEq]
      exact ⟨fun q => ⟨rfl, ⟨q.1, q.2.1⟩, q.2.2⟩, fun q => ⟨q.2.1.1, q.2.1.2, q.2.2⟩⟩
    | false =>
      refine Tells.next (fun k => st0 k i hi) ((loop_tells L N l m eq heq hlen st1 st0 en hN n (i + 1) _ (by omega)).iff ?_)
      exact ⟨fun q => absurd q.1 (by simp), fun q => absurd q.1 (by simp)⟩
def eqRb (a b : S47) : Bool := (a.f0 == b.f0 && (a.f1 == b.f1 && (a.f2 == b.f2 && (a.f3 == b.f3))))
theorem eqRb_iff (a b : S47) : eqRb a b = true ↔ a = b := by
  cases a; cases b; simp [eqRb]
def eqCb (a b : S24) : Bool := (a.f0 == b.f0 && (a.f1 == b.f1 && (a.f2 == b.f2)))
theorem eqCb_iff (a b : S24) : eqCb a b = true ↔ a = b := by
  cases a; cases b; simp [eqCb]
theorem eqIb_iff (a b : Int) : (a == b) = true ↔ a = b := by simp
theorem rsame_loops (s t : Stt) (n : StN 1000 s) (m : StN 1000 t) (hD : (s.D.map ofR).length = (t.D.map ofR).length) (hF : s.F.length = t.F.length) (hR : (s.R.map ofR).length = (t.R.map ofR).length) (hO : s.O.length = t.O.length) (hP : (s.P.map ofC).length = (t.P.map ofC).length) (b : Bool) : Tells (fun k => tableauref15_Same.l0 k b 0 s.att s.buf (s.D.map ofR) s.F s.inp s.all (s.R.map ofR) s.ord s.O (s.P.map ofC) t.att t.buf (t.D.map ofR) t.F t.inp t.all (t.R.map ofR) t.ord t.O (t.P.map ofC)) (b = true ∧ (s.D.map ofR) = (t.D.map ofR) ∧ s.F = t.F ∧ (s.R.map ofR) = (t.R.map ofR) ∧ s.O = t.O ∧ (s.P.map ofC) = (t.P.map ofC) ∧ True) := by
  have n1 := n.d
  have n2 := n.f
  have n3 := n.r
  have n4 := n.o
  have n5 := n.p
  have b4 : ∀ i : Nat, i < (s.P.map ofC).length → wrap64 ((i : Int) + 1) = ((i + 1 : Nat) : Int) := fun i hi => by have h' := hi; (try simp only [List.length_map] at h'); rw [w64 (by omega) (by omega)]; rfl
  have t4 : ∀ b, Tells (fun k => tableauref15_Same.l4 k b 0 s.att s.buf (s.D.map ofR) s.F s.inp s.all (s.R.map ofR) s.ord s.O (s.P.map ofC) t.att t.buf (t.D.map ofR) t.F t.inp t.all (t.R.map ofR) t.ord t.O (t.P.map ofC)) (b = true ∧ (s.P.map ofC) = (t.P.map ofC) ∧ True) := fun b => by
    have := loop_tells (fun k b i => tableauref15_Same.l4 k b i s.att s.buf (s.D.map ofR) s.F s.inp s.all (s.R.map ofR) s.ord s.O (s.P.map ofC) t.att t.buf (t.D.map ofR) t.F t.inp t.all (t.R.map ofR) t.ord t.O (t.P.map ofC)) (fun _ b => some b) (s.P.map ofC) (t.P.map ofC) eqCb eqCb_iff hP (fun k i hi hj => by rw [tableauref15_Same.l4, if_pos (by omega), if_pos rfl, if_pos (by omega), if_pos (by omega), rdC hi, rdC hj, b4 i hi]; try rfl) (fun k i hi => by rw [tableauref15_Same.l4, if_pos (by omega), if_neg (by simp), b4 i hi]) (fun k b => by rw [tableauref15_Same.l4, if_neg (by omega)]) (fun b => ⟨b, Ev.ret b, ⟨fun q => ⟨q, trivial⟩, fun q => q.1⟩⟩) (s.P.map ofC).length 0 b (by omega)
    rw [List.drop_zero, List.drop_zero] at this
    exact this
  have b3 : ∀ i : Nat, i < s.O.length → wrap64 ((i : Int) + 1) = ((i + 1 : Nat) : Int) := fun i hi => by have h' := hi; (try simp only [List.length_map] at h'); rw [w64 (by omega) (by omega)]; rfl
  have t3 : ∀ b, Tells (fun k => tableauref15_Same.l3 k b 0 s.att s.buf (s.D.map ofR) s.F s.inp s.all (s.R.map ofR) s.ord s.O (s.P.map ofC) t.att t.buf (t.D.map ofR) t.F t.inp t.all (t.R.map ofR) t.ord t.O (t.P.map ofC)) (b = true ∧ s.O = t.O ∧ (s.P.map ofC) = (t.P.map ofC) ∧ True) := fun b => by
    have := loop_tells (fun k b i => tableauref15_Same.l3 k b i s.att s.buf (s.D.map ofR) s.F s.inp s.all (s.R.map ofR) s.ord s.O (s.P.map ofC) t.att t.buf (t.D.map ofR) t.F t.inp t.all (t.R.map ofR) t.ord t.O (t.P.map ofC)) (fun k b => tableauref15_Same.l4 k b 0 s.att s.buf (s.D.map ofR) s.F s.inp s.all (s.R.map ofR) s.ord s.O (s.P.map ofC) t.att t.buf (t.D.map ofR) t.F t.inp t.all (t.R.map ofR) t.ord t.O (t.P.map ofC)) s.O t.O (fun a b : Int => a == b) eqIb_iff hO (fun k i hi hj => by rw [tableauref15_Same.l3, if_pos (by omega), if_pos rfl, if_pos (by omega), if_pos (by omega), rdI hi, rdI hj, b3 i hi]; try rfl) (fun k i hi => by rw [tableauref15_Same.l3, if_pos (by omega), if_neg (by simp), b3 i hi]) (fun k b => by rw [tableauref15_Same.l3, if_neg (by omega)]) t4 s.O.length 0 b (by omega)
    rw [List.drop_zero, List.drop_zero] at this
    exact this
  have b2 : ∀ i : Nat, i < (s.R.map ofR).length → wrap64 ((i : Int) + 1) = ((i + 1 : Nat) : Int) := fun i hi => by have h' := hi; (try simp only [List.length_map] at h'); rw [w64 (by omega) (by omega)]; rfl
  have t2 : ∀ b, Tells (fun k => tableauref15_Same.l2 k b 0 s.att s.buf (s.D.map ofR) s.F s.inp s.all (s.R.map ofR) s.ord s.O (s.P.map ofC) t.att t.buf (t.D.map ofR) t.F t.inp t.all (t.R.map ofR) t.ord t.O (t.P.map ofC)) (b = true ∧ (s.R.map ofR) = (t.R.map ofR) ∧ s.O = t.O ∧ (s.P.map ofC) = (t.P.map ofC) ∧ True) := fun b => by
    have := loop_tells (fun k b i => tableauref15_Same.l2 k b i s.att s.buf (s.D.map ofR) s.F s.inp s.all (s.R.map ofR) s.ord s.O (s.P.map ofC) t.att t.buf (t.D.map ofR) t.F t.inp t.all (t.R.map ofR) t.ord t.O (t.P.map ofC)) (fun k b => tableauref15_Same.l3 k b 0 s.att s.buf (s.D.map ofR) s.F s.inp s.all (s.R.map ofR) s.ord s.O (s.P.map ofC) t.att t.buf (t.D.map ofR) t.F t.inp t.all (t.R.map ofR) t.ord t.O (t.P.map ofC)) (s.R.map ofR) (t.R.map ofR) eqRb eqRb_iff hR (fun k i hi hj => by rw [tableauref15_Same.l2, if_pos (by omega), if_pos rfl, if_pos (by omega), if_pos (by omega), rdR hi, rdR hj, b2 i hi]; try rfl) (fun k i hi => by rw [tableauref15_Same.l2, if_pos (by omega), if_neg (by simp), b2 i hi]) (fun k b => by rw [tableauref15_Same.l2, if_neg (by omega)]) t3 (s.R.map ofR).length 0 b (by omega)
    rw [List.drop_zero, List.drop_zero] at this
    exact this
  have b1 : ∀ i : Nat, i < s.F.length → wrap64 ((i : Int) + 1) = ((i + 1 : Nat) : Int) := fun i hi => by have h' := hi; (try simp only [List.length_map] at h'); rw [w64 (by omega) (by omega)]; rfl
  have t1 : ∀ b, Tells (fun k => tableauref15_Same.l1 k b 0 s.att s.buf (s.D.map ofR) s.F s.inp s.all (s.R.map ofR) s.ord s.O (s.P.map ofC) t.att t.buf (t.D.map ofR) t.F t.inp t.all (t.R.map ofR) t.ord t.O (t.P.map ofC)) (b = true ∧ s.F = t.F ∧ (s.R.map ofR) = (t.R.map ofR) ∧ s.O = t.O ∧ (s.P.map ofC) = (t.P.map ofC) ∧ True) := fun b => by
    have := loop_tells (fun k b i => tableauref15_Same.l1 k b i s.att s.buf (s.D.map ofR) s.F s.inp s.all (s.R.map ofR) s.ord s.O (s.P.map ofC) t.att t.buf (t.D.map ofR) t.F t.inp t.all (t.R.map ofR) t.ord t.O (t.P.map ofC)) (fun k b => tableauref15_Same.l2 k b 0 s.att s.buf (s.D.map ofR) s.F s.inp s.all (s.R.map ofR) s.ord s.O (s.P.map ofC) t.att t.buf (t.D.map ofR) t.F t.inp t.all (t.R.map ofR) t.ord t.O (t.P.map ofC)) s.F t.F (fun a b : Int => a == b) eqIb_iff hF (fun k i hi hj => by rw [tableauref15_Same.l1, if_pos (by omega), if_pos rfl, if_pos (by omega), if_pos (by omega), rdI hi, rdI hj, b1 i hi]; try rfl) (fun k i hi => by rw [tableauref15_Same.l1, if_pos (by omega), if_neg (by simp), b1 i hi]) (fun k b => by rw [tableauref15_Same.l1, if_neg (by omega)]) t2 s.F.length 0 b (by omega)
    rw [List.drop_zero, List.drop_zero] at this
    exact this
  have b0 : ∀ i : Nat, i < (s.D.map ofR).length → wrap64 ((i : Int) + 1) = ((i + 1 : Nat) : Int) := fun i hi => by have h' := hi; (try simp only [List.length_map] at h'); rw [w64 (by omega) (by omega)]; rfl
  have t0 : ∀ b, Tells (fun k => tableauref15_Same.l0 k b 0 s.att s.buf (s.D.map ofR) s.F s.inp s.all (s.R.map ofR) s.ord s.O (s.P.map ofC) t.att t.buf (t.D.map ofR) t.F t.inp t.all (t.R.map ofR) t.ord t.O (t.P.map ofC)) (b = true ∧ (s.D.map ofR) = (t.D.map ofR) ∧ s.F = t.F ∧ (s.R.map ofR) = (t.R.map ofR) ∧ s.O = t.O ∧ (s.P.map ofC) = (t.P.map ofC) ∧ True) := fun b => by
    have := loop_tells (fun k b i => tableauref15_Same.l0 k b i s.att s.buf (s.D.map ofR) s.F s.inp s.all (s.R.map ofR) s.ord s.O (s.P.map ofC) t.att t.buf (t.D.map ofR) t.F t.inp t.all (t.R.map ofR) t.ord t.O (t.P.map ofC)) (fun k b => tableauref15_Same.l1 k b 0 s.att s.buf (s.D.map ofR) s.F s.inp s.all (s.R.map ofR) s.ord s.O (s.P.map ofC) t.att t.buf (t.D.map ofR) t.F t.inp t.all (t.R.map ofR) t.ord t.O (t.P.map ofC)) (s.D.map ofR) (t.D.map ofR) eqRb eqRb_iff hD (fun k i hi hj => by rw [tableauref15_Same.l0, if_pos (by omega), if_pos rfl, if_pos (by omega), if_pos (by omega), rdR hi, rdR hj, b0 i hi]; try rfl) (fun k i hi => by rw [tableauref15_Same.l0, if_pos (by omega), if_neg (by simp), b0 i hi]) (fun k b => by rw [tableauref15_Same.l0, if_neg (by omega)]) t1 (s.D.map ofR).length 0 b (by omega)
    rw [List.drop_zero, List.drop_zero] at this
    exact this
  exact t0 b
theorem rsame_tells (s t : Stt) (n : StN 1000 s) (m : StN 1000 t) : Tells (fun k => tableauref15_Same.f k s.att s.buf (s.D.map ofR) s.F s.inp s.all (s.R.map ofR) s.ord s.O (s.P.map ofC) t.att t.buf (t.D.map ofR) t.F t.inp t.all (t.R.map ofR) t.ord t.O (t.P.map ofC)) (SameS s t) := by
  have jt : Ev (fun k => tableauref15_Same.j0 k true s.att s.buf (s.D.map ofR) s.F s.inp s.all (s.R.map ofR) s.ord s.O (s.P.map ofC) t.att t.buf (t.D.map ofR) t.F t.inp t.all (t.R.map ofR) t.ord t.O (t.P.map ofC)) false := Ev.next (G := fun _ => some false) (fun k => by rw [tableauref15_Same.j0, if_pos rfl]) (Ev.ret _)
  by_cases h0 : s.att = t.att
  case neg => exact Tells.of (fun q => absurd (q.1) h0) (fun _ => Ev.pos (by simpa using h0) jt)
  by_cases h1 : s.buf = t.buf
  case neg => exact Tells.of (fun q => absurd (q.2.1) h1) (fun _ => Ev.neg (by simp [h0]) (Ev.neg h1 jt))
  by_cases h4 : s.inp = t.inp
  case neg => exact Tells.of (fun q => absurd (q.2.2.2.2.1) h4) (fun _ => Ev.neg (by simp [h0]) (Ev.pos h1 (Ev.pos (by simpa using h4) jt)))
  by_cases h5 : s.all = t.all
  case neg => exact Tells.of (fun q => absurd (q.2.2.2.2.2.1) h5) (fun _ => Ev.neg (by simp [h0]) (Ev.pos h1 (Ev.neg (by simp [h4]) (Ev.pos (by simpa using h5) jt))))
  by_cases h7 : s.ord = t.ord
  case neg => exact Tells.of (fun q => absurd (q.2.2.2.2.2.2.2.1) h7) (fun _ => Ev.neg (by simp [h0]) (Ev.pos h1 (Ev.neg (by simp [h4]) (Ev.neg (by simp [h5]) (Ev.pos (by simpa using h7) jt)))))
  by_cases hD : (s.D.map ofR).length = (t.D.map ofR).length
  case neg => exact Tells.of (fun q => absurd (by rw [q.2.2.1]) hD) (fun _ => Ev.neg (by simp [h0]) (Ev.pos h1 (Ev.neg (by simp [h4]) (Ev.neg (by simp [h5]) (Ev.neg (by simp [h7]) (Ev.neg (by omega) jt))))))
  by_cases hF : s.F.length = t.F.length
  case neg => exact Tells.of (fun q => absurd (by rw [q.2.2.2.1]) hF) (fun _ => Ev.neg (by simp [h0]) (Ev.pos h1 (Ev.neg (by simp [h4]) (Ev.neg (by simp [h5]) (Ev.neg (by simp [h7]) (Ev.pos (by omega) (Ev.neg (by omega) jt)))))))
  by_cases hR : (s.R.map ofR).length = (t.R.map ofR).length
  case neg => exact Tells.of (fun q => absurd (by rw [q.2.2.2.2.2.2.1]) hR) (fun _ => Ev.neg (by simp [h0]) (Ev.pos h1 (Ev.neg (by simp [h4]) (Ev.neg (by simp [h5]) (Ev.neg (by simp [h7]) (Ev.pos (by omega) (Ev.pos (by omega) (Ev.neg (by omega) jt))))))))
  by_cases hO : s.O.length = t.O.length
  case neg => exact Tells.of (fun q => absurd (by rw [q.2.2.2.2.2.2.2.2.1]) hO) (fun _ => Ev.neg (by simp [h0]) (Ev.pos h1 (Ev.neg (by simp [h4]) (Ev.neg (by simp [h5]) (Ev.neg (by simp [h7]) (Ev.pos (by omega) (Ev.pos (by omega) (Ev.pos (by omega) (Ev.neg (by omega) jt)))))))))
  by_cases hP : (s.P.map ofC).length = (t.P.map ofC).length
  case neg => exact Tells.of (fun q => absurd (by rw [q.2.2.2.2.2.2.2.2.2]) hP) (fun _ => Ev.neg (by simp [h0]) (Ev.pos h1 (Ev.neg (by simp [h4]) (Ev.neg (by simp [h5]) (Ev.neg (by simp [h7]) (Ev.pos (by omega) (Ev.pos (by omega) (Ev.pos (by omega) (Ev.pos (by omega) (Ev.congr (fun k => by rw [show (((s.P.map ofC).length : Int) != ((t.P.map ofC).length : Int)) = true from bne_iff_ne.2 (fun q => hP (Int.ofNat_inj.1 q))]) jt))))))))))
  have T := rsame_loops s t n m hD hF hR hO hP true
  have T2 : Tells (fun k => tableauref15_Same.j0 k (((s.P.map ofC).length : Int) != ((t.P.map ofC).length : Int)) s.att s.buf (s.D.map ofR) s.F s.inp s.all (s.R.map ofR) s.ord s.O (s.P.map ofC) t.att t.buf (t.D.map ofR) t.F t.inp t.all (t.R.map ofR) t.ord t.O (t.P.map ofC)) _ := Tells.next (G := fun k => tableauref15_Same.l0 k true 0 s.att s.buf (s.D.map ofR) s.F s.inp s.all (s.R.map ofR) s.ord s.O (s.P.map ofC) t.att t.buf (t.D.map ofR) t.F t.inp t.all (t.R.map ofR) t.ord t.O (t.P.map ofC)) (fun k => by rw [show (((s.P.map ofC).length : Int) != ((t.P.map ofC).length : Int)) = false from by simp [hP], tableauref15_Same.j0, if_neg (by simp)]) T
  obtain ⟨r, e, hr⟩ := T2
  refine ⟨r, Ev.neg (by simp [h0]) (Ev.pos h1 (Ev.neg (by simp [h4]) (Ev.neg (by simp [h5]) (Ev.neg (by simp [h7]) (Ev.pos (by omega) (Ev.pos (by omega) (Ev.pos (by omega) (Ev.pos (by omega) (e))))))))), hr.trans ⟨fun q => ⟨h0, h1, mapR_iff.1 q.2.1, q.2.2.1, h4, h5, mapR_iff.1 q.2.2.2.1, h7, q.2.2.2.2.1, mapC_iff.1 q.2.2.2.2.2.1⟩, fun q => ⟨rfl, mapR_iff.2 q.2.2.1, q.2.2.2.1, mapR_iff.2 q.2.2.2.2.2.2.1, q.2.2.2.2.2.2.2.2.1, mapC_iff.2 q.2.2.2.2.2.2.2.2.2, trivial⟩⟩⟩
theorem rsame_any (s t : Stt) (hs ht : Hd) (w : World) (hS : StR w w.heap.size s hs) (hT : StR w w.heap.size t ht) (cs : StC s hs) (ct : StC t ht) (n : StN 1000 s) (m : StN 1000 t) :
    Calls Try.prog 23 #[.agg (stV s hs), .agg (stV t ht)] w fun e w' => (∃ r, e = .returned (.bool r) ∧ (r = true ↔ s = t)) ∧ Below w.heap.size w w' := by
  obtain ⟨r, e, hr⟩ := rsame_tells s t n m
  obtain ⟨k, hk⟩ := e.some_
  have n1 := n.d
  have n2 := n.f
  have n3 := n.r
  have n4 := n.o
  have n5 := n.p
  have m1 := m.d
  have m2 := m.f
  have m3 := m.r
  have m4 := m.o
  have m5 := m.p
  have c1 := cs.d
  have c2 := cs.f
  have c3 := cs.r
  have c4 := cs.o
  have c5 := cs.p
  have d1 := ct.d
  have d2 := ct.f
  have d3 := ct.r
  have d4 := ct.o
  have d5 := ct.p
  have := tableauref15_Same.calls k s.att s.buf hs.dA hs.dc (s.D.map ofR) hs.fA hs.fc s.F s.inp s.all hs.rA hs.rc (s.R.map ofR) s.ord hs.oA hs.oc s.O hs.pA hs.pc (s.P.map ofC) t.att t.buf ht.dA ht.dc (t.D.map ofR) ht.fA ht.fc t.F t.inp t.all ht.rA ht.rc (t.R.map ofR) t.ord ht.oA ht.oc t.O ht.pA ht.pc (t.P.map ofC) r w
    (rect_C (by omega) hS.d) (by rw [List.length_map]; exact c1) (ints_C' (by omega) hS.f) c2 (rect_C (by omega) hS.r) (by rw [List.length_map]; exact c3) (ints_C' (by omega) hS.o) c4 (child_C (by omega) hS.p) (by rw [List.length_map]; exact c5)
    (rect_C (by omega) hT.d) (by rw [List.length_map]; exact d1) (ints_C' (by omega) hT.f) d2 (rect_C (by omega) hT.r) (by rw [List.length_map]; exact d3) (ints_C' (by omega) hT.o) d4 (child_C (by omega) hT.p) (by rw [List.length_map]; exact d5) hk
  simp only [List.length_map] at this
  exact this.mono fun e w' q => ⟨⟨r, q.1, hr.trans ⟨SameS.eq, SameS.of⟩⟩, q.2⟩
end Go.Proofs.Ytnboncbekcodnaa.PR
