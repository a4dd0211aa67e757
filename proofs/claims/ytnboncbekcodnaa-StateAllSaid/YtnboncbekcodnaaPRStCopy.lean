/- A state copied: rows of its own. -/
import Derived.Test.YtnboncbekcodnaaPRStOnce
set_option linter.unusedVariables false
set_option linter.unusedSimpArgs false
namespace Go.Proofs.Ytnboncbekcodnaa.PR
open Go.RowKit Go.Proofs.YtnboncbekcodnaaW.PrintWords Go.Proofs.Ytnboncbekcodnaa.Kit Go.Proofs.Ytnboncbekcodnaa.St

theorem own_of_R {α β : Type} (κ : Kd α) (g : α → β) (f : β → List Value) (sz : Nat) (hs : κ.sz = sz) (h0s : 0 < sz) (hf : ∀ b, (f b).length = sz) {e : Nat} {w : World} {base : Nat} {ok : Nat → Prop} {v : Value} {xs : List α}
    (hM : ∀ (F : Nat → Prop) a c, κ.M w base F a c → c = f (g a)) (h : Kd.R κ e w base ok v xs) : w.ownsRow base e sz v (xs.map g).length ((xs.map g).flatMap f) := by
  subst hs
  obtain ⟨_, inner, ho, hl, hc⟩ := h
  have : inner = (xs.map g).flatMap f := by
    apply List.ext_getElem?
    intro n
    by_cases hn : n < xs.length * κ.sz
    · have hj : n / κ.sz < xs.length := Nat.div_lt_of_lt_mul (by rw [Nat.mul_comm]; exact hn)
      have en : n = n / κ.sz * κ.sz + n % κ.sz := by rw [Nat.mul_comm]; exact (Nat.div_add_mod n κ.sz).symm
      have hr := Nat.mod_lt n h0s
      have hx := hM _ _ _ (hc _ _ (List.getElem?_eq_getElem hj))
      have e2 := congrArg (fun l : List Value => l[n % κ.sz]?) hx
      simp only [List.getElem?_take, if_pos hr, List.getElem?_drop] at e2
      rw [en, e2, flat_at f κ.sz hf (xs.map g) (n / κ.sz) (by simpa using hj) (n % κ.sz) hr, List.getElem_map]
    · rw [List.getElem?_eq_none (by omega), List.getElem?_eq_none (by rw [flat_len f κ.sz hf, List.length_map]; omega)]
  rw [List.length_map, ← this]
  exact ho
theorem map_to_ofR (l : List Rc) : (l.map ofR).map toR = l := by rw [List.map_map]; exact List.map_id l
theorem map_to_ofC (l : List Ch) : (l.map ofC).map toC = l := by rw [List.map_map]; exact List.map_id l
theorem ownR {w : World} {base : Nat} {ok : Nat → Prop} {v : Value} {l : List Rc} (h : Kd.R k47 47 w base ok v (l.map ofR)) : w.ownsRow base 47 4 v l.length (l.flatMap rcC) := by
  have := own_of_R k47 toR rcC 4 rfl (by omega) rcC_len (fun F a c hM => k47_openM hM) h
  rwa [map_to_ofR] at this
theorem ownC {w : World} {base : Nat} {ok : Nat → Prop} {v : Value} {l : List Ch} (h : Kd.R k24 24 w base ok v (l.map ofC)) : w.ownsRow base 24 3 v l.length (l.flatMap chC) := by
  have := own_of_R k24 toC chC 3 rfl (by omega) (fun _ => rfl) (fun F a c hM => k24_openM hM) h
  rwa [map_to_ofC] at this
theorem ownI {w : World} {base : Nat} {ok : Nat → Prop} {v : Value} {l : List Int} (h : Kd.R (Kd.int .i64) 3 w base ok v l) : w.ownsRow base 3 1 v l.length (l.flatMap inC) := by
  have := own_of_R (Kd.int .i64) id inC 1 rfl (by omega) inC_len (fun F a c hM => hM) h
  rwa [List.map_id] at this
theorem copy_O (s : Stt) (h : Hd) (w : World) (hS : StR w w.heap.size s h) (c : StC s h) (n : StN 1000 s) :
    Calls Try.prog 21 #[.agg (stV s h)] w fun e w' => ∃ h', e = .returned (.agg (stV s h')) ∧ StO w' w.heap.size s h' ∧ Below w.heap.size w w' := by
  have n1 := n.d
  have n2 := n.f
  have n3 := n.r
  have n4 := n.o
  have n5 := n.p
  have hf : tableaulaw00_State.f s.att s.buf (s.D.map ofR) s.F s.inp s.all (s.R.map ofR) s.ord s.O (s.P.map ofC) = some (s.att, s.buf, s.D.map ofR, s.F, s.inp, s.all, s.R.map ofR, s.ord, s.O, s.P.map ofC) := by
    unfold tableaulaw00_State.f tableaulaw00_Rects.f tableaulaw00_Ints.f
    rw [if_pos (by simp; omega), Option.bind_some, if_pos (by simp; omega), Option.bind_some, if_pos (by simp; omega), Option.bind_some, if_pos (by simp; omega), Option.bind_some, if_pos (by simp; omega)]
    simp
  have c1 := c.d
  have c2 := c.f
  have c3 := c.r
  have c4 := c.o
  have c5 := c.p
  have := tableaulaw00_State.calls s.att s.buf h.dA h.dc (s.D.map ofR) h.fA h.fc s.F s.inp s.all h.rA h.rc (s.R.map ofR) s.ord h.oA h.oc s.O h.pA h.pc (s.P.map ofC) _ _ _ _ _ _ _ _ _ _ w
    (rect_C (by omega) hS.d) (by rw [List.length_map]; exact c1) (ints_C' (by omega) hS.f) c2 (rect_C (by omega) hS.r) (by rw [List.length_map]; exact c3) (ints_C' (by omega) hS.o) c4 (child_C (by omega) hS.p) (by rw [List.length_map]; exact c5) hf
  simp only [List.length_map] at this
  refine this.mono ?_
  rintro e w' ⟨v2, v3, v6, v8, v9, rfl, h2, h3, h6, h8, h9, hb⟩
  have o2 := ownR h2
  have o3 := ownI h3
  have o6 := ownR h6
  have o8 := ownI h8
  have o9 := ownC h9
  obtain ⟨A2, c2, rfl, _⟩ := own_form o2
  obtain ⟨A3, c3, rfl, _⟩ := own_form o3
  obtain ⟨A6, c6, rfl, _⟩ := own_form o6
  obtain ⟨A8, c8, rfl, _⟩ := own_form o8
  obtain ⟨A9, c9, rfl, _⟩ := own_form o9
  exact ⟨⟨A2, c2, A3, c3, A6, c6, A8, c8, A9, c9⟩, rfl, ⟨o2, o3, o6, o8, o9⟩, hb⟩
set_option maxHeartbeats 8000000 in
theorem rnone_any (s : Sv) (w : World) :
    Calls Try.prog 24 #[.agg s.cells] w fun e w' => e = .returned (.bool (!s.att && s.dn == 0 && s.fn == 0 && !s.inp && !s.ord && s.pn == 0)) ∧ Below w.heap.size w w' := by
  obtain ⟨att, buf, dA, dn, dc, fA, fn, fc, inp, all, rA, rn, rc, ord, oA, on, oc, pA, pn, pc⟩ := s
  go_enter Try.func24, Try.ntmps24
  go_wp2
  all_goals go_ret
  all_goals refine ⟨?_, bl_alloc (Below.refl _ _) _⟩
  all_goals (rename_i h; simp_all)
  all_goals (first | omega | (rw [Bool.eq_iff_iff]; simp))
end Go.Proofs.Ytnboncbekcodnaa.PR
