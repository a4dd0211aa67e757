/- What tableaulaw15.once tells. -/
import Derived.Test.YtnboncbekcodnaaPRStSame
import Derived.Test.YtnboncbekcodnaaPRx5
import Derived.Test.YtnboncbekcodnaaStCh
set_option linter.unusedVariables false
set_option linter.unusedSimpArgs false
namespace Go.Proofs.Ytnboncbekcodnaa.PR
open Go.RowKit Go.Proofs.YtnboncbekcodnaaW.PrintWords Go.Proofs.Ytnboncbekcodnaa.Kit Go.Proofs.Ytnboncbekcodnaa.St

theorem Tells.next {g G : Nat → Option Bool} {p : Prop} (h : ∀ k, g (k + 1) = G k) (t : Tells G p) : Tells g p :=
  let ⟨r, e, hr⟩ := t; ⟨r, Ev.next h e, hr⟩
theorem Tells.iff {g : Nat → Option Bool} {p q : Prop} (t : Tells g p) (h : p ↔ q) : Tells g q :=
  let ⟨r, e, hr⟩ := t; ⟨r, e, hr.trans h⟩
theorem once_1 {l : List S24} (hl : l.length ≤ 9223372036854775806) {i : Nat} (hi : i < l.length) {Q : Prop} (hq : Tells (fun K => tableaulaw15_once.l0 K l ((i + 1 : Nat) : Int)) Q) :
    ∀ n k : Nat, k + n = i → Tells (fun K => tableaulaw15_once.l1 K l (i : Int) (k : Int)) ((∀ x, k ≤ x → (hx : x < i) → l[x].f0 ≠ l[i].f0) ∧ Q)
  | 0, k, h => by
    have e1 : wrap64 ((i : Int) + 1) = ((i + 1 : Nat) : Int) := by rw [w64 (by omega) (by omega)]; rfl
    refine Tells.next (G := fun K => tableaulaw15_once.l0 K l ((i + 1 : Nat) : Int)) (fun K => by rw [tableaulaw15_once.l1, if_neg (by omega), e1]) (hq.iff ⟨fun q => ⟨fun x h1 h2 => by omega, q⟩, fun q => q.2⟩)
  | n + 1, k, h => by
    have hk : k < l.length := by omega
    have e1 : wrap64 ((k : Int) + 1) = ((k + 1 : Nat) : Int) := by rw [w64 (by omega) (by omega)]; rfl
    have st : ∀ K, tableaulaw15_once.l1 (K + 1) l (i : Int) (k : Int) = if l[k].f0 = l[i].f0 then some false else tableaulaw15_once.l1 K l (i : Int) ((k + 1 : Nat) : Int) := fun K => by
      rw [tableaulaw15_once.l1, if_pos (by omega), if_pos (by omega), if_pos (by omega), if_pos (by omega), if_pos (by omega), rdC hi, rdC hk, e1]
    by_cases he : l[k].f0 = l[i].f0
    · exact Tells.of (fun hp => absurd he (hp.1 k (Nat.le_refl _) (by omega))) (fun _ => Ev.next st (Ev.pos he (Ev.ret _)))
    · refine (Tells.next (G := fun K => tableaulaw15_once.l1 K l (i : Int) ((k + 1 : Nat) : Int)) (fun K => by rw [st K, if_neg he]) (once_1 hl hi hq n (k + 1) (by omega))).iff ⟨fun q => ⟨fun x h1 h2 => ?_, q.2⟩, fun q => ⟨fun x h1 h2 => q.1 x (by omega) h2, q.2⟩⟩
      by_cases e : x = k
      · subst e; exact he
      · exact q.1 x (by omega) h2
theorem once_0 {l : List S24} (hl : l.length ≤ 9223372036854775806) :
    ∀ n i : Nat, i + n = l.length → Tells (fun K => tableaulaw15_once.l0 K l (i : Int)) (∀ y, i ≤ y → (hy : y < l.length) → ∀ x, (hx : x < y) → l[x].f0 ≠ l[y].f0)
  | 0, i, h => Tells.of (fun _ => Ev.next (G := fun _ => some true) (fun K => by rw [tableaulaw15_once.l0, if_neg (by omega)]) (Ev.ret _)) (fun hp => absurd (fun y h1 h2 => by omega) hp)
  | n + 1, i, h => by
    have hi : i < l.length := by omega
    have ih := once_0 hl n (i + 1) (by omega)
    refine (Tells.next (G := fun K => tableaulaw15_once.l1 K l (i : Int) ((0 : Nat) : Int)) (fun K => by rw [tableaulaw15_once.l0, if_pos (by omega)]; rfl) (once_1 hl hi ih i 0 (by omega))).iff ⟨fun q y h1 h2 x h3 => ?_, fun q => ⟨fun x _ h2 => q i (Nat.le_refl _) hi x h2, fun y h1 h2 x h3 => q y (by omega) h2 x h3⟩⟩
    by_cases e : y = i
    · subst e; exact q.1 x (Nat.zero_le _) h3
    · exact q.2 y (by omega) h2 x h3
theorem once_any (A : Option Addr) (c : Nat) (l : List Ch) (w : World) (hl : Rds w w.heap.size 3 A l.length (l.flatMap chC)) (hc : l.length ≤ c) (n : l.length ≤ 1000) :
    Calls Try.prog 11 #[.slice A l.length c] w fun e w' => (∃ r, e = .returned (.bool r) ∧ (r = true ↔ onceC l)) ∧ Below w.heap.size w w' := by
  have h0 := once_0 (l := l.map ofC) (by rw [List.length_map]; omega) (l.map ofC).length 0 (by omega)
  obtain ⟨r, e, hr⟩ := h0
  obtain ⟨k, hk⟩ := e.some_
  have := tableaulaw15_once.calls k A c (l.map ofC) r w (child_C (by omega) hl) (by rw [List.length_map]; exact hc) hk
  simp only [List.length_map] at this
  refine this.mono ?_
  rintro e w' ⟨he, nd, rfl⟩
  refine ⟨⟨r, he, hr.trans ?_⟩, bl_drewN (Below.refl _ _) nd⟩
  unfold onceC
  rw [List.pairwise_iff_getElem]
  constructor
  · intro q i j hi hj hij
    have := q j (Nat.zero_le _) (by rw [List.length_map]; exact hj) i hij
    simpa [ofC] using this
  · intro q y _ hy x hx
    rw [List.length_map] at hy
    have := q x y (by omega) hy hx
    simpa [ofC] using this
end Go.Proofs.Ytnboncbekcodnaa.PR
