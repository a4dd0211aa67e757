/- A moved region: rows made and copied, bands put together in memory, the walk of region.Shift. -/
import Derived.Test.YtclpppejabfbbaaSl
import Derived.Laws.CopyRow
import Derived.Laws.Tables
import Derived.Test.YtclpppejabfbbaaRg8
import Derived.Test.YtclpppejabfbbaaRectW
import Derived.Test.YtclpppejabfbbaaRgJ
import Derived.Deep.RegionLaw
set_option linter.unusedVariables false
set_option linter.unusedSimpArgs false
/- A whole row made, and a copy into it: for elements of any number of cells. No program. -/
namespace Go.Proofs.Ytclpppejabfbbaa.Kit
open Go.RowKit
section
variable {P : Program} (w : World)
end
end Go.Proofs.Ytclpppejabfbbaa.Kit
/- Bands put together one by one, in memory; a moved region, plain. -/
namespace Go.Proofs.Ytclpppejabfbbaa.Wk
open Go.RowKit Go.Proofs.Ytclpppejabfbbaa.Kit Go.Proofs.Ytclpppejabfbbaa.Reg Go.Proofs.Ytclpppejabfbbaa.Rect

def BnO (w wr : World) (k : Nat) (P : List (Bd × Value)) (out : Value) : Prop :=
  P.length ≤ k ∧ wr.ownsRow w.heap.size 72 3 out P.length (P.flatMap bdP) ∧
  (∀ p ∈ P, wr.ownsRow w.heap.size 69 2 p.2 p.1.v.length (p.1.v.flatMap spC) ∧ p.1.v.length ≤ k ∧ 0 < p.1.v.length) ∧
  P.Pairwise (fun p q => p.2.ownBlock ≠ q.2.ownBlock) ∧ Below w.heap.size w wr
section
variable {w wr : World} {k : Nat} {P : List (Bd × Value)} {out : Value}
theorem BnO.start (w : World) : BnO w w 0 [] (.slice none 0 0) := ⟨by simp, World.ownsRow_nil _ _ _ _, by simp, List.Pairwise.nil, Below.refl _ _⟩
theorem BnO.step (h : BnO w wr k P out) {W : World} (hW : Below wr.heap.size wr W) : BnO w W (k + 1) P out := by
  obtain ⟨h2, h3, h4, h5, h6⟩ := h
  refine ⟨by omega, own_be h3 hW, fun p hp => ?_, h5, h6.trans (hW.mono h6.size)⟩
  obtain ⟨a, b, c⟩ := h4 p hp
  exact ⟨own_be a hW, by omega, c⟩
theorem BnO.push (h : BnO w wr k P out) {r : R} {W w2 : World} {v2 : Value} {gi : Nat}
    (hW : Below wr.heap.size wr W) (hi : W.ownsRow w.heap.size 69 2 (.slice (some ⟨gi, 0, none⟩) 1 1) 1 (spC (rSp r))) (hgi : wr.heap.size ≤ gi)
    (ho : w2.ownsRow w.heap.size 72 3 v2 (P.length + 1) (P.flatMap bdP ++ bdP (rBd r, .slice (some ⟨gi, 0, none⟩) 1 1))) (hg : W.grownBy w2 out.ownBlock) :
    BnO w w2 (k + 1) (P ++ [(rBd r, .slice (some ⟨gi, 0, none⟩) 1 1)]) v2 := by
  obtain ⟨h2, h3, h4, h5, h6⟩ := h
  have h3W := own_be h3 hW
  refine ⟨by simp; omega, by simpa [List.flatMap_append] using ho, fun p hp => ?_, ?_, ?_⟩
  · rcases List.mem_append.1 hp with hp | hp
    · obtain ⟨a, b, c⟩ := h4 p hp
      have aW := own_be a hW
      exact ⟨aW.kept hg (own_two aW h3W (by decide)), by omega, c⟩
    · obtain rfl : p = _ := by simpa using hp
      exact ⟨hi.kept hg (own_two hi h3W (by decide)), by simp [rBd], by simp [rBd]⟩
  · rw [List.pairwise_append]
    refine ⟨h5, List.pairwise_singleton _ _, fun p hp q hq => ?_⟩
    obtain rfl : q = _ := by simpa using hq
    obtain ⟨a, b, c⟩ := h4 p hp
    obtain ⟨g, hg1, _, hg2⟩ := own_block a c
    rw [hg1]
    simp only [Value.ownBlock, ne_eq]
    intro he
    simp at he
    omega
  · exact (h6.trans (hW.mono h6.size)).grown hg (by have := h6.size; have := hW.size; omega) (fun g hg' => (h3W.lt g hg').1)
theorem BnO.ext {L : List (Bd × Value)} {q : Bd × Value} {g oc : Nat} {r : R} (h : BnO w wr k (L ++ [q]) (.slice (some ⟨g, 0, none⟩) (L.length + 1) oc)) {W w3 : World} {v3 : Value}
    (hW : Below wr.heap.size wr W) (hi : w3.ownsRow w.heap.size 69 2 v3 (q.1.v.length + 1) (q.1.v.flatMap spC ++ spC (rSp r))) (hg : W.grownBy w3 q.2.ownBlock) (hat : v3.ownBlock = q.2.ownBlock ∨ v3.ownBlock = some W.heap.size) :
    BnO w (w3.setCell ⟨g, L.length * 3 + 2, none⟩ v3) (k + 1) (L ++ [((⟨q.1.f, q.1.t, q.1.v ++ [rSp r]⟩ : Bd), v3)]) (.slice (some ⟨g, 0, none⟩) (L.length + 1) oc) := by
  obtain ⟨h2, h3, h4, h5, h6⟩ := h
  rw [List.length_append, List.length_singleton] at h2 h3
  have h3W := own_be h3 hW
  obtain ⟨q1, q2, q3⟩ := h4 q (by simp)
  have q1W := own_be q1 hW
  have h33 := h3W.kept hg (own_two h3W q1W (by decide))
  have hgb := gb_set w3 g (L.length * 3 + 2) v3
  have hob : (Value.slice (some ⟨g, 0, none⟩) (L.length + 1) oc).ownBlock = some g := by simp [Value.ownBlock]
  obtain ⟨gq, hq1, hq2, hq3⟩ := own_block q1 q3
  rw [List.pairwise_append] at h5
  refine ⟨by simp; omega, ?_, fun p hp => ?_, ?_, ?_⟩
  · have s1 := (World.ownsRow.stored (w := w3) h33 (L.length * 3 + 2) v3).1
    rw [set_bd2 L q v3 ⟨q.1.f, q.1.t, q.1.v ++ [rSp r]⟩ rfl rfl] at s1
    rw [List.length_append, List.length_singleton]
    exact s1
  · rcases List.mem_append.1 hp with hp | hp
    · obtain ⟨a, b, c⟩ := h4 p (by simp [hp])
      have aW := own_be a hW
      have a3 := aW.kept hg (.inr (h5.2.2 p hp q (by simp)))
      exact ⟨a3.kept hgb (by rw [← hob]; exact own_two a3 h33 (by decide)), by omega, c⟩
    · obtain rfl : p = _ := by simpa using hp
      have h7 := hi.kept hgb (by rw [← hob]; exact own_two hi h33 (by decide))
      refine ⟨?_, by simp; omega, by simp⟩
      simpa [List.flatMap_append] using h7
  · rw [List.pairwise_append]
    refine ⟨h5.1, List.pairwise_singleton _ _, fun p hp r hr => ?_⟩
    obtain rfl : r = _ := by simpa using hr
    obtain ⟨a, b, c⟩ := h4 p (by simp [hp])
    obtain ⟨gp, hp1, _, hp2⟩ := own_block a c
    have h8 := h5.2.2 p hp q (by simp)
    rcases hat with hat | hat
    · show p.2.ownBlock ≠ v3.ownBlock
      rw [hat]; exact h8
    · show p.2.ownBlock ≠ v3.ownBlock
      rw [hat, hp1]
      intro he
      have : gp = W.heap.size := by simpa using he
      have := hW.size
      omega
  · have h9 : Below w.heap.size w w3 := (h6.trans (hW.mono h6.size)).grown hg (by have := h6.size; have := hW.size; omega) (fun g hg' => (q1W.lt g hg').1)
    exact h9.setCell (by show w.heap.size ≤ g; exact (h3.lt g hob).1) _
/-- what is known of the last band -/
theorem BnO.last {L : List (Bd × Value)} {q : Bd × Value} (h : BnO w wr k (L ++ [q]) out) : ∃ g oc g2 c2 : Nat, out = .slice (some ⟨g, 0, none⟩) (L.length + 1) oc ∧ q.2 = .slice (some ⟨g2, 0, none⟩) q.1.v.length c2 ∧
    w.heap.size ≤ g ∧ g < wr.heap.size ∧ w.heap.size ≤ g2 ∧ g2 < wr.heap.size ∧ g ≠ g2 ∧ 0 < q.1.v.length ∧ q.1.v.length ≤ k ∧
    wr.cell? ⟨g, L.length * 3, none⟩ = some (iC q.1.f) ∧ wr.cell? ⟨g, L.length * 3 + 2, none⟩ = some q.2 ∧
    (∀ j, wr.frozen? ⟨g, j, none⟩ = false) ∧ wr.ownsRow w.heap.size 69 2 q.2 q.1.v.length (q.1.v.flatMap spC) := by
  obtain ⟨h2, h3, h4, h5, h6⟩ := h
  obtain ⟨q1, q2, q3⟩ := h4 q (by simp)
  have htw := own_two h3 q1 (by decide)
  rw [List.length_append, List.length_singleton] at h3
  have hq1 := q1
  obtain ⟨A, oc, rfl, hf⟩ := own_form h3
  obtain ⟨g, rfl, a1, a2⟩ := hf (by omega)
  obtain ⟨A2, c2, hv, hf2⟩ := own_form q1
  obtain ⟨g2, rfl, b1, b2⟩ := hf2 q3
  rw [hv] at q1 htw
  refine ⟨g, oc, g2, c2, rfl, hv, a1, a2, b1, b2, ?_, q3, q2, ?_, ?_, h3.frozenAt, hq1⟩
  · rcases htw with h | h
    · simp [Value.ownBlock] at h
    · simpa [Value.ownBlock] using h
  · rw [h3.cellAt (L.length * 3) (by omega), show L.length * 3 = L.length * 3 + 0 by omega, flat_at bdP 3 bdP_len (L ++ [q]) L.length (by simp) 0 (by omega)]; simp [bdP]
  · rw [h3.cellAt (L.length * 3 + 2) (by omega), flat_at bdP 3 bdP_len (L ++ [q]) L.length (by simp) 2 (by omega)]; simp [bdP]
end
/-! plain -/
end Go.Proofs.Ytclpppejabfbbaa.Wk
/- The walk of region.Shift. -/
namespace Go.Proofs.Ytclpppejabfbbaa.Wk
open Go.RowKit Go.Proofs.Ytclpppejabfbbaa.Kit Go.Proofs.Ytclpppejabfbbaa.Reg Go.Proofs.Ytclpppejabfbbaa.Rect

theorem RcP.nil {w w' : World} {l : List R} {e : Ending} (h : l = []) (he : e = .returned (.slice none 0 0)) (hb : Below w.heap.size w w') : RcP w l e w' := by
  subst h; exact ⟨_, he, World.ownsRow_nil _ _ _ _, hb⟩
end Go.Proofs.Ytclpppejabfbbaa.Wk
