/- Arguments that came in, read as the print's kinds. -/
import Derived.Test.YtnboncbekcodnaaWWords
import Derived.Deep.Slices
import Derived.Deep.Fields
import Derived.ChangeSame
import Derived.OpenShut
set_option linter.unusedVariables false
set_option linter.unusedSimpArgs false
namespace Go.Proofs.Ytnboncbekcodnaa.Open
open Go.RowKit Go.ChangeShapes Go.WideShapes Go.Deep Go.Proofs.YtnboncbekcodnaaW.PrintWords

/-- What is read at a type t is of the kind d, and I holds of it. -/
def Opn (P : Program) (t : TypeId) {α : Type} (d : Kd α) (I : α → Prop) : Prop :=
  ∀ (H : Type) (enc : TypeId × Value → H) (w : World) (base : Nat) (spare : Nat → Bool) (held : Bool) (fuel : Nat) (cs : List Value) (x : DataW H × List MemPlace), DataW.trod enc P w base spare held fuel t cs = some x → ∃ v, d.K w v cs ∧ I v
theorem opn_int {P : Program} {t : TypeId} {k : IntKind} (ht : P.underlying t = some (.int k)) : Opn P t (Kd.int k) (fun a => (Lit.int k a).wf = true) := by
  intro H enc w base spare held fuel cs x h
  obtain ⟨a, ea, _, wa⟩ := DataW.trod_int ht h
  exact ⟨a, ea, wa⟩
theorem opn_bool {P : Program} {t : TypeId} (ht : P.underlying t = some .bool) : Opn P t Kd.bool (fun _ => True) := by
  intro H enc w base spare held fuel cs x h
  obtain ⟨a, ea, _⟩ := DataW.trod_bool ht h
  exact ⟨a, ea, trivial⟩
theorem opn_slice {P : Program} {t e : TypeId} {α : Type} {d : Kd α} {I : α → Prop} (ht : P.underlying t = some (.slice e)) (hc : P.cellsOf e = d.sz) (ho : Opn P e d I) : Opn P t (Kd.slice e d) (fun l => l.length ≤ 9223372036854775807 ∧ ∀ x ∈ l, I x) := by
  intro H enc w base spare held fuel cs x h
  rcases open_slice ht h with ⟨h0, _⟩ | ⟨a, len, cap, m, n, D, Pl, hcs, hb, hl, hm, hmm, hx, hi⟩
  · exact ⟨[], ⟨none, 0, h0, Nat.le_refl _, by simp, by simp, fun h => by simp at h⟩, by simp, by simp⟩
  have hlen : len ≤ m := by rw [hmm]; split <;> omega
  have key : ∀ i : Fin len, ∃ (v : α) (c : List Value), d.K w v c ∧ I v ∧ ∀ j u, c[j]? = some u → w.cell? (a.add (i.1 * d.sz + j)) = some u := by
    intro i
    obtain ⟨cs', hcell, htr⟩ := hi i.1 (by omega)
    rw [hc] at hcell
    obtain ⟨v, hK, hI⟩ := ho _ _ _ _ _ _ _ _ _ htr
    obtain ⟨_, hlc, hat⟩ := World.cells?_some hcell
    refine ⟨v, cs', hK, hI, fun j u hu => ?_⟩
    have hj : j < d.sz := by
      have := (List.getElem?_eq_some_iff.1 hu).1
      omega
    have h1 := hat (i := j) hj
    rw [hu] at h1
    rw [← Addr.add_add]; exact h1
  have hmax : len ≤ 9223372036854775807 := by unfold maxLen at hm; omega
  refine ⟨List.ofFn fun i => Classical.choose (key i), ⟨some a, cap, by simpa using hcs, by simpa using hl, by simp, by simpa using hmax, fun _ => ⟨a, rfl, fun j p hp => ?_⟩⟩, by simpa using hmax, fun y hy => ?_⟩
  · obtain ⟨hj, rfl⟩ := List.getElem?_eq_some_iff.1 hp
    obtain ⟨c, h1, h2, h3⟩ := Classical.choose_spec (key ⟨j, by simpa using hj⟩)
    simp only [List.getElem_ofFn]
    exact ⟨c, d.K_len h1, h1, h3⟩
  · obtain ⟨i, rfl⟩ := List.mem_ofFn.1 hy
    obtain ⟨c, h1, h2, h3⟩ := Classical.choose_spec (key i)
    exact h2
theorem trod_ones {H : Type} {enc : TypeId × Value → H} {P : Program} {w : World} {base : Nat} {spare : Nat → Bool} {held : Bool} {e : TypeId} {fs : Array Field} {n : Nat} {cs : List Value} {x : DataW H × List MemPlace} (he : P.underlying e = some (.struct fs)) (hone : oneCellFields P fs = true) (hC : P.cellsOf e = fs.size)
    (h : DataW.trod enc P w base spare held n e cs = some x) :
    cs.length = fs.size ∧ ∀ (j : Nat) (f : Field), fs[j]? = some f → ∃ (c : Value) (m : Nat) (y : DataW H × List MemPlace), cs[j]? = some c ∧ DataW.trod enc P w base spare held m f.type [c] = some y := by
  obtain ⟨ys, n', _, _, hlen, hyl, hf⟩ := DataW.trod_struct he h
  rw [hC] at hlen
  refine ⟨hlen, fun j f hfj => ?_⟩
  obtain ⟨ho, hk⟩ := hone_of hone j _ hfj
  have hj : j < fs.size := (Array.getElem?_eq_some_iff.1 hfj).1
  have h1 := hf j _ hfj
  rw [ho, hk] at h1
  have hone' : (cs.drop j).take 1 = [cs[j]'(by omega)] := by
    rw [List.drop_eq_getElem_cons (by omega)]; rfl
  rw [hone', List.getElem?_eq_getElem (by omega)] at h1
  exact ⟨_, _, _, List.getElem?_eq_getElem (by omega), h1⟩
end Go.Proofs.Ytnboncbekcodnaa.Open
