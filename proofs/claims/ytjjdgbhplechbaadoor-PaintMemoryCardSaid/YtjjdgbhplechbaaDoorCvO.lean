/- Arguments that came in: views, images, points. -/
import Derived.Test.YtjjdgbhplechbaaDoorCvFo
import Derived.Deep.Slices
import Derived.Deep.Fields
import Derived.ChangeSame
import Derived.OpenShut
set_option linter.unusedVariables false
set_option linter.unusedSimpArgs false
namespace Go.Proofs.YtjjdgbhplechbaaDoor.Cv
open Go.RowKit Go.ChangeShapes Go.WideShapes Go.Deep Go.Proofs.YtjjdgbhplechbaaDoor.Kit
theorem trod_ones {H : Type} {enc : TypeId × Value → H} {P : Program} {w : World} {base : Nat} {spare : Nat → Bool} {held : Bool} {e : TypeId} {fs : Array Field} {n : Nat} {cs : List Value} {x : DataW H × List MemPlace} (he : P.underlying e = some (.struct fs)) (hone : oneCellFields P fs = true) (hC : P.cellsOf e = fs.size)
    (h : DataW.trod enc P w base spare held n e cs = some x) :
    cs.length = fs.size ∧ ∀ (j : Nat) (f : Field), fs[j]? = some f → ∃ (c : Value) (m : Nat) (y : DataW H × List MemPlace), cs[j]? = some c ∧ DataW.trod enc P w base spare held m f.type [c] = some y := by
  obtain ⟨ys, n', _, _, hlen, hyl, hf⟩ := DataW.trod_struct he h
  rw [hC] at hlen
  refine ⟨hlen, fun j f hfj => ?_⟩
  obtain ⟨ho, hk⟩ := hone_of hone j _ hfj
  have hj : j < fs.size := (Array.getElem?_eq_some_iff.1 hfj).1
  have h1 := hf j _ hfj
  rw [ho, hk] at h1
  have hone' : (cs.drop j).take 1 = [cs[j]'(by omega)] := by
    rw [List.drop_eq_getElem_cons (by omega)]; rfl
  rw [hone', List.getElem?_eq_getElem (by omega)] at h1
  exact ⟨_, _, _, List.getElem?_eq_getElem (by omega), h1⟩

/-- A slice that came in: its elements' cells, and what holds of each. -/
theorem open_rows {α : Type} (f : α → List Value) (sz : Nat) (h0s : 0 < sz) (hf : ∀ a, (f a).length = sz) (I : α → Prop) {H : Type} {enc : TypeId × Value → H} {P : Program} {w : World} {base : Nat} {spare : Nat → Bool} {held : Bool} {fuel : Nat} {t e : TypeId} {cs : List Value} {x : DataW H × List MemPlace}
    (ht : P.underlying t = some (.slice e)) (hc : P.cellsOf e = sz) (ho : ∀ (fuel : Nat) (cs : List Value) (x : DataW H × List MemPlace), DataW.trod enc P w base spare held fuel e cs = some x → ∃ v, cs = f v ∧ I v)
    (h : DataW.trod enc P w base spare held fuel t cs = some x) :
    ∃ (A : Option Addr) (l : List α) (c : Nat), cs = [.slice A l.length c] ∧ l.length ≤ c ∧ Rds w w.heap.size sz A l.length (l.flatMap f) ∧ (∀ v ∈ l, I v) ∧ l.length ≤ 9223372036854775807 := by
  rcases open_slice ht h with ⟨h0, _⟩ | ⟨a, len, cap, m, n, D, Pl, hcs, hb, hl, hm, hmm, hx, hi⟩
  · exact ⟨none, [], 0, h0, Nat.le_refl _, Rds.none_, by simp, by simp⟩
  have hlen : len ≤ m := by rw [hmm]; split <;> omega
  have key : ∀ i : Fin len, ∃ (v : α), I v ∧ ∀ j u, (f v)[j]? = some u → w.cell? (a.add (i.1 * sz + j)) = some u := by
    intro i
    obtain ⟨cs', hcell, htr⟩ := hi i.1 (by omega)
    rw [hc] at hcell
    obtain ⟨v, hK, hI⟩ := ho _ _ _ htr
    obtain ⟨_, hlc, hat⟩ := World.cells?_some hcell
    subst hK
    refine ⟨v, hI, fun j u hu => ?_⟩
    have hj : j < sz := by
      have := (List.getElem?_eq_some_iff.1 hu).1
      rw [hf] at this
      exact this
    have h1 := hat (i := j) hj
    rw [hu] at h1
    rw [← Addr.add_add]
    exact h1
  have hmax : len ≤ 9223372036854775807 := by unfold maxLen at hm; omega
  refine ⟨some a, List.ofFn fun i => Classical.choose (key i), cap, by simpa using hcs, by simpa using hl, ?_, fun y hy => ?_, by simpa using hmax⟩
  · refine ⟨by rw [flat_len f sz hf], fun hn => ⟨a, rfl, ?_, fun j u hu => ?_⟩⟩
    · have hn' : 0 < len := by simpa using hn
      have h0 := World.block_lt_of_cell? w _ ((Classical.choose_spec (key ⟨0, hn'⟩)).2 0 _ (List.getElem?_eq_getElem (by rw [hf]; exact h0s)))
      rw [add_blk] at h0
      exact h0
    have hl' : j < (List.ofFn fun i => Classical.choose (key i)).length * sz := by
      rw [← flat_len f sz hf]
      exact (List.getElem?_eq_some_iff.1 hu).1
    have hj : j / sz < len := by
      rw [List.length_ofFn] at hl'
      exact Nat.div_lt_of_lt_mul (by rw [Nat.mul_comm]; exact hl')
    have e : j = j / sz * sz + j % sz := by rw [Nat.mul_comm]; exact (Nat.div_add_mod j sz).symm
    rw [e, flat_at f sz hf _ (j / sz) (by simpa using hj) (j % sz) (Nat.mod_lt _ h0s)] at hu
    rw [e]
    simp only [List.getElem_ofFn] at hu
    exact (Classical.choose_spec (key ⟨j / sz, hj⟩)).2 _ _ hu
  · obtain ⟨i, rfl⟩ := List.mem_ofFn.1 hy
    exact (Classical.choose_spec (key i)).1
theorem flat_one (l : List Int) : l.flatMap (fun v : Int => [Value.int .u32 v]) = l.map (Value.int .u32) := by
  induction l with
  | nil => rfl
  | cons a l ih => rw [List.flatMap_cons, ih]; rfl
section
variable {H : Type} {enc : TypeId × Value → H} {w : World} {base : Nat} {spare : Nat → Bool} {held : Bool} {fuel : Nat} {cs : List Value} {x : DataW H × List MemPlace}
theorem open_words (h : DataW.trod enc Tryd.prog w base spare held fuel 34 cs = some x) :
    ∃ (A : Option Addr) (l : List Int) (c : Nat), cs = [.slice A l.length c] ∧ l.length ≤ c ∧ Rds w w.heap.size 1 A l.length (l.map (Value.int .u32)) ∧ (∀ v ∈ l, 0 ≤ v ∧ v < 4294967296) ∧ l.length ≤ 9223372036854775807 := by
  obtain ⟨A, l, c, e, hc, hr, hI, hm⟩ := open_rows (fun v : Int => [Value.int .u32 v]) 1 (by omega) (fun _ => rfl) (fun v => 0 ≤ v ∧ v < 4294967296) Tryd.underlying34 (by kernel_rfl) (fun fuel cs x h => by
    obtain ⟨a, ea, _, wa⟩ := DataW.trod_int Tryd.underlying22 h
    have := bounds_u32 wa
    exact ⟨a, ea, by omega⟩) h
  refine ⟨A, l, c, e, hc, ?_, hI, hm⟩
  rwa [flat_one] at hr
theorem open_views (h : DataW.trod enc Tryd.prog w base spare held fuel 53 cs = some x) :
    ∃ (A : Option Addr) (l : List Vw) (c : Nat), cs = [.slice A l.length c] ∧ l.length ≤ c ∧ Rds w w.heap.size 6 A l.length (l.flatMap vwC) ∧ l.length ≤ 9223372036854775807 := by
  obtain ⟨A, l, c, e, hc, hr, _, hm⟩ := open_rows vwC 6 (by omega) vwC_len (fun _ => True) Tryd.underlying53 (by kernel_rfl) (fun fuel cs x h => by
    obtain ⟨hl, hf⟩ := trod_ones Tryd.underlying60 (by kernel_rfl) (by kernel_rfl) h
    obtain ⟨c0, m0, y0, e0, t0⟩ := hf 0 _ rfl
    obtain ⟨a0, k0, _, _⟩ := DataW.trod_int Tryd.underlying3 t0
    obtain rfl : c0 = .int .i64 a0 := by simpa using k0
    obtain ⟨c1, m1, y1, e1, t1⟩ := hf 1 _ rfl
    obtain ⟨a1, k1, _, _⟩ := DataW.trod_int Tryd.underlying3 t1
    obtain rfl : c1 = .int .i64 a1 := by simpa using k1
    obtain ⟨c2, m2, y2, e2, t2⟩ := hf 2 _ rfl
    obtain ⟨a2, k2, _, _⟩ := DataW.trod_int Tryd.underlying3 t2
    obtain rfl : c2 = .int .i64 a2 := by simpa using k2
    obtain ⟨c3, m3, y3, e3, t3⟩ := hf 3 _ rfl
    obtain ⟨a3, k3, _, _⟩ := DataW.trod_int Tryd.underlying3 t3
    obtain rfl : c3 = .int .i64 a3 := by simpa using k3
    obtain ⟨c4, m4, y4, e4, t4⟩ := hf 4 _ rfl
    obtain ⟨a4, k4, _, _⟩ := DataW.trod_int Tryd.underlying3 t4
    obtain rfl : c4 = .int .i64 a4 := by simpa using k4
    obtain ⟨c5, m5, y5, e5, t5⟩ := hf 5 _ rfl
    obtain ⟨a5, k5, _, _⟩ := DataW.trod_int Tryd.underlying3 t5
    obtain rfl : c5 = .int .i64 a5 := by simpa using k5
    refine ⟨⟨a0, a1, a2, a3, a4, a5⟩, ?_, trivial⟩
    match cs, hl, e0, e1, e2, e3, e4, e5 with
    | [_, _, _, _, _, _], _, e0, e1, e2, e3, e4, e5 => simp at e0 e1 e2 e3 e4 e5; simp [vwC, e0, e1, e2, e3, e4, e5]) h
  exact ⟨A, l, c, e, hc, hr, hm⟩
theorem open_images (h : DataW.trod enc Tryd.prog w base spare held fuel 54 cs = some x) :
    ∃ (A : Option Addr) (l : List Im) (c : Nat), cs = [.slice A l.length c] ∧ l.length ≤ c ∧ RdI w w.heap.size A l ∧ l.length ≤ 9223372036854775807 := by
  obtain ⟨A, l, c, e, hc, hr, hI, hm⟩ := open_rows imC 4 (by omega) imC_len (fun g => Rds w w.heap.size 1 g.A g.P.length (g.P.map (Value.int .u32)) ∧ ∀ v ∈ g.P, 0 ≤ v ∧ v < 4294967296) Tryd.underlying54 (by kernel_rfl) (fun fuel cs x h => by
    obtain ⟨hl, hf⟩ := trod_ones Tryd.underlying62 (by kernel_rfl) (by kernel_rfl) h
    obtain ⟨c0, m0, y0, e0, t0⟩ := hf 0 _ rfl
    obtain ⟨a0, k0, _, _⟩ := DataW.trod_int Tryd.underlying3 t0
    obtain rfl : c0 = .int .i64 a0 := by simpa using k0
    obtain ⟨c1, m1, y1, e1, t1⟩ := hf 1 _ rfl
    obtain ⟨a1, k1, _, _⟩ := DataW.trod_int Tryd.underlying3 t1
    obtain rfl : c1 = .int .i64 a1 := by simpa using k1
    obtain ⟨c2, m2, y2, e2, t2⟩ := hf 2 _ rfl
    obtain ⟨a2, k2, _, _⟩ := DataW.trod_int Tryd.underlying3 t2
    obtain rfl : c2 = .int .i64 a2 := by simpa using k2
    obtain ⟨c3, m3, y3, e3, t3⟩ := hf 3 _ rfl
    obtain ⟨A3, P3, b3, k3, _, hr3, hu3, _⟩ := open_words t3
    obtain rfl : c3 = .slice A3 P3.length b3 := by simpa using k3
    refine ⟨⟨a0, a1, a2, P3, A3, b3⟩, ?_, hr3, hu3⟩
    match cs, hl, e0, e1, e2, e3 with
    | [_, _, _, _], _, e0, e1, e2, e3 => simp at e0 e1 e2 e3; simp [imC, e0, e1, e2, e3]) h
  exact ⟨A, l, c, e, hc, ⟨hr, fun g hg => (hI g hg).1, fun g hg => (hI g hg).2⟩, hm⟩
end
end Go.Proofs.YtjjdgbhplechbaaDoor.Cv
