/- StatePuts: what the printed law answers, is true. -/
import Derived.Test.YtnbienpcelbkiaaPQSGiven
import Derived.Test.YtnbienpcelbkiaaPQx3
set_option linter.unusedVariables false
set_option linter.unusedSimpArgs false
namespace Go.Proofs.Ytnbienpcelbkiaa.PQ
open Go.RowKit Go.Proofs.YtnbienpcelbkiaaW.PrintWords Go.Proofs.Ytnbienpcelbkiaa.Kit Go.Proofs.Ytnbienpcelbkiaa.St

/-- From some fuel on. -/
def Ev {α : Type} (g : Nat → Option α) (v : α) : Prop := ∃ K, ∀ k, K ≤ k → g k = some v
theorem Ev.ret {α : Type} (v : α) : Ev (fun _ => some v) v := ⟨0, fun _ _ => rfl⟩
theorem Ev.of {α : Type} {g : Option α} {v : α} (h : g = some v) : Ev (fun _ => g) v := ⟨0, fun _ _ => h⟩
theorem Ev.next {α : Type} {g G : Nat → Option α} {v : α} (h : ∀ k, g (k + 1) = G k) (e : Ev G v) : Ev g v := by
  obtain ⟨K, hK⟩ := e
  refine ⟨K + 1, fun k hk => ?_⟩
  obtain ⟨m, rfl⟩ : ∃ m, k = m + 1 := ⟨k - 1, by omega⟩
  rw [h, hK m (by omega)]
theorem Ev.congr {α : Type} {g G : Nat → Option α} {v : α} (h : ∀ k, g k = G k) (e : Ev G v) : Ev g v := by
  obtain ⟨K, hK⟩ := e
  exact ⟨K, fun k hk => by rw [h, hK k hk]⟩
theorem Ev.bind {α β : Type} {g : Nat → Option β} {h : Nat → β → Option α} {v : β} {u : α} (e1 : Ev g v) (e2 : Ev (fun k => h k v) u) : Ev (fun k => (g k).bind (h k)) u := by
  obtain ⟨K, hK⟩ := e1
  obtain ⟨M, hM⟩ := e2
  exact ⟨max K M, fun k hk => by show (g k).bind (h k) = some u; rw [hK k (by omega)]; exact hM k (by omega)⟩
theorem Ev.bind0 {α β : Type} {g : Option β} {h : Nat → β → Option α} {v : β} {u : α} (e1 : g = some v) (e2 : Ev (fun k => h k v) u) : Ev (fun k => g.bind (h k)) u := by
  subst e1; exact e2
theorem w64 {n : Int} (h0 : -9223372036854775808 ≤ n) (h1 : n ≤ 9223372036854775807) : wrap64 n = n := by unfold wrap64; omega

theorem Ev.pos {α : Type} {c : Prop} [Decidable c] {g h : Nat → Option α} {v : α} (hc : c) (e : Ev g v) : Ev (fun k => if c then g k else h k) v := Ev.congr (fun k => if_pos hc) e
theorem Ev.neg {α : Type} {c : Prop} [Decidable c] {g h : Nat → Option α} {v : α} (hc : ¬ c) (e : Ev h v) : Ev (fun k => if c then g k else h k) v := Ev.congr (fun k => if_neg hc) e
theorem rdC {x : List S24} {i : Nat} (h : i < x.length) : rd_T24 x (i : Int) = x[i] := by
  unfold rd_T24
  rw [Int.toNat_natCast, List.getD_eq_getElem?_getD, List.getElem?_eq_getElem h]; rfl
def fr : Option Ch → Int × Int × Int × Bool
  | some c => (c.id, c.x, c.y, true)
  | none => (0, 0, 0, false)
theorem Find_l {l : List S24} (hl : l.length ≤ 9223372036854775806) (a : Int) : ∀ (n i : Nat), i + n = l.length → Ev (fun k => state_Find.l0 k a l (l.length : Int) (i : Int)) (fr (findC ((l.drop i).map toC) a))
  | 0, i, h => by
    rw [List.drop_of_length_le (by omega)]
    exact Ev.next (G := fun k => some (0, 0, 0, false)) (fun k => by rw [state_Find.l0, if_neg (by omega)]) (Ev.ret _)
  | n + 1, i, h => by
    have hi : i < l.length := by omega
    have e1 : wrap64 ((i : Int) + 1) = ((i + 1 : Nat) : Int) := by rw [w64 (by omega) (by omega)]; rfl
    rw [List.drop_eq_getElem_cons hi, List.map_cons]
    refine Ev.next (fun k => by rw [state_Find.l0, if_pos (by omega), if_pos (by omega), if_pos (by omega), rdC hi, e1]) ?_
    by_cases hid : l[i].f0 = a
    · rw [show findC (toC l[i] :: (l.drop (i + 1)).map toC) a = some (toC l[i]) by unfold findC; exact if_pos (c := (toC l[i]).id = a) hid]
      exact Ev.pos hid (Ev.ret _)
    · rw [show findC (toC l[i] :: (l.drop (i + 1)).map toC) a = findC ((l.drop (i + 1)).map toC) a by rw [findC]; exact if_neg (c := (toC l[i]).id = a) hid]
      exact Ev.neg hid (Find_l hl a n (i + 1) (by omega))
theorem Find_eq {l : List S24} (hl : l.length ≤ 9223372036854775806) (a : Int) : Ev (fun k => state_Find.f k l a) (fr (findC (l.map toC) a)) := Find_l hl a l.length 0 (by omega)
/-- **The law, of any list, child and number.** -/
theorem puts_true (l : List S24) (a b c i : Int) : ∃ k, tableaulaw15_StatePuts.f k l a b c i = some true := by
  have e : Ev (fun k => tableaulaw15_StatePuts.f k l a b c i) true := by
    unfold tableaulaw15_StatePuts.f
    by_cases hl : (l.length : Int) > 60
    · exact Ev.pos hl (Ev.ret true)
    · have hm := put_len (l.map toC) ⟨a, b, c⟩
      rw [List.length_map] at hm
      have hp : state_Put.f ([] ++ l) a b c = some ((putC (l.map toC) ⟨a, b, c⟩).map ofC) := by
        unfold state_Put.f
        rw [List.nil_append, if_pos (by omega)]
      have f1 := Find_eq (l := (putC (l.map toC) ⟨a, b, c⟩).map ofC) (by rw [List.length_map]; omega) a
      rw [to_mapC, find_put_same (l.map toC) ⟨a, b, c⟩] at f1
      have f2 := Find_eq (l := (putC (l.map toC) ⟨a, b, c⟩).map ofC) (by rw [List.length_map]; omega) i
      rw [to_mapC] at f2
      have f3 := Find_eq (l := l) (by omega) i
      have hlen : ((putC (l.map toC) ⟨a, b, c⟩).map ofC).length = (putC (l.map toC) ⟨a, b, c⟩).length := List.length_map _
      refine Ev.neg hl ?_
      refine Ev.pos (by rw [List.length_nil]; omega) ?_
      refine Ev.bind0 hp ?_
      refine Ev.bind f1 ?_
      refine Ev.bind f2 ?_
      refine Ev.bind f3 ?_
      refine Ev.pos rfl ?_
      refine Ev.pos (by unfold fr; simp) ?_
      have hw : wrap64 ((l.length : Int) + 1) = (l.length : Int) + 1 := w64 (by omega) (by omega)
      by_cases hi : i = a
      · refine Ev.pos hi ?_
        refine Ev.pos (by omega) ?_
        refine Ev.pos (by rw [hw]; omega) ?_
        exact Ev.ret true
      · refine Ev.neg hi ?_
        rw [find_put_other (l.map toC) ⟨a, b, c⟩ i hi]
        refine Ev.pos (by simp) ?_
        refine Ev.pos (by simp) ?_
        refine Ev.pos (by omega) ?_
        refine Ev.pos (by rw [hw]; omega) ?_
        exact Ev.ret true
  obtain ⟨K, hK⟩ := e
  exact ⟨K, hK K (Nat.le_refl _)⟩
end Go.Proofs.Ytnbienpcelbkiaa.PQ
