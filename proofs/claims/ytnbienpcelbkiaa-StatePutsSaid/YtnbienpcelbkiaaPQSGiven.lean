/- state.Put and tableaulaw15.awake, walked by hand, in the form that the printed texts ask for. -/
import Derived.Test.YtnbienpcelbkiaaPQx0
import Derived.Test.YtnbienpcelbkiaaPQAw15
import Derived.Test.YtnbienpcelbkiaaSt2
set_option linter.unusedVariables false
set_option linter.unusedSimpArgs false
namespace Go.Proofs.Ytnbienpcelbkiaa.PQ
open Go.RowKit Go.Proofs.YtnbienpcelbkiaaW.PrintWords Go.Proofs.Ytnbienpcelbkiaa.Kit Go.Proofs.Ytnbienpcelbkiaa.St

def toC (s : S24) : Ch := ⟨s.f0, s.f1, s.f2⟩
def ofC (c : Ch) : S24 := ⟨c.id, c.x, c.y⟩
theorem of_toC (s : S24) : ofC (toC s) = s := rfl
theorem to_ofC (c : Ch) : toC (ofC c) = c := rfl
theorem to_mapC (l : List Ch) : (l.map ofC).map toC = l := by rw [List.map_map]; exact List.map_id'' (fun c => to_ofC c) l
theorem chunkC (l : List Ch) (j : Nat) (hj : j < l.length) : ((l.flatMap chC).drop (j * 3)).take 3 = chC l[j] := by
  induction l generalizing j with
  | nil => simp at hj
  | cons a l ih =>
    cases j with
    | zero => simp [chC]
    | succ j =>
      rw [show (j + 1) * 3 = 3 + j * 3 by omega, List.flatMap_cons, ← List.drop_drop, List.drop_left' (chC_len a)]
      exact ih j (by simpa using hj)
theorem rds_of_C {w : World} {A : Option Addr} {l : List S24} (h : Kd.C k24 w A l.length l) : Rds w w.heap.size 3 A (l.map toC).length ((l.map toC).flatMap chC) := by
  refine ⟨by rw [flat_len chC 3 chC_len], fun hn => ?_⟩
  obtain ⟨ad, rfl, hc⟩ := h.2.2 (by simpa using hn)
  have key : ∀ (i : Nat) (hi : i < l.length) (j : Nat) (u : Value), (chC (toC l[i]))[j]? = some u → w.cell? (ad.add (i * 3 + j)) = some u := by
    intro i hi j u hu
    obtain ⟨c, _, hK, hcell⟩ := hc i l[i] (List.getElem?_eq_getElem hi)
    obtain rfl := k24_open hK
    exact hcell j u hu
  have h0 := World.block_lt_of_cell? w _ (key 0 (by simpa using hn) 0 _ rfl)
  rw [add_blk] at h0
  refine ⟨ad, rfl, h0, fun j u hu => ?_⟩
  have hl : j < (l.map toC).length * 3 := by
    rw [← flat_len chC 3 chC_len]
    exact (List.getElem?_eq_some_iff.1 hu).1
  have hj : j / 3 < l.length := by rw [List.length_map] at hl; omega
  have e : j = j / 3 * 3 + j % 3 := by omega
  rw [e, flat_at chC 3 chC_len (l.map toC) (j / 3) (by simpa using hj) (j % 3) (by omega)] at hu
  rw [e]
  exact key _ hj _ u (by simpa using hu)
theorem R_of_own {w : World} {base : Nat} {v : Value} {l : List Ch} (h : w.ownsRow base 24 3 v l.length (l.flatMap chC)) : Kd.R k24 24 w base (fun _ => True) v (l.map ofC) := by
  refine ⟨fun _ _ => trivial, l.flatMap chC, by rw [List.length_map]; exact h, by rw [flat_len chC 3 chC_len, List.length_map]; rfl, fun j p hj => ?_⟩
  rw [List.getElem?_map] at hj
  obtain ⟨r, hr, rfl⟩ := Option.map_eq_some_iff.1 hj
  obtain ⟨hlt, rfl⟩ := List.getElem?_eq_some_iff.1 hr
  have := chunkC l j hlt
  show k24.M w base _ (ofC l[j]) (((l.flatMap chC).drop (j * 3)).take 3)
  rw [this]
  exact k24_mkM w base _ (ofC l[j])
def state_Put.f (l0 : List S24) (a b c : Int) : Option (List S24) := if l0.length ≤ 1000000 then some ((putC (l0.map toC) ⟨a, b, c⟩).map ofC) else none
theorem state_Put.calls (A0 : Option Addr) (c0 : Nat) (l0 : List S24) (a b c : Int) (r : List S24) (w : World) (hr0 : Kd.C k24 w A0 l0.length l0) (hc0 : l0.length ≤ c0) (h : state_Put.f l0 a b c = some r) :
    Calls Try.prog 8 #[.slice A0 l0.length c0, .agg #[.int .i64 a, .int .i64 b, .int .i64 c]] w fun e w' => ∃ v0_, e = .returned v0_ ∧ Kd.R k24 24 w' w.heap.size (fun _ => True) v0_ r ∧ Below w.heap.size w w' := by
  unfold state_Put.f at h
  split at h
  · rename_i hk
    obtain rfl := Option.some.inj h
    have := put_any A0 c0 (l0.map toC) ⟨a, b, c⟩ w (by rw [List.length_map]; exact hk) (rds_of_C hr0)
    rw [List.length_map] at this
    refine this.mono fun e w' hp => ?_
    obtain ⟨A', c', rfl, h1, h2⟩ := hp
    exact ⟨_, rfl, R_of_own h1, h2⟩
  · cases h
def tableaulaw15_awake.f : Option Bool := some true
theorem tableaulaw15_awake.calls (r : Bool) (w : World) (h : tableaulaw15_awake.f = some r) : Calls Try.prog 7 #[] w fun e w' => e = .returned (.bool r) ∧ Below w.heap.size w w' := by
  obtain rfl := Option.some.inj h
  exact awake_any w
end Go.Proofs.Ytnbienpcelbkiaa.PQ
