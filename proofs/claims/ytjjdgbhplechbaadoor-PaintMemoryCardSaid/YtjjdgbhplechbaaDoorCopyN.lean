/- copy from a slice that reads as a list. No program. -/
import Derived.Test.YtjjdgbhplechbaaDoorSl
set_option linter.unusedVariables false
set_option linter.unusedSimpArgs false
namespace Go.Proofs.YtjjdgbhplechbaaDoor.Kit
open Go.RowKit
section
variable {P : Program} (w : World)
theorem run_copyN (base : Nat) (t ty e : TypeId) (i : TypeInfo) (size : Nat) (ht : P.underlying t = some (.slice e)) (hi : P.info? e = some i) (hsize : i.size = size)
    (v : Value) (n : Nat) (ys : List Value) (hown : w.ownsRow base e size v n ys) (B : Nat) (A : Option Addr) (c : Nat) (xs : List Value) (hr : Rds w B size A n xs) (h1 : ∀ u ∈ xs, u.oneCell' = true) :
    ∃ w', (Builtin.copy_ #[t, t] ty #[v, .slice A n c]).run P w = .ok (goInt n) w' ∧ w'.ownsRow base e size v n xs ∧ w.grownBy w' v.ownBlock := by
  obtain ⟨A', c', hv, hf⟩ := own_form hown
  have hlen : Nat.min n n = n := Nat.min_self n
  rcases Nat.eq_zero_or_pos n with h0 | h0
  · subst h0
    have hx : xs = [] := List.eq_nil_of_length_eq_zero (by simpa using hr.1)
    subst hx
    have hy : ys = [] := List.eq_nil_of_length_eq_zero (by simpa using hown.1)
    subst hy
    refine ⟨w, ?_, hown, ⟨rfl, rfl, rfl, Nat.le_refl _, fun _ _ _ => rfl⟩⟩
    rw [hv]
    cases A with
    | none => cases A' <;> simp [Builtin.copy_, run_underlying ht, Builtin.lenOf, Builtin.firstCells, sizeOf, typeInfo, hi, storeCells]
    | some a =>
      have hl := run_loadCells_list (P := P) w a [] (by simp)
      simp only [List.length_nil] at hl
      cases A' <;> simp [Builtin.copy_, run_underlying ht, Builtin.lenOf, Builtin.firstCells, sizeOf, typeInfo, hi, hl, storeCells]
  · obtain ⟨ad, rfl, _, hc⟩ := hr.2 h0
    rcases hown.2 with ⟨_, hn⟩ | ⟨g, cap, cur, rfl, hb, hg, hnc, hcm, hcs, hcx⟩
    · omega
    have hxl := hr.1
    have hfit : 0 + 0 + xs.length ≤ cur.size := by
      have h9 := Nat.mul_le_mul_right size hnc
      rw [hxl, hcs]; simpa using h9
    have hl := run_loadCells_list (P := P) w ad xs hc
    have hst := run_storeCells_at P g 0 e xs 0 cur w hg hfit h1
    rw [hxl] at hl
    refine ⟨w.setRow g (cur.toList.take (0 + 0) ++ xs ++ cur.toList.drop (0 + 0 + xs.length)).toArray, ?_, ?_, ?_⟩
    · have hmin : Nat.min n n = n := Nat.min_self n
      simp only [Builtin.copy_, Builtin.lenOf, Builtin.firstCells, Sem.run_bind, run_underlying ht, sizeOf, typeInfo, hi, hsize]
      simp [Builtin.lenOf, Builtin.firstCells, run_underlying ht, sizeOf, typeInfo, hi, hsize, hmin, hl, hst]
    · refine ⟨hxl, .inr ⟨g, cap, _, rfl, hb, setRow_heap w g cur _ e _ hg, hnc, hcm, ?_, ?_⟩⟩
      · have h9 : cur.toList.length = cap * size := by simpa using hcs
        simp only [List.size_toArray, List.length_append, List.length_take, List.length_drop, h9]
        rw [hcs] at hfit
        omega
      · simp only [List.take_zero, Nat.add_zero, Nat.zero_add, List.nil_append]
        rw [List.take_append_of_le_length (by omega), List.take_of_length_le (by omega)]
    · refine ⟨rfl, rfl, rfl, by simp [World.setRow], fun k _ hk => setRow_other w g k _ (fun e => hk (by rw [e]; rfl))⟩
theorem wpList_copyN {ops : Array Oper} {rest : List Oper} {o : Oper} {a : Act} {Q : Exit → Act → World → Prop} (hgd : o.guard = none) (s x : Operand) (t : TypeId)
    (ho : o.op = .call { callee := .builtin .copy, args := #[s, x], argTypes := #[t, t] })
    (base : Nat) (e : TypeId) (i : TypeInfo) (size : Nat) (ht : P.underlying t = some (.slice e)) (hi : P.info? e = some i) (hsize : i.size = size)
    (v : Value) (n : Nat) (ys : List Value) (hs : a.eval s = v) (hown : w.ownsRow base e size v n ys) (B : Nat) (A : Option Addr) (c : Nat) (xs : List Value) (hx : a.eval x = .slice A n c) (hr : Rds w B size A n xs) (h1 : ∀ u ∈ xs, u.oneCell' = true)
    (h : ∀ w', w'.ownsRow base e size v n xs → w.grownBy w' v.ownBlock → wpList P ops Q rest (a.put o.dst (goInt n)) w') : wpList P ops Q (o :: rest) a w := by
  refine wpList_plain hgd fun _ hK => ?_
  obtain ⟨w', hrun, h2, h3⟩ := run_copyN (P := P) w base t o.type e i size ht hi hsize v n ys hown B A c xs hr h1
  unfold Oper.wp execOp
  simp only [ho, resolve, invoke, builtin, Sem.run_bind, Sem.run_pure, Result.andThen_ok, List.map_toArray, List.map_cons, List.map_nil, hs, hx, hrun]
  exact hK _ _ (h w' h2 h3)
end
end Go.Proofs.YtjjdgbhplechbaaDoor.Kit
