/- What the printed functions of the reference answer, first part. (PC: the print's own namespace.) -/
import Derived.Test.YtclpppejabfbbaaPCGiven
import Derived.Test.YtclpppejabfbbaaPCx6
set_option linter.unusedSimpArgs false
namespace Go.Proofs.Ytclpppejabfbbaa.PC
open Go.RowKit Go.Proofs.YtclpppejabfbbaaW.PrintWords Go.Proofs.Ytclpppejabfbbaa.Reg Go.Proofs.Ytclpppejabfbbaa.Rect
set_option linter.unusedVariables false

/-- From some fuel on. -/
def Ev {α : Type} (g : Nat → Option α) (v : α) : Prop := ∃ K, ∀ k, K ≤ k → g k = some v
theorem Ev.ret {α : Type} (v : α) : Ev (fun _ => some v) v := ⟨0, fun _ _ => rfl⟩
theorem Ev.of {α : Type} {g : Option α} {v : α} (h : g = some v) : Ev (fun _ => g) v := ⟨0, fun _ _ => h⟩
theorem Ev.next {α : Type} {g G : Nat → Option α} {v : α} (h : ∀ k, g (k + 1) = G k) (e : Ev G v) : Ev g v := by
  obtain ⟨K, hK⟩ := e
  refine ⟨K + 1, fun k hk => ?_⟩
  obtain ⟨m, rfl⟩ : ∃ m, k = m + 1 := ⟨k - 1, by omega⟩
  rw [h, hK m (by omega)]
theorem Ev.congr {α : Type} {g G : Nat → Option α} {v : α} (h : ∀ k, g k = G k) (e : Ev G v) : Ev g v := by
  obtain ⟨K, hK⟩ := e
  exact ⟨K, fun k hk => by rw [h, hK k hk]⟩
theorem Ev.bind {α β : Type} {g : Nat → Option β} {h : Nat → β → Option α} {v : β} {u : α} (e1 : Ev g v) (e2 : Ev (fun k => h k v) u) : Ev (fun k => (g k).bind (h k)) u := by
  obtain ⟨K, hK⟩ := e1
  obtain ⟨M, hM⟩ := e2
  exact ⟨max K M, fun k hk => by show (g k).bind (h k) = some u; rw [hK k (by omega)]; exact hM k (by omega)⟩
theorem Ev.bind0 {α β : Type} {g : Option β} {h : Nat → β → Option α} {v : β} {u : α} (e1 : g = some v) (e2 : Ev (fun k => h k v) u) : Ev (fun k => g.bind (h k)) u := by
  subst e1; exact e2
theorem w64 {n : Int} (h0 : -9223372036854775808 ≤ n) (h1 : n ≤ 9223372036854775807) : wrap64 n = n := by unfold wrap64; omega

/-! rectangles one by one -/
theorem emp0 (x y w h : Int) : tableauref07_Empty.f x y w h = some (emp ⟨x, y, w, h⟩) := by
  unfold tableauref07_Empty.f emp
  by_cases hw : w < 1 <;> simp [hw]
theorem chk0 {x y w h : Int} (hr : I64 ⟨x, y, w, h⟩) : tableauref07_Check.f x y w h = some (rChk ⟨x, y, w, h⟩) := by
  obtain ⟨⟨a0, a1⟩, ⟨b0, b1⟩, ⟨c0, c1⟩, d0, d1⟩ := hr
  simp only at a0 a1 b0 b1 c0 c1 d0 d1
  have key : ∀ b : Bool, (b = true ↔ chkR ⟨x, y, w, h⟩) → b = rChk ⟨x, y, w, h⟩ := fun b hb => by
    rw [Bool.eq_iff_iff, hb, chk_iff]
  unfold tableauref07_Check.f
  rw [emp0, Option.bind_some]
  by_cases he : emp ⟨x, y, w, h⟩ = true
  · rw [if_pos he, ← key false]
    have := emp_t.1 he
    unfold chkR; simp only at this ⊢; simp; omega
  · have he' : emp ⟨x, y, w, h⟩ = false := by simpa using he
    have := emp_f.1 he'
    simp only at this
    rw [if_neg he]
    unfold tableauref07_in.f
    by_cases h1 : x ≥ -16777216
    · rw [if_pos h1, Option.bind_some]
      by_cases h2 : x ≤ 16777216
      · rw [if_pos (by simpa using h2)]
        by_cases h3 : y ≥ -16777216
        · rw [if_pos h3, Option.bind_some]
          by_cases h4 : y ≤ 16777216
          · rw [if_pos (by simpa using h4), w64 (by omega) (by omega), w64 (by omega) (by omega)]
            by_cases h5 : w ≤ 16777216 - x
            · rw [if_pos h5, ← key]
              unfold chkR; simp only [decide_eq_true_eq]; omega
            · rw [if_neg h5, ← key]
              unfold chkR; simp; omega
          · rw [if_neg (by simpa using h4), ← key]
            unfold chkR; simp; omega
        · rw [if_neg h3, Option.bind_some, if_neg (by simp), ← key]
          unfold chkR; simp; omega
      · rw [if_neg (by simpa using h2), ← key]
        unfold chkR; simp; omega
    · rw [if_neg h1, Option.bind_some, if_neg (by simp), ← key]
      unfold chkR; simp; omega
/-! lists -/
theorem rdT {x : List S26} {i : Nat} (h : i < x.length) : rd_T26 x (i : Int) = x[i] := by
  unfold rd_T26
  rw [Int.toNat_natCast, List.getD_eq_getElem?_getD, List.getElem?_eq_getElem h]; rfl
end Go.Proofs.Ytclpppejabfbbaa.PC
/- What the printed functions of the reference answer, second part. -/
namespace Go.Proofs.Ytclpppejabfbbaa.PC
open Go.RowKit Go.Proofs.YtclpppejabfbbaaW.PrintWords Go.Proofs.Ytclpppejabfbbaa.Reg Go.Proofs.Ytclpppejabfbbaa.Rect Go.Proofs.Ytclpppejabfbbaa.Wk
set_option linter.unusedVariables false

theorem beqS (s t : S26) : (!(s.f0 == t.f0) || (!(s.f1 == t.f1) || (!(s.f2 == t.f2) || (!(s.f3 == t.f3))))) = !decide (toR s = toR t) := by
  have : (toR s = toR t) ↔ (s.f0 = t.f0 ∧ s.f1 = t.f1 ∧ s.f2 = t.f2 ∧ s.f3 = t.f3) := by
    unfold toR
    constructor
    · intro h; injection h with a b c d; exact ⟨a, b, c, d⟩
    · rintro ⟨a, b, c, d⟩; rw [a, b, c, d]
  have e : decide (toR s = toR t) = decide (s.f0 = t.f0 ∧ s.f1 = t.f1 ∧ s.f2 = t.f2 ∧ s.f3 = t.f3) := decide_eq_decide.2 this
  rw [e]
  clear e this
  cases h0 : (s.f0 == t.f0) <;> cases h1 : (s.f1 == t.f1) <;> cases h2 : (s.f2 == t.f2) <;> cases h3 : (s.f3 == t.f3) <;> simp_all
theorem Same1 {a b : List S26} (hl : a.length = b.length) (ha : a.length ≤ 1000000000) : ∀ (n i : Nat), i + n = a.length → Ev (fun k => tableauref08_Same.l0 k a b (i : Int)) (decide ((a.drop i).map toR = (b.drop i).map toR))
  | 0, i, h => by
    refine Ev.next (G := fun k => some true) (fun k => ?_) ?_
    · rw [tableauref08_Same.l0, if_neg (by omega)]
    · rw [List.drop_of_length_le (by omega), List.drop_of_length_le (by omega)]; exact Ev.ret true
  | n + 1, i, h => by
    have ih := Same1 hl ha n (i + 1) (by omega)
    have hi : i < a.length := by omega
    have hj : i < b.length := by omega
    refine Ev.next (G := fun k => if (!decide (toR a[i] = toR b[i])) = true then some false else tableauref08_Same.l0 k a b ((i + 1 : Nat) : Int)) (fun k => ?_) ?_
    · rw [tableauref08_Same.l0, if_pos (by omega), if_pos (by omega), if_pos (by omega), rdT hi, rdT hj, beqS, w64 (by omega) (by omega)]; rfl
    · rw [List.drop_eq_getElem_cons hi, List.drop_eq_getElem_cons hj, List.map_cons, List.map_cons]
      by_cases he : toR a[i] = toR b[i]
      · simp only [he, decide_true, Bool.not_true, Bool.false_eq_true, if_false, List.cons.injEq, true_and]
        exact ih
      · simp only [he, decide_false, Bool.not_false, if_true, List.cons.injEq, false_and]
        exact Ev.ret false
theorem Same_eq {a b : List S26} (ha : a.length ≤ 1000000000) : Ev (fun k => tableauref08_Same.f k a b) (decide (a.map toR = b.map toR)) := by
  unfold tableauref08_Same.f
  by_cases hl : a.length = b.length
  · have h1 : (a.length : Int) = (b.length : Int) := by omega
    simp only [h1, if_true]
    exact Same1 hl ha a.length 0 (by omega)
  · have h1 : ¬ (a.length : Int) = (b.length : Int) := by omega
    simp only [h1, if_false]
    have : ¬ (a.map toR = b.map toR) := fun h => hl (by simpa using congrArg List.length h)
    rw [decide_eq_false this]
    exact Ev.ret false
theorem okM_iff {l : List S26} : okM l = true ↔ l.length ≤ 10000 ∧ ∀ r ∈ l.map toR, rChk r = true := by
  simp [okM]
theorem make1_eq {a b : List S26} {o : Int} (ha : okM a = true) (hb : okM b = true) : tableauref08_make1.f a b o = some ((makeR (opN o) (a.map toR) (b.map toR)).map ofR) := by
  unfold tableauref08_make1.f
  rw [if_pos (by rw [ha, hb]; rfl)]
theorem to_map (l : List R) : (l.map ofR).map toR = l := by
  rw [List.map_map]; exact List.map_id'' (fun r => to_of r) l
theorem Check1 {l : List S26} (h64 : ∀ s ∈ l, I64 (toR s)) (hl : l.length ≤ 10000) : ∀ (n i : Nat), i + n = l.length → (∀ r ∈ (l.take i).map toR, rChk r = true) → Ev (fun k => tableauref08_Check.l0 k l (i : Int)) (chkF (l.map toR))
  | 0, i, h, hp => by
    have hp' : ∀ r ∈ l.map toR, rChk r = true := by rwa [List.take_of_length_le (by omega)] at hp
    have hm := make1_eq (a := l) (b := []) (o := 0) (okM_iff.2 ⟨hl, hp'⟩) rfl
    refine Ev.next (G := fun k => (tableauref08_make1.f l ([] : List S26) 0).bind fun t => (tableauref08_Same.f k l t).bind fun u => some u) (fun k => ?_) ?_
    · rw [tableauref08_Check.l0, if_neg (by omega)]
    · refine Ev.bind0 hm ?_
      have e := Same_eq (a := l) (b := (makeR (opN 0) (l.map toR) ([].map toR)).map ofR) (by omega)
      rw [to_map] at e
      have : chkF (l.map toR) = decide (l.map toR = makeR (opN 0) (l.map toR) ([].map toR)) := by
        unfold chkF
        rw [List.all_eq_true.2 hp', Bool.true_and]; rfl
      rw [this]
      exact Ev.bind e (Ev.ret _)
  | n + 1, i, h, hp => by
    have hi : i < l.length := by omega
    refine Ev.next (G := fun k => (tableauref07_Check.f l[i].f0 l[i].f1 l[i].f2 l[i].f3).bind fun t => if t = true then tableauref08_Check.l0 k l ((i + 1 : Nat) : Int) else some false) (fun k => ?_) ?_
    · rw [tableauref08_Check.l0, if_pos (by omega), if_pos (by omega), rdT hi, w64 (by omega) (by omega)]; rfl
    · refine Ev.bind0 (chk0 (h64 _ (List.getElem_mem hi))) ?_
      show Ev (fun k => if rChk (toR l[i]) = true then tableauref08_Check.l0 k l ((i + 1 : Nat) : Int) else some false) _
      cases hc : rChk (toR l[i]) with
      | true =>
        simp only [if_true]
        refine Check1 h64 hl n (i + 1) (by omega) ?_
        rw [List.take_succ_eq_append_getElem hi, List.map_append]
        intro r hr
        rcases List.mem_append.1 hr with h1 | h1
        · exact hp r h1
        · obtain rfl : r = toR l[i] := by simpa using h1
          exact hc
      | false =>
        simp only [Bool.false_eq_true, if_false]
        have : chkF (l.map toR) = false := by
          unfold chkF
          rw [Bool.and_eq_false_iff]
          left
          rw [List.all_eq_false]
          exact ⟨toR l[i], List.mem_map_of_mem (List.getElem_mem hi), by simp [hc]⟩
        rw [this]
        exact Ev.ret false
theorem Check_eq {l : List S26} (h64 : ∀ s ∈ l, I64 (toR s)) (hl : l.length ≤ 10000) : Ev (fun k => tableauref08_Check.f k l) (chkF (l.map toR)) :=
  Check1 h64 hl l.length 0 (by omega) (by simp)
end Go.Proofs.Ytclpppejabfbbaa.PC
/- The shared part: the program's functions over regions as the plain ones, Place, SameRects. -/
namespace Go.Proofs.Ytclpppejabfbbaa.PC
open Go.RowKit Go.Proofs.YtclpppejabfbbaaW.PrintWords Go.Proofs.Ytclpppejabfbbaa.Reg Go.Proofs.Ytclpppejabfbbaa.Rect Go.Proofs.Ytclpppejabfbbaa.Wk
set_option linter.unusedVariables false

theorem rg64 {l : List R} (h : Rg l) : ∀ s ∈ l.map ofR, I64 (toR s) := by
  intro s hs
  obtain ⟨r, hr, rfl⟩ := List.mem_map.1 hs
  exact chk64 (h.chk r hr)
theorem okL_of {l : List R} (h : Rg l) (hl : l.length ≤ 200000) : okL (l.map ofR) = true := by
  simp only [okL, Bool.and_eq_true, decide_eq_true_eq, List.all_eq_true]
  refine ⟨by simpa using hl, fun s hs => ?_⟩
  have := rg64 h s hs
  unfold I64 toR at this
  simp only [okS, Bool.and_eq_true, i64b_iff]
  exact this
theorem Check_f {l : List R} (h : Rg l) (hl : l.length ≤ 200000) : region_Check.f (l.map ofR) = some true := by
  unfold region_Check.f
  rw [okL_of h hl, if_pos (by rfl), to_map, show (bandsF l).isSome = true from h]
theorem Union_f {a b : List R} (ha : Rg a) (hb : Rg b) (la : a.length ≤ 200000) (lb : b.length ≤ 200000) : region_Union.f (a.map ofR) (b.map ofR) = some ((joinF (· || ·) a b).map ofR) := by
  unfold region_Union.f; rw [okL_of ha la, okL_of hb lb, if_pos (by rfl), to_map, to_map]
theorem Place_eq (a m : Int) (hm : 0 < m) (hm2 : m ≤ 9223372036854775807) : ∃ v, tableaulaw00_Place.f a m = some v ∧ 0 ≤ v ∧ v < m := by
  have h1 := Int.tmod_lt_of_pos a hm
  have h2 := Int.lt_tmod_of_pos a hm
  unfold tableaulaw00_Place.f
  rw [if_neg (by omega)]
  by_cases h : Int.tmod a m < 0
  · rw [if_pos h, w64 (by omega) (by omega)]; exact ⟨_, rfl, by omega, by omega⟩
  · rw [if_neg h]; exact ⟨_, rfl, by omega, by omega⟩
theorem Ev.pos {α : Type} {c : Prop} [Decidable c] {g h : Nat → Option α} {v : α} (hc : c) (e : Ev g v) : Ev (fun k => if c then g k else h k) v := Ev.congr (fun k => if_pos hc) e
theorem Ev.neg {α : Type} {c : Prop} [Decidable c] {g h : Nat → Option α} {v : α} (hc : ¬ c) (e : Ev h v) : Ev (fun k => if c then g k else h k) v := Ev.congr (fun k => if_neg hc) e
theorem Same_l {l : List S26} (hl : l.length ≤ 1000000) : ∀ (n i : Nat), i + n = l.length → Ev (fun k => tableaulaw00_SameRects.l0 k l l (i : Int)) true
  | 0, i, h => Ev.next (G := fun k => some true) (fun k => by rw [tableaulaw00_SameRects.l0, if_neg (by omega)]) (Ev.ret _)
  | n + 1, i, h => by
    refine Ev.next (fun k => ?_) (Same_l hl n (i + 1) (by omega))
    rw [tableaulaw00_SameRects.l0, if_pos (by omega), if_pos (by omega), if_pos (by omega), if_neg (by simp), w64 (by omega) (by omega)]
    rfl
theorem SameRects_eq {l : List S26} (hl : l.length ≤ 1000000) : Ev (fun k => tableaulaw00_SameRects.f k l l) true := by
  unfold tableaulaw00_SameRects.f
  exact Ev.pos rfl (Same_l hl l.length 0 (by omega))
end Go.Proofs.Ytclpppejabfbbaa.PC
