/- Texts of this claim, one behind the other: each begins with its own remark. -/
import Derived.Test.YtclpppejabfbbaaPFGiven
import Derived.Test.YtclpppejabfbbaaPFx6
import Derived.Test.YtclpppejabfbbaaPFGivenT
import Derived.Test.YtclpppejabfbbaaRf5
/- What the printed functions of the reference answer, first part. (PF: the print's own namespace.) -/
set_option linter.unusedSimpArgs false
namespace Go.Proofs.Ytclpppejabfbbaa.PF
open Go.RowKit Go.Proofs.YtclpppejabfbbaaW.PrintWords Go.Proofs.Ytclpppejabfbbaa.Reg Go.Proofs.Ytclpppejabfbbaa.Rect
set_option linter.unusedVariables false

/-- From some fuel on. -/
def Ev {α : Type} (g : Nat → Option α) (v : α) : Prop := ∃ K, ∀ k, K ≤ k → g k = some v
theorem Ev.ret {α : Type} (v : α) : Ev (fun _ => some v) v := ⟨0, fun _ _ => rfl⟩
theorem Ev.of {α : Type} {g : Option α} {v : α} (h : g = some v) : Ev (fun _ => g) v := ⟨0, fun _ _ => h⟩
theorem Ev.next {α : Type} {g G : Nat → Option α} {v : α} (h : ∀ k, g (k + 1) = G k) (e : Ev G v) : Ev g v := by
  obtain ⟨K, hK⟩ := e
  refine ⟨K + 1, fun k hk => ?_⟩
  obtain ⟨m, rfl⟩ : ∃ m, k = m + 1 := ⟨k - 1, by omega⟩
  rw [h, hK m (by omega)]
theorem Ev.congr {α : Type} {g G : Nat → Option α} {v : α} (h : ∀ k, g k = G k) (e : Ev G v) : Ev g v := by
  obtain ⟨K, hK⟩ := e
  exact ⟨K, fun k hk => by rw [h, hK k hk]⟩
theorem Ev.bind {α β : Type} {g : Nat → Option β} {h : Nat → β → Option α} {v : β} {u : α} (e1 : Ev g v) (e2 : Ev (fun k => h k v) u) : Ev (fun k => (g k).bind (h k)) u := by
  obtain ⟨K, hK⟩ := e1
  obtain ⟨M, hM⟩ := e2
  exact ⟨max K M, fun k hk => by show (g k).bind (h k) = some u; rw [hK k (by omega)]; exact hM k (by omega)⟩
theorem Ev.bind0 {α β : Type} {g : Option β} {h : Nat → β → Option α} {v : β} {u : α} (e1 : g = some v) (e2 : Ev (fun k => h k v) u) : Ev (fun k => g.bind (h k)) u := by
  subst e1; exact e2
theorem w64 {n : Int} (h0 : -9223372036854775808 ≤ n) (h1 : n ≤ 9223372036854775807) : wrap64 n = n := by unfold wrap64; omega

/-! rectangles one by one -/
theorem emp0 (x y w h : Int) : tableauref07_Empty.f x y w h = some (emp ⟨x, y, w, h⟩) := by
  unfold tableauref07_Empty.f emp
  by_cases hw : w < 1 <;> simp [hw]
theorem chk0 {x y w h : Int} (hr : I64 ⟨x, y, w, h⟩) : tableauref07_Check.f x y w h = some (rChk ⟨x, y, w, h⟩) := by
  unfold tableauref07_Check.f
  rw [if_pos (ok4_iff.2 hr)]
/-! lists -/
theorem rdT {x : List S26} {i : Nat} (h : i < x.length) : rd_T26 x (i : Int) = x[i] := by
  unfold rd_T26
  rw [Int.toNat_natCast, List.getD_eq_getElem?_getD, List.getElem?_eq_getElem h]; rfl
end Go.Proofs.Ytclpppejabfbbaa.PF
/- What the printed functions of the reference answer, second part. -/
namespace Go.Proofs.Ytclpppejabfbbaa.PF
open Go.RowKit Go.Proofs.YtclpppejabfbbaaW.PrintWords Go.Proofs.Ytclpppejabfbbaa.Reg Go.Proofs.Ytclpppejabfbbaa.Rect Go.Proofs.Ytclpppejabfbbaa.Wk
set_option linter.unusedVariables false

theorem beqS (s t : S26) : (!(s.f0 == t.f0) || (!(s.f1 == t.f1) || (!(s.f2 == t.f2) || (!(s.f3 == t.f3))))) = !decide (toR s = toR t) := by
  have : (toR s = toR t) ↔ (s.f0 = t.f0 ∧ s.f1 = t.f1 ∧ s.f2 = t.f2 ∧ s.f3 = t.f3) := by
    unfold toR
    constructor
    · intro h; injection h with a b c d; exact ⟨a, b, c, d⟩
    · rintro ⟨a, b, c, d⟩; rw [a, b, c, d]
  have e : decide (toR s = toR t) = decide (s.f0 = t.f0 ∧ s.f1 = t.f1 ∧ s.f2 = t.f2 ∧ s.f3 = t.f3) := decide_eq_decide.2 this
  rw [e]
  clear e this
  cases h0 : (s.f0 == t.f0) <;> cases h1 : (s.f1 == t.f1) <;> cases h2 : (s.f2 == t.f2) <;> cases h3 : (s.f3 == t.f3) <;> simp_all
theorem Same1 {a b : List S26} (hl : a.length = b.length) (ha : a.length ≤ 1000000000) : ∀ (n i : Nat), i + n = a.length → Ev (fun k => tableauref08_Same.l0 k a b (i : Int)) (decide ((a.drop i).map toR = (b.drop i).map toR))
  | 0, i, h => by
    refine Ev.next (G := fun k => some true) (fun k => ?_) ?_
    · rw [tableauref08_Same.l0, if_neg (by omega)]
    · rw [List.drop_of_length_le (by omega), List.drop_of_length_le (by omega)]; exact Ev.ret true
  | n + 1, i, h => by
    have ih := Same1 hl ha n (i + 1) (by omega)
    have hi : i < a.length := by omega
    have hj : i < b.length := by omega
    refine Ev.next (G := fun k => if (!decide (toR a[i] = toR b[i])) = true then some false else tableauref08_Same.l0 k a b ((i + 1 : Nat) : Int)) (fun k => ?_) ?_
    · rw [tableauref08_Same.l0, if_pos (by omega), if_pos (by omega), if_pos (by omega), rdT hi, rdT hj, beqS, w64 (by omega) (by omega)]; rfl
    · rw [List.drop_eq_getElem_cons hi, List.drop_eq_getElem_cons hj, List.map_cons, List.map_cons]
      by_cases he : toR a[i] = toR b[i]
      · simp only [he, decide_true, Bool.not_true, Bool.false_eq_true, if_false, List.cons.injEq, true_and]
        exact ih
      · simp only [he, decide_false, Bool.not_false, if_true, List.cons.injEq, false_and]
        exact Ev.ret false
theorem Same_eq {a b : List S26} (ha : a.length ≤ 1000000000) : Ev (fun k => tableauref08_Same.f k a b) (decide (a.map toR = b.map toR)) := by
  unfold tableauref08_Same.f
  by_cases hl : a.length = b.length
  · have h1 : (a.length : Int) = (b.length : Int) := by omega
    simp only [h1, if_true]
    exact Same1 hl ha a.length 0 (by omega)
  · have h1 : ¬ (a.length : Int) = (b.length : Int) := by omega
    simp only [h1, if_false]
    have : ¬ (a.map toR = b.map toR) := fun h => hl (by simpa using congrArg List.length h)
    rw [decide_eq_false this]
    exact Ev.ret false
theorem opN0 : opN 0 = orB := rfl
theorem okM_iff {l : List S26} : okM l = true ↔ l.length ≤ 10000 ∧ ∀ r ∈ l.map toR, rChk r = true := by
  simp [okM]
theorem make1_eq {a b : List S26} {o : Int} (ha : okM a = true) (hb : okM b = true) : tableauref08_make1.f a b o = some ((makeR (opN o) (a.map toR) (b.map toR)).map ofR) := by
  unfold tableauref08_make1.f
  rw [if_pos (by rw [ha, hb]; rfl)]
theorem to_map (l : List R) : (l.map ofR).map toR = l := by
  rw [List.map_map]; exact List.map_id'' (fun r => to_of r) l
theorem Check1 {l : List S26} (h64 : ∀ s ∈ l, I64 (toR s)) (hl : l.length ≤ 10000) : ∀ (n i : Nat), i + n = l.length → (∀ r ∈ (l.take i).map toR, rChk r = true) → Ev (fun k => tableauref08_Check.l0 k l (i : Int)) (chkF (l.map toR))
  | 0, i, h, hp => by
    have hp' : ∀ r ∈ l.map toR, rChk r = true := by rwa [List.take_of_length_le (by omega)] at hp
    have hm := make1_eq (a := l) (b := []) (o := 0) (okM_iff.2 ⟨hl, hp'⟩) rfl
    refine Ev.next (G := fun k => (tableauref08_make1.f l ([] : List S26) 0).bind fun t => (tableauref08_Same.f k l t).bind fun u => some u) (fun k => ?_) ?_
    · rw [tableauref08_Check.l0, if_neg (by omega)]
    · refine Ev.bind0 hm ?_
      have e := Same_eq (a := l) (b := (makeR (opN 0) (l.map toR) ([].map toR)).map ofR) (by omega)
      rw [to_map] at e
      have : chkF (l.map toR) = decide (l.map toR = makeR (opN 0) (l.map toR) ([].map toR)) := by
        unfold chkF
        rw [List.all_eq_true.2 hp', Bool.true_and]; rfl
      rw [this]
      exact Ev.bind e (Ev.ret _)
  | n + 1, i, h, hp => by
    have hi : i < l.length := by omega
    refine Ev.next (G := fun k => (tableauref07_Check.f l[i].f0 l[i].f1 l[i].f2 l[i].f3).bind fun t => if t = true then tableauref08_Check.l0 k l ((i + 1 : Nat) : Int) else some false) (fun k => ?_) ?_
    · rw [tableauref08_Check.l0, if_pos (by omega), if_pos (by omega), rdT hi, w64 (by omega) (by omega)]; rfl
    · refine Ev.bind0 (chk0 (h64 _ (List.getElem_mem hi))) ?_
      show Ev (fun k => if rChk (toR l[i]) = true then tableauref08_Check.l0 k l ((i + 1 : Nat) : Int) else some false) _
      cases hc : rChk (toR l[i]) with
      | true =>
        simp only [if_true]
        refine Check1 h64 hl n (i + 1) (by omega) ?_
        rw [List.take_succ_eq_append_getElem hi, List.map_append]
        intro r hr
        rcases List.mem_append.1 hr with h1 | h1
        · exact hp r h1
        · obtain rfl : r = toR l[i] := by simpa using h1
          exact hc
      | false =>
        simp only [Bool.false_eq_true, if_false]
        have : chkF (l.map toR) = false := by
          unfold chkF
          rw [Bool.and_eq_false_iff]
          left
          rw [List.all_eq_false]
          exact ⟨toR l[i], List.mem_map_of_mem (List.getElem_mem hi), by simp [hc]⟩
        rw [this]
        exact Ev.ret false
theorem Check_eq {l : List S26} (h64 : ∀ s ∈ l, I64 (toR s)) (hl : l.length ≤ 10000) : Ev (fun k => tableauref08_Check.f k l) (chkF (l.map toR)) :=
  Check1 h64 hl l.length 0 (by omega) (by simp)
end Go.Proofs.Ytclpppejabfbbaa.PF
/- The shared part: the program's functions over regions as the plain ones, Place, SameRects. -/
namespace Go.Proofs.Ytclpppejabfbbaa.PF
open Go.RowKit Go.Proofs.YtclpppejabfbbaaW.PrintWords Go.Proofs.Ytclpppejabfbbaa.Reg Go.Proofs.Ytclpppejabfbbaa.Rect Go.Proofs.Ytclpppejabfbbaa.Wk
set_option linter.unusedVariables false

theorem rg64 {l : List R} (h : Rg l) : ∀ s ∈ l.map ofR, I64 (toR s) := by
  intro s hs
  obtain ⟨r, hr, rfl⟩ := List.mem_map.1 hs
  exact chk64 (h.chk r hr)
theorem okL_of {l : List R} (h : Rg l) (hl : l.length ≤ 200000) : okL (l.map ofR) = true := by
  simp only [okL, Bool.and_eq_true, decide_eq_true_eq, List.all_eq_true]
  refine ⟨by simpa using hl, fun s hs => ?_⟩
  have := rg64 h s hs
  unfold I64 toR at this
  simp only [okS, Bool.and_eq_true, i64b_iff]
  exact this
theorem Check_f {l : List R} (h : Rg l) (hl : l.length ≤ 200000) : region_Check.f (l.map ofR) = some true := by
  unfold region_Check.f
  rw [okL_of h hl, if_pos (by rfl), to_map, show (bandsF l).isSome = true from h]
theorem Union_f {a b : List R} (ha : Rg a) (hb : Rg b) (la : a.length ≤ 200000) (lb : b.length ≤ 200000) : region_Union.f (a.map ofR) (b.map ofR) = some ((joinF (· || ·) a b).map ofR) := by
  unfold region_Union.f; rw [okL_of ha la, okL_of hb lb, if_pos (by rfl), to_map, to_map]
theorem Ev.pos {α : Type} {c : Prop} [Decidable c] {g h : Nat → Option α} {v : α} (hc : c) (e : Ev g v) : Ev (fun k => if c then g k else h k) v := Ev.congr (fun k => if_pos hc) e
theorem Ev.neg {α : Type} {c : Prop} [Decidable c] {g h : Nat → Option α} {v : α} (hc : ¬ c) (e : Ev h v) : Ev (fun k => if c then g k else h k) v := Ev.congr (fun k => if_neg hc) e
theorem Same_l {l : List S26} (hl : l.length ≤ 1000000) : ∀ (n i : Nat), i + n = l.length → Ev (fun k => tableaulaw00_SameRects.l0 k l l (i : Int)) true
  | 0, i, h => Ev.next (G := fun k => some true) (fun k => by rw [tableaulaw00_SameRects.l0, if_neg (by omega)]) (Ev.ret _)
  | n + 1, i, h => by
    refine Ev.next (fun k => ?_) (Same_l hl n (i + 1) (by omega))
    rw [tableaulaw00_SameRects.l0, if_pos (by omega), if_pos (by omega), if_pos (by omega), if_neg (by simp), w64 (by omega) (by omega)]
    rfl
theorem SameRects_eq {l : List S26} (hl : l.length ≤ 1000000) : Ev (fun k => tableaulaw00_SameRects.f k l l) true := by
  unfold tableaulaw00_SameRects.f
  exact Ev.pos rfl (Same_l hl l.length 0 (by omega))
theorem SameRects_of {a b : List R} (h : a = b) (hl : a.length ≤ 1000000) : Ev (fun k => tableaulaw00_SameRects.f k (a.map ofR) (b.map ofR)) true := by
  subst h; exact SameRects_eq (by rw [List.length_map]; exact hl)
end Go.Proofs.Ytclpppejabfbbaa.PF
/- What the printed functions of the reference answer, third part: Bound, Of. -/
set_option linter.unusedSimpArgs false
namespace Go.Proofs.Ytclpppejabfbbaa.PF
open Go.RowKit Go.Proofs.YtclpppejabfbbaaW.PrintWords Go.Proofs.Ytclpppejabfbbaa.Reg Go.Proofs.Ytclpppejabfbbaa.Rect Go.Proofs.Ytclpppejabfbbaa.Wk
open Go.Proofs.YtclpppejabfbbaaW.PrintWords (mx mn)
set_option linter.unusedVariables false

theorem Make_eq {a b : List S26} {o : Int} (h64a : ∀ s ∈ a, I64 (toR s)) (h64b : ∀ s ∈ b, I64 (toR s)) (ha : a.length ≤ 10000) (hb : b.length ≤ 10000) : Ev (fun k => tableauref08_Make.f k a b o) ((makeF (opN o) (a.map toR) (b.map toR)).map ofR) := by
  unfold tableauref08_Make.f makeF
  refine Ev.bind (Check_eq h64a ha) ?_
  cases hca : chkF (a.map toR) with
  | false => simp only [Bool.false_and, Bool.false_eq_true, if_false]; exact Ev.ret _
  | true =>
    simp only [Bool.true_and, if_true]
    refine Ev.bind (Check_eq h64b hb) ?_
    cases hcb : chkF (b.map toR) with
    | false => simp only [Bool.false_eq_true, if_false]; exact Ev.ret _
    | true =>
      simp only [if_true]
      have h1 : ∀ {l : List S26}, chkF (l.map toR) = true → ∀ r ∈ l.map toR, rChk r = true := fun h r hr => by
        unfold chkF at h
        rw [Bool.and_eq_true, List.all_eq_true] at h
        exact h.1 r hr
      exact Ev.bind0 (make1_eq (okM_iff.2 ⟨ha, h1 hca⟩) (okM_iff.2 ⟨hb, h1 hcb⟩)) (Ev.ret _)
theorem mx_max (a b : Int) : mx a b = max a b := by unfold mx; split <;> omega
theorem mn_min (a b : Int) : mn a b = min a b := by unfold mn; split <;> omega
def tup (r : R) : Int × Int × Int × Int := (r.x, r.y, r.w, r.h)
theorem bound0 {r : R} (h : I64 r) : tableauref07_Bound.f r.x r.y r.w r.h = some (tup (rBound r)) := by
  unfold tableauref07_Bound.f
  rw [if_pos (ok4_iff.2 h)]
  rfl
theorem Of_eq {s : S26} (h : I64 (toR s)) : tableauref08_Of.f s.f0 s.f1 s.f2 s.f3 = some ((ofF (toR s)).map ofR) := by
  unfold tableauref08_Of.f
  rw [show tableauref07_Bound.f s.f0 s.f1 s.f2 s.f3 = _ from bound0 h, Option.bind_some]
  show (tableauref07_Empty.f (rBound (toR s)).x (rBound (toR s)).y (rBound (toR s)).w (rBound (toR s)).h).bind _ = _
  rw [emp0, Option.bind_some]
  unfold ofF
  cases he : emp (rBound (toR s)) with
  | true =>
    have he2 : emp ⟨(rBound (toR s)).x, (rBound (toR s)).y, (rBound (toR s)).w, (rBound (toR s)).h⟩ = true := he
    simp only [he2, if_true]
    rfl
  | false =>
    have he2 : emp ⟨(rBound (toR s)).x, (rBound (toR s)).y, (rBound (toR s)).w, (rBound (toR s)).h⟩ = false := he
    simp only [he2, Bool.false_eq_true, if_false]
    rfl
end Go.Proofs.Ytclpppejabfbbaa.PF
/- region.Of, region.Cover as the plain ones. -/
set_option linter.unusedSimpArgs false
namespace Go.Proofs.Ytclpppejabfbbaa.PF
open Go.RowKit Go.Proofs.YtclpppejabfbbaaW.PrintWords Go.Proofs.Ytclpppejabfbbaa.Reg Go.Proofs.Ytclpppejabfbbaa.Rect Go.Proofs.Ytclpppejabfbbaa.Wk
set_option linter.unusedVariables false

theorem emp9 (x y w h : Int) : rect_Empty.f x y w h = some (emp ⟨x, y, w, h⟩) := by
  unfold rect_Empty.f emp
  by_cases hw : w < 1 <;> simp [hw]
theorem Of_f {r : R} (h : I64 r) : region_Of.f r.x r.y r.w r.h = some ((ofF r).map ofR) := by
  unfold region_Of.f rect_Bound.f
  rw [if_pos (ok4_iff.2 h), Option.bind_some]
  show (rect_Empty.f (rBound r).x (rBound r).y (rBound r).w (rBound r).h).bind _ = _
  rw [emp9, Option.bind_some]
  unfold ofF
  show (if emp (rBound r) = true then _ else _) = _
  cases he : emp (rBound r) with
  | true => rfl
  | false => rfl
theorem sm_z : Rect.Sm zR := by unfold Rect.Sm zR; simp only; omega
theorem sm_of {a : R} (h : a = zR ∨ chkR a) : Rect.Sm a := by
  rcases h with rfl | h
  · exact sm_z
  · exact Sm.of_chk (chk_iff.2 h)
theorem cov1 {a b : R} (ha : Rect.Sm a) (hb : Rect.Sm b) : rect_Cover.f a.x a.y a.w a.h b.x b.y b.w b.h = some (tupR (rCover a b)) := rect_Cover.eq ha hb
theorem Cover_l {M : List R} (hc : ∀ r ∈ M, chkR r) (hl : M.length ≤ 200000) : ∀ (n i : Nat) (a : R), i + n = M.length → (a = zR ∨ chkR a) → Ev (fun k => region_Cover.l0 k (M.map ofR) ((M.map ofR).length : Int) (i : Int) a.x a.y a.w a.h) (tupR ((M.drop i).foldl rCover a))
  | 0, i, a, h, ha => by
    rw [List.drop_of_length_le (by omega)]
    refine Ev.next (G := fun k => some (tupR a)) (fun k => ?_) (Ev.ret _)
    rw [region_Cover.l0, if_neg (by rw [List.length_map]; omega)]; rfl
  | n + 1, i, a, h, ha => by
    have hi : i < M.length := by omega
    have hi' : i < (M.map ofR).length := by rw [List.length_map]; exact hi
    rw [List.drop_eq_getElem_cons hi, List.foldl_cons]
    have hm := hc M[i] (List.getElem_mem hi)
    have ha' : chkR (rCover a M[i]) := (foldl_cover [M[i]] a (fun r hr => by have e : r = M[i] := (by simpa using hr); rw [e]; exact hm) ha (.inl (by simp))).1
    refine Ev.next (G := fun k => (rect_Cover.f a.x a.y a.w a.h M[i].x M[i].y M[i].w M[i].h).bind fun bt => region_Cover.l0 k (M.map ofR) ((M.map ofR).length : Int) ((i + 1 : Nat) : Int) bt.1 bt.2.1 bt.2.2.1 bt.2.2.2) (fun k => ?_) (Ev.bind0 (cov1 (sm_of ha) (sm_of (.inr hm))) (Cover_l hc hl n (i + 1) _ (by omega) (.inr ha')))
    rw [region_Cover.l0, if_pos (by omega), if_pos (by omega), if_pos (by omega), rdT hi', List.getElem_map, w64 (by omega) (by omega)]
    rfl
theorem Cover_f {M : List R} (h : Rg M) (hl : M.length ≤ 200000) : Ev (fun k => region_Cover.f k (M.map ofR)) (tupR (coverF M)) := by
  unfold region_Cover.f
  refine Ev.bind0 (Check_f h hl) ?_
  refine Ev.pos rfl ?_
  unfold coverF
  rw [if_pos (show (bandsF M).isSome = true from h)]
  exact Cover_l h.chk hl M.length 0 zR (by omega) (.inl rfl)
theorem put_len3 (op : Bool → Bool → Bool) (h0 : op false false = false) (a b : List R) (ha : a.length ≤ 40) (hb : b.length ≤ 1) : (joinF op a b).length ≤ 6724 := by
  rw [join_make h0]
  have hx : InXY ((a ++ b).flatMap fun r => [r.x, r.x + r.w]) ((a ++ b).flatMap fun r => [r.y, r.y + r.h]) (a ++ b) := fun r hr =>
    ⟨⟨List.mem_flatMap.2 ⟨r, hr, by simp⟩, List.mem_flatMap.2 ⟨r, hr, by simp⟩⟩, List.mem_flatMap.2 ⟨r, hr, by simp⟩, List.mem_flatMap.2 ⟨r, hr, by simp⟩⟩
  have h2 : ∀ (l : List R) (f g : R → Int), (l.flatMap fun r => [f r, g r]).length = 2 * l.length := by
    intro l f g
    induction l with
    | nil => rfl
    | cons a l ih => rw [List.flatMap_cons, List.length_append, ih]; simp; omega
  refine Nat.le_trans (make_xy op hx).2 ?_
  rw [h2, h2, List.length_append]
  exact Nat.le_trans (Nat.mul_le_mul (show 2 * (a.length + b.length) ≤ 82 by omega) (show 2 * (a.length + b.length) ≤ 82 by omega)) (by omega)
theorem put_len1 (op : Bool → Bool → Bool) (h0 : op false false = false) (a b : List R) (ha : a.length ≤ 40) (hb : b.length ≤ 1) : (joinF op a b).length ≤ 200000 := Nat.le_trans (put_len3 op h0 a b ha hb) (by omega)
end Go.Proofs.Ytclpppejabfbbaa.PF
