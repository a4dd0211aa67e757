/- Repaint: what the printed functions compute, in plain words. -/
import Derived.Test.YtclpppejabfbbaaPFDamT
set_option linter.unusedVariables false
set_option linter.unusedSimpArgs false
namespace Go.Proofs.Ytclpppejabfbbaa.PF
open Go.RowKit Go.Proofs.YtclpppejabfbbaaW.PrintWords Go.Proofs.Ytclpppejabfbbaa.Reg Go.Proofs.Ytclpppejabfbbaa.Rect Go.Proofs.Ytclpppejabfbbaa.Wk

theorem OfR_eq {r : R} (h : I64 r) : tableauref08_Of.f r.x r.y r.w r.h = some ((ofF r).map ofR) := by
  have := Of_eq (s := ofR r) h
  rwa [to_of] at this
theorem put_eq {M : List R} (hM : Rg M) (hm : M.length ≤ 40) {r : R} (hr : I64 r) : Ev (fun k => tableauref09_put.f k (M.map ofR) r.x r.y r.w r.h) ((putF M r).map ofR) := by
  have hlo := len_of r
  have hmk := Make_eq (a := M.map ofR) (b := (ofF r).map ofR) (o := 0) (rg64 hM) (rg64 (rg_of r)) (by rw [List.length_map]; omega) (by rw [List.length_map]; omega)
  rw [to_map, to_map, opN0, ← join_make (op := orB) rfl] at hmk
  have hml := put_len3 orB rfl M (ofF r) hm hlo
  have hrm : Rg (joinF orB M (ofF r)) := rg_join rfl _ _
  have hput : putF M r = if 40 < (joinF orB M (ofF r)).length then ofF (coverF (joinF orB M (ofF r))) else joinF orB M (ofF r) := rfl
  generalize joinF orB M (ofF r) = m at *
  unfold tableauref09_put.f
  refine Ev.bind0 (OfR_eq hr) ?_
  refine Ev.bind hmk ?_
  by_cases h40 : 40 < m.length
  · rw [if_pos h40] at hput
    refine Ev.pos (by rw [List.length_map]; omega) ?_
    have hc := (cover_chk hrm (by intro e; rw [e] at h40; simp at h40)).1
    have hcv := RCover_eq (L := m.map ofR) (rg64 hrm) (by rw [List.length_map]; omega)
    rw [to_map] at hcv
    refine Ev.bind hcv ?_
    rw [hput, of_chk (chk_iff.2 hc)]
    exact Ev.ret _
  · rw [if_neg h40] at hput
    refine Ev.neg (by rw [List.length_map]; omega) ?_
    rw [hput]
    exact Ev.ret _
theorem rflat_l {l : List S26} (h64 : ∀ s ∈ l, I64 (toR s)) (hl : l.length ≤ 1000000) : ∀ (n i : Nat) (M : List R), i + n = l.length → Rg M → M.length ≤ 40 → Ev (fun k => tableauref09_Flat.l0 k l (M.map ofR) (i : Int)) ((((l.drop i).map toR).foldl putF M).map ofR)
  | 0, i, M, h, hM, hm => by
    rw [List.drop_of_length_le (by omega)]
    exact Ev.next (G := fun k => some (M.map ofR)) (fun k => by rw [tableauref09_Flat.l0, if_neg (by omega)]) (Ev.ret _)
  | n + 1, i, M, h, hM, hm => by
    have hi : i < l.length := by omega
    have e1 : wrap64 ((i : Int) + 1) = ((i + 1 : Nat) : Int) := by rw [w64 (by omega) (by omega)]; rfl
    rw [List.drop_eq_getElem_cons hi, List.map_cons, List.foldl_cons]
    refine Ev.next (fun k => by rw [tableauref09_Flat.l0, if_pos (by omega), if_pos (by omega), rdT hi, e1]) ?_
    refine Ev.bind (put_eq hM hm (h64 _ (List.getElem_mem hi))) ?_
    exact rflat_l h64 hl n (i + 1) _ (by omega) (rg_put _ _) (len_put _ _)
theorem RFlat_eq {l : List S26} (h64 : ∀ s ∈ l, I64 (toR s)) (hl : l.length ≤ 1000000) : Ev (fun k => tableauref09_Flat.f k l) ((flatF (l.map toR)).map ofR) := rflat_l h64 hl l.length 0 [] (by omega) Rg.nil (by simp)
theorem RAdd_eq {l : List S26} (h64 : ∀ s ∈ l, I64 (toR s)) (hl : l.length ≤ 1000000) {r : R} (hr : I64 r) : Ev (fun k => tableauref09_Add.f k l r.x r.y r.w r.h) ((damAdd (l.map toR) r).map ofR) := by
  unfold tableauref09_Add.f
  refine Ev.bind (RFlat_eq h64 hl) ?_
  exact Ev.bind (put_eq (rg_flat _) (len_flat _) hr) (Ev.ret _)

def Nr (x : Int) : Prop := -67108864 ≤ x ∧ x ≤ 67108864
def rv (v : S54) : R := ⟨v.f2, v.f3, v.f4, v.f5⟩
def NearV (v : S54) : Prop := Nr v.f2 ∧ Nr v.f3 ∧ Nr v.f4 ∧ Nr v.f5
theorem near_sm {v : S54} (h : NearV v) : Rect.Sm (rv v) := by
  obtain ⟨⟨a0, a1⟩, ⟨b0, b1⟩, ⟨c0, c1⟩, ⟨d0, d1⟩⟩ := h
  unfold Rect.Sm rv; simp only; omega
theorem near_64 {v : S54} (h : NearV v) : I64 (rv v) := by
  obtain ⟨⟨a0, a1⟩, ⟨b0, b1⟩, ⟨c0, c1⟩, ⟨d0, d1⟩⟩ := h
  unfold I64 rv; simp only; omega
theorem rOf_64 {a b c d : Int} (ha : -17179869184 ≤ a ∧ a ≤ 17179869184) (hb : -17179869184 ≤ b ∧ b ≤ 17179869184) (hc : c ≤ 17179869184) (hd : d ≤ 17179869184) : I64 (rOf a b c d) := by
  unfold rOf
  split
  · unfold I64 zR; simp only; omega
  · unfold I64; simp only; omega
theorem cut_64 {a b : R} (ha : Rect.Sm a) (hb : Rect.Sm b) : I64 (rCut a b) := by
  unfold rCut
  unfold Rect.Sm at ha hb
  split
  · unfold I64 zR; simp only; omega
  · exact rOf_64 (by omega) (by omega) (by omega) (by omega)
theorem shift_sm {r : R} (h : r = zR ∨ chkR r) {x y : Int} (hx : Nr x) (hy : Nr y) : Rect.Sm (rShift r x y) := by
  unfold rShift
  split
  · exact sm_z
  · rcases h with rfl | h
    · rename_i h0; exact absurd rfl h0
    · unfold chkR at h; unfold Nr at hx hy; unfold Rect.Sm; simp only; omega
theorem bound_chk (r : R) : rBound r = zR ∨ chkR (rBound r) := by
  unfold rBound
  split
  · exact .inl rfl
  · unfold rOf
    split
    · exact .inl rfl
    · refine .inr ?_; unfold chkR; simp only; omega
theorem nr_x {x : Int} (h : Nr x) : -4294967296 ≤ x ∧ x ≤ 4294967296 := by unfold Nr at h; omega
theorem shiftP {r : R} (h : Rect.Sm r) {x y : Int} (hx : Nr x) (hy : Nr y) : rect_Shift.f r.x r.y r.w r.h x y = some (tupR (rShift r x y)) := rect_Shift.eq h (nr_x hx) (nr_x hy)
theorem shift0' {r : R} (h : Rect.Sm r) {x y : Int} (hx : Nr x) (hy : Nr y) : tableauref07_Shift.f r.x r.y r.w r.h x y = some (tupR (rShift r x y)) := tableauref07_Shift.eq h (nr_x hx) (nr_x hy)
theorem cutP {a b : R} (ha : Rect.Sm a) (hb : Rect.Sm b) : rect_Cut.f a.x a.y a.w a.h b.x b.y b.w b.h = some (tupR (rCut a b)) := rect_Cut.eq ha hb
theorem cut0' {a b : R} (ha : Rect.Sm a) (hb : Rect.Sm b) : tableauref07_Cut.f a.x a.y a.w a.h b.x b.y b.w b.h = some (tupR (rCut a b)) := tableauref07_Cut.eq ha hb
theorem checkP {v : S54} (h : NearV v) : rect_Check.f v.f2 v.f3 v.f4 v.f5 = some (rChk (rv v)) := by
  unfold rect_Check.f
  rw [if_pos (ok4_iff.2 (near_64 h))]
  rfl
def eqV (a b : S54) : Bool := a.f0 == b.f0 && (a.f1 == b.f1 && (a.f2 == b.f2 && (a.f3 == b.f3 && (a.f4 == b.f4 && (a.f5 == b.f5)))))
theorem eqV_iff {a b : S54} : eqV a b = true ↔ a = b := by
  obtain ⟨a0, a1, a2, a3, a4, a5⟩ := a
  obtain ⟨b0, b1, b2, b3, b4, b5⟩ := b
  unfold eqV
  simp only [Bool.and_eq_true, beq_iff_eq, S54.mk.injEq]
theorem rdV {x : List S54} {i : Nat} (h : i < x.length) : rd_T54 x (i : Int) = x[i] := by
  unfold rd_T54
  rw [Int.toNat_natCast, List.getD_eq_getElem?_getD, List.getElem?_eq_getElem h]; rfl
theorem rdD {x : List S52} {i : Nat} (h : i < x.length) : rd_T52 x (i : Int) = x[i] := by
  unfold rd_T52
  rw [Int.toNat_natCast, List.getD_eq_getElem?_getD, List.getElem?_eq_getElem h]; rfl
/-- what a damage is of a view -/
def spotF (v : S54) (r : R) : R := rCut (rShift (rBound r) v.f2 v.f3) (rv v)
theorem spot_64 {v : S54} (h : NearV v) (r : R) : I64 (spotF v r) := cut_64 (shift_sm (bound_chk r) h.1 h.2.1) (near_sm h)
def dOne (v : S54) (d : S52) : List R := if d.f0 = v.f0 then d.f1.map (fun s => spotF v (toR s)) else []
def dList (v : S54) (ds : List S52) : List R := if rChk (rv v) = true then ds.flatMap (dOne v) else []
theorem flat_snoc (S : List R) (r : R) : damAdd (flatF S) r = flatF (S ++ [r]) := by
  unfold damAdd
  rw [flat_flat]
  unfold flatF
  rw [List.foldl_append]; rfl
theorem addP {S : List R} {r : R} (hr : I64 r) : Ev (fun k => damage_Add.f k ((flatF S).map ofR) r.x r.y r.w r.h) ((flatF (S ++ [r])).map ofR) := by
  have := len_flat S
  have h := Add_eq (l := (flatF S).map ofR) (rg64 (rg_flat S)) (by rw [List.length_map]; omega) hr
  rw [to_map, flat_snoc] at h
  exact h
theorem addR {S : List R} {r : R} (hr : I64 r) : Ev (fun k => tableauref09_Add.f k ((flatF S).map ofR) r.x r.y r.w r.h) ((flatF (S ++ [r])).map ofR) := by
  have := len_flat S
  have h := RAdd_eq (l := (flatF S).map ofR) (rg64 (rg_flat S)) (by rw [List.length_map]; omega) hr
  rw [to_map, flat_snoc] at h
  exact h
def Dok (ds : List S52) : Prop := ds.length ≤ 1000000 ∧ ∀ d ∈ ds, d.f1.length ≤ 1000000 ∧ ∀ s ∈ d.f1, I64 (toR s)
/-- repaint.dirt's inner loop: one damage. -/
theorem dirt1 {v : S54} (hv : NearV v) {ds : List S52} {i : Nat} {d : List S26} (hd : d.length ≤ 1000000) (h64 : ∀ s ∈ d, I64 (toR s)) {W : List S26} : ∀ (n j : Nat) (S : List R), j + n = d.length →
    Ev (fun k => repaint_dirt.l0 k ((flatF (S ++ (d.drop j).map (fun s => spotF v (toR s)))).map ofR) ds (ds.length : Int) (wrap64 ((i : Int) + 1)) v.f0 v.f1 v.f2 v.f3 v.f4 v.f5) W →
    Ev (fun k => repaint_dirt.l1 k ((flatF S).map ofR) ds (ds.length : Int) (i : Int) d (d.length : Int) (j : Int) v.f0 v.f1 v.f2 v.f3 v.f4 v.f5) W
  | 0, j, S, h, e => by
    rw [List.drop_of_length_le (by omega), List.map_nil, List.append_nil] at e
    exact Ev.next (fun k => by rw [repaint_dirt.l1, if_neg (by omega)]) e
  | n + 1, j, S, h, e => by
    have hj : j < d.length := by omega
    have e1 : wrap64 ((j : Int) + 1) = ((j + 1 : Nat) : Int) := by rw [w64 (by omega) (by omega)]; rfl
    have hr := h64 _ (List.getElem_mem hj)
    refine Ev.next (fun k => by rw [repaint_dirt.l1, if_pos (by omega), if_pos (by omega), if_pos (by omega), rdT hj, e1]) ?_
    refine Ev.bind0 (v := tupR (rBound (toR d[j]))) ?_ ?_
    · unfold rect_Bound.f
      rw [if_pos (ok4_iff.2 hr)]
      rfl
    refine Ev.bind0 (shiftP (sm_of (bound_chk (toR d[j]))) hv.1 hv.2.1) ?_
    refine Ev.bind0 (v := tupR (rv v)) rfl ?_
    refine Ev.bind0 (cutP (shift_sm (bound_chk (toR d[j])) hv.1 hv.2.1) (near_sm hv)) ?_
    refine Ev.bind (addP (S := S) (spot_64 hv (toR d[j]))) ?_
    refine dirt1 hv hd h64 n (j + 1) (S ++ [spotF v (toR d[j])]) (by omega) ?_
    rw [List.drop_eq_getElem_cons hj, List.map_cons] at e
    rw [List.append_assoc]
    exact e
theorem dirt0 {v : S54} (hv : NearV v) {ds : List S52} (hd : Dok ds) : ∀ (n i : Nat) (S : List R), i + n = ds.length →
    Ev (fun k => repaint_dirt.l0 k ((flatF S).map ofR) ds (ds.length : Int) (i : Int) v.f0 v.f1 v.f2 v.f3 v.f4 v.f5) ((flatF (S ++ (ds.drop i).flatMap (dOne v))).map ofR)
  | 0, i, S, h => by
    rw [List.drop_of_length_le (by omega), List.flatMap_nil, List.append_nil]
    exact Ev.next (G := fun k => some ((flatF S).map ofR)) (fun k => by rw [repaint_dirt.l0, if_neg (by omega)]) (Ev.ret _)
  | n + 1, i, S, h => by
    have hi : i < ds.length := by omega
    have hl := hd.1
    have e1 : wrap64 ((i : Int) + 1) = ((i + 1 : Nat) : Int) := by rw [w64 (by omega) (by omega)]; rfl
    obtain ⟨d1, d2⟩ := hd.2 _ (List.getElem_mem hi)
    refine Ev.next (fun k => by rw [repaint_dirt.l0, if_pos (by omega), if_pos (by omega), if_pos (by omega), rdD hi]) ?_
    rw [List.drop_eq_getElem_cons hi, List.flatMap_cons]
    by_cases hs : ds[i].f0 = v.f0
    · refine Ev.pos hs ?_
      refine dirt1 hv d1 d2 ds[i].f1.length 0 S (by omega) ?_
      rw [e1, List.drop_zero, show dOne v ds[i] = ds[i].f1.map (fun s => spotF v (toR s)) from if_pos hs, ← List.append_assoc]
      exact dirt0 hv hd n (i + 1) _ (by omega)
    · refine Ev.neg hs ?_
      rw [e1, show dOne v ds[i] = [] from if_neg hs, List.nil_append]
      exact dirt0 hv hd n (i + 1) S (by omega)
theorem dirtP {v : S54} (hv : NearV v) {ds : List S52} (hd : Dok ds) (S : List R) : Ev (fun k => repaint_dirt.f k ((flatF S).map ofR) v.f0 v.f1 v.f2 v.f3 v.f4 v.f5 ds) ((flatF (S ++ dList v ds)).map ofR) := by
  unfold repaint_dirt.f
  refine Ev.bind0 (v := tupR (rv v)) rfl ?_
  refine Ev.bind0 (checkP hv) ?_
  unfold dList
  cases hc : rChk (rv v) with
  | true =>
    refine Ev.pos rfl ?_
    rw [if_pos rfl]
    exact dirt0 hv hd ds.length 0 S (by omega)
  | false =>
    refine Ev.neg (by decide) ?_
    rw [if_neg (by decide), List.append_nil]
    exact Ev.ret _
/-- what two places of the lists give -/
def stepL (old l : List S54) (ds : List S52) (i : Nat) : List R :=
  match old[i]?, l[i]? with
  | some a, some b => if eqV a b = true then dList a ds else [rv a, rv b]
  | some a, none => [rv a]
  | none, some b => [rv b]
  | none, none => []
def seqL (old l : List S54) (ds : List S52) (n i : Nat) : List R := (List.range' i n).flatMap (stepL old l ds)
theorem seqL_succ (old l : List S54) (ds : List S52) (n i : Nat) : seqL old l ds (n + 1) i = stepL old l ds i ++ seqL old l ds n (i + 1) := by
  unfold seqL
  rw [List.range'_succ, List.flatMap_cons]
end Go.Proofs.Ytclpppejabfbbaa.PF
