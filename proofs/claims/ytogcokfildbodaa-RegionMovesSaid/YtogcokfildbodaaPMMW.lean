/- Texts of this claim, one behind the other: each begins with its own remark. -/
import Derived.Test.YtogcokfildbodaaPMPlay
import Derived.Test.YtogcokfildbodaaPMx4
import Derived.Test.YtogcokfildbodaaTr
import Derived.Test.YtogcokfildbodaaPMOpenG
/- RegionMoves: what the printed law answers, is true. -/
set_option linter.unusedVariables false
set_option linter.unusedSimpArgs false
namespace Go.Proofs.Ytogcokfildbodaa.PM
open Go.RowKit Go.Proofs.YtogcokfildbodaaW.PrintWords Go.Proofs.Ytogcokfildbodaa.Reg Go.Proofs.Ytogcokfildbodaa.Rect Go.Proofs.Ytogcokfildbodaa.Wk
open Go.Proofs.YtogcokfildbodaaW.PrintWords (mx mn)

/-- within the smaller field -/
def Bx (r : R) : Prop := -1048576 ≤ r.x ∧ r.x + r.w ≤ 1048576 ∧ -1048576 ≤ r.y ∧ r.y + r.h ≤ 1048576
def Be (X : List Int) : Prop := ∀ e ∈ X, -1048576 ≤ e ∧ e ≤ 1048576
theorem Be.bx {X Y : List Int} {M : List R} (h : InXY X Y M) (hx : Be X) (hy : Be Y) : ∀ r ∈ M, Bx r := fun r hr => by
  obtain ⟨⟨h1, h2⟩, h3, h4⟩ := h r hr
  have a1 := hx _ h1
  have a2 := hx _ h2
  have a3 := hy _ h3
  have a4 := hy _ h4
  unfold Bx; omega
theorem made2 {l : List S23} (h64 : ∀ s ∈ l, I64 (toR s)) (hbx : ∀ s ∈ l, chkR (toR s) ∧ Bx (toR s)) : ∀ (n i : Nat) (M : List R), i + n = 7 → Rg M → ∀ (XX YY : List Int), InXY XX YY M → XX.length ≤ 2 * i → YY.length ≤ 2 * i → Be XX → Be YY → M.length ≤ 196 →
    ∃ M', Rg M' ∧ M'.length ≤ 196 ∧ (∀ r ∈ M', Bx r) ∧ Ev (fun k => tableaulaw08_made.l0 k l (M.map ofR) (i : Int)) (M'.map ofR)
  | 0, i, M, h, hM, XX, YY, hxy, hX, hY, bX, bY, hl => by
    refine ⟨M, hM, hl, Be.bx hxy bX bY, Ev.next (G := fun k => tableaulaw08_made.j1 k l (M.map ofR) (i : Int) false) (fun k => ?_) (Ev.next (G := fun k => some (M.map ofR)) (fun k => ?_) (Ev.ret _))⟩
    · rw [tableaulaw08_made.l0]
      by_cases h1 : (i : Int) < (l.length : Int)
      · rw [if_pos h1, decide_eq_false (by omega)]
      · rw [if_neg h1]
    · rw [tableaulaw08_made.j1, if_neg (by simp)]
  | n + 1, i, M, h, hM, XX, YY, hxy, hX, hY, bX, bY, hl => by
    by_cases hi : i < l.length
    · have h64i := h64 _ (List.getElem_mem hi)
      obtain ⟨hci, hbi⟩ := hbx _ (List.getElem_mem hi)
      have ho := Of_eq h64i
      have hoxy := of_xy (toR l[i])
      rw [bound_chk (chk_iff.2 hci)] at hoxy
      have key : ∀ o : Int, opN o false false = false → ∃ M', Rg M' ∧ M'.length ≤ 196 ∧ (∀ r ∈ M', Bx r) ∧ Ev (fun k => (tableauref08_Of.f k l[i].f0 l[i].f1 l[i].f2 l[i].f3).bind fun t => (tableauref08_Make.f k (M.map ofR) t o).bind fun u => tableaulaw08_made.l0 k l u ((i + 1 : Nat) : Int)) (M'.map ofR) := by
        intro o h0
        have hh := make_xy (opN o) (hxy.app hoxy)
        have hlen : (XX ++ [(toR l[i]).x, (toR l[i]).x + (toR l[i]).w]).length ≤ 2 * (i + 1) := by rw [List.length_append]; simp; omega
        have hlen2 : (YY ++ [(toR l[i]).y, (toR l[i]).y + (toR l[i]).h]).length ≤ 2 * (i + 1) := by rw [List.length_append]; simp; omega
        have hl196 : (makeF (opN o) M (ofF (toR l[i]))).length ≤ 196 := Nat.le_trans hh.2 (Nat.le_trans (Nat.mul_le_mul hlen2 hlen) (by
          have : 2 * (i + 1) ≤ 14 := by omega
          exact Nat.mul_le_mul this this))
        unfold chkR at hci
        unfold Bx at hbi
        have bX' : Be (XX ++ [(toR l[i]).x, (toR l[i]).x + (toR l[i]).w]) := fun e he => by
          rcases List.mem_append.1 he with h1 | h1
          · exact bX e h1
          · simp only [List.mem_cons, List.not_mem_nil, or_false] at h1
            rcases h1 with rfl | rfl <;> omega
        have bY' : Be (YY ++ [(toR l[i]).y, (toR l[i]).y + (toR l[i]).h]) := fun e he => by
          rcases List.mem_append.1 he with h1 | h1
          · exact bY e h1
          · simp only [List.mem_cons, List.not_mem_nil, or_false] at h1
            rcases h1 with rfl | rfl <;> omega
        obtain ⟨M', r1, r2, r2', r3⟩ := made2 h64 hbx n (i + 1) (makeF (opN o) M (ofF (toR l[i]))) (by omega) (Rg.make _ h0 _ _) _ _ hh.1 hlen hlen2 bX' bY' hl196
        refine ⟨M', r1, r2, r2', Ev.bind ho ?_⟩
        have hmk := Make_eq (a := M.map ofR) (b := (ofF (toR l[i])).map ofR) (o := o) (rg64 hM) (rg64 (rg_of _)) (by rw [List.length_map]; omega) (by rw [List.length_map]; have := len_of (toR l[i]); omega)
        rw [to_map, to_map] at hmk
        exact Ev.bind hmk r3
      by_cases h2 : Int.tmod (i : Int) 3 = 2
      · obtain ⟨M', r1, r2, r2', r3⟩ := key 1 rfl
        refine ⟨M', r1, r2, r2', Ev.next (G := fun k => tableaulaw08_made.j1 k l (M.map ofR) (i : Int) true) (fun k => ?_) (Ev.next (fun k => ?_) r3)⟩
        · rw [tableaulaw08_made.l0, if_pos (by omega), decide_eq_true (by omega)]
        · rw [tableaulaw08_made.j1, if_pos rfl, if_pos h2, if_pos (by omega), if_pos (by omega), rdT hi, w64 (by omega) (by omega)]; rfl
      · obtain ⟨M', r1, r2, r2', r3⟩ := key 0 rfl
        refine ⟨M', r1, r2, r2', Ev.next (G := fun k => tableaulaw08_made.j1 k l (M.map ofR) (i : Int) true) (fun k => ?_) (Ev.next (fun k => ?_) r3)⟩
        · rw [tableaulaw08_made.l0, if_pos (by omega), decide_eq_true (by omega)]
        · rw [tableaulaw08_made.j1, if_pos rfl, if_neg h2, if_pos (by omega), if_pos (by omega), rdT hi, w64 (by omega) (by omega)]; rfl
    · refine ⟨M, hM, hl, Be.bx hxy bX bY, Ev.next (G := fun k => tableaulaw08_made.j1 k l (M.map ofR) (i : Int) false) (fun k => ?_) (Ev.next (G := fun k => some (M.map ofR)) (fun k => ?_) (Ev.ret _))⟩
      · rw [tableaulaw08_made.l0, if_neg (by omega)]
      · rw [tableaulaw08_made.j1, if_neg (by simp)]
def bigR : R := ⟨-1048576, -1048576, 2097152, 2097152⟩
theorem Cut1 {r : R} (h : chkR r) : tableauref07_Cut.f r.x r.y r.w r.h (-1048576) (-1048576) 2097152 2097152 = some (tup (rCut r bigR)) := by
  have he : emp r = false := chk_emp (chk_iff.2 h)
  have e2 : emp ⟨-1048576, -1048576, 2097152, 2097152⟩ = false := rfl
  have e3 : rCut r bigR = rOf (max r.x (-1048576)) (max r.y (-1048576)) (min (r.x + r.w) (-1048576 + 2097152)) (min (r.y + r.h) (-1048576 + 2097152)) := by
    unfold rCut
    rw [he, show emp bigR = false from rfl, if_neg (by simp)]
    rfl
  unfold chkR at h
  unfold tableauref07_Cut.f
  rw [emp0, Option.bind_some, show emp ⟨r.x, r.y, r.w, r.h⟩ = emp r from rfl, he, if_neg (by simp), emp0, Option.bind_some, e2, if_neg (by simp), mx_max, mx_max, mn_min, mn_min, w64 (n := r.x + r.w) (by omega) (by omega), w64 (n := r.y + r.h) (by omega) (by omega), w64 (n := (-1048576 : Int) + 2097152) (by omega) (by omega), of0 (by omega) (by omega) (by omega) (by omega), e3]
  rfl
theorem cut_bx {r : R} (h : chkR r) (e : rCut r bigR = r) : Bx r := by
  have he : emp r = false := chk_emp (chk_iff.2 h)
  unfold chkR at h
  unfold rCut at e
  rw [he, show emp bigR = false from rfl, if_neg (by simp)] at e
  unfold rOf at e
  split at e
  · rw [← e] at h
    unfold zR at h
    simp only at h
    omega
  · have e1 := congrArg R.x e
    have e2 := congrArg R.y e
    have e3 := congrArg R.w e
    have e4 := congrArg R.h e
    unfold bigR at e1 e2 e3 e4
    simp only at e1 e2 e3 e4
    unfold Bx; omega
theorem moves_end {F : List S23} (h64 : ∀ s ∈ F, I64 (toR s)) (hbx : ∀ s ∈ F, chkR (toR s) ∧ Bx (toR s)) (x0 : List S23) (a b i : Int) : Ev (fun k => tableaulaw08_RegionMoves.j1 k x0 a b F i false) true := by
  obtain ⟨M, hM, lM, bM, eM⟩ := made2 h64 hbx 7 0 [] (by omega) Rg.nil [] [] (by intro r hr; simp at hr) (by simp) (by simp) (by intro e he; simp at he) (by intro e he; simp at he) (by simp)
  obtain ⟨m, hm, m0, m1⟩ := Place_eq a 1048576 (by omega) (by omega)
  obtain ⟨n, hn, n0, n1⟩ := Place_eq b 1048576 (by omega) (by omega)
  refine Ev.next (fun k => by rw [tableaulaw08_RegionMoves.j1, if_neg (by simp)]) ?_
  refine Ev.bind (show Ev (fun k => tableaulaw08_made.f k F) (M.map ofR) from eM) ?_
  refine Ev.bind0 hm ?_
  refine Ev.bind0 hn ?_
  rw [w64 (n := m - 524288) (by omega) (by omega), w64 (n := n - 524288) (by omega) (by omega), w64 (n := -(m - 524288)) (by omega) (by omega), w64 (n := -(n - 524288)) (by omega) (by omega)]
  obtain ⟨x, hx⟩ : ∃ x, x = m - 524288 := ⟨_, rfl⟩
  obtain ⟨y, hy⟩ : ∃ y, y = n - 524288 := ⟨_, rfl⟩
  rw [← hx, ← hy]
  have hfx : farB x = false := by rw [Bool.eq_false_iff]; intro h; rw [far_iff] at h; omega
  have hfy : farB y = false := by rw [Bool.eq_false_iff]; intro h; rw [far_iff] at h; omega
  have hfx' : farB (-x) = false := by rw [Bool.eq_false_iff]; intro h; rw [far_iff] at h; omega
  have hfy' : farB (-y) = false := by rw [Bool.eq_false_iff]; intro h; rw [far_iff] at h; omega
  have hct : ∀ r ∈ M, chkR (trR x y r) := fun r hr => by
    have h1 := hM.chk r hr
    have h2 := bM r hr
    unfold chkR at h1
    unfold Bx at h2
    unfold chkR trR; simp only; omega
  have s1 := shift_tr hM hfx hfy hct
  have rT := rg_tr hM hct
  have lT : (M.map (trR x y)).length = M.length := List.length_map _
  have s2 : shiftF (M.map (trR x y)) (-x) (-y) = M := by
    rw [shift_tr rT hfx' hfy' (fun r hr => ?_), tr_back]
    obtain ⟨s, hs, rfl⟩ := List.mem_map.1 hr
    have h1 := hM.chk s hs
    unfold chkR at h1
    unfold chkR trR; simp only; omega
  have f1 := PShift_f (rg64 hM) (by rw [List.length_map]; omega) x y
  rw [to_map, s1] at f1
  have f2 := PShift_f (rg64 rT) (by rw [List.length_map, lT]; omega) (-x) (-y)
  rw [to_map, s2] at f2
  have a1 := Area_eq rT (by rw [lT]; omega)
  rw [area_tr] at a1
  refine Ev.bind0 f1 ?_
  refine Ev.bind0 f2 ?_
  refine Ev.bind (SameRects_of rfl (by omega)) ?_
  refine Ev.pos rfl ?_
  refine Ev.bind a1 ?_
  refine Ev.bind (Area_eq hM (by omega)) ?_
  refine Ev.pos rfl ?_
  refine Ev.pos (by rw [List.length_map, List.length_map, lT]) ?_
  by_cases h0 : M.length = 0
  · refine Ev.pos (by rw [List.length_map]; omega) ?_
    exact Ev.bind awake_eq (Ev.ret true)
  · refine Ev.neg (by rw [List.length_map]; omega) ?_
    refine Ev.pos (by rw [List.length_map]; omega) ?_
    have hpos : 0 < M.length := by omega
    have hr : rd_T23 (M.map ofR) 0 = ofR M[0] := by
      have := rdT (x := M.map ofR) (i := 0) (by rw [List.length_map]; exact hpos)
      rw [List.getElem_map] at this
      exact this
    have hk := hM.chk M[0] (List.getElem_mem hpos)
    have hb := bM M[0] (List.getElem_mem hpos)
    have hk' := hk
    unfold chkR at hk
    unfold Bx at hb
    rw [hr]
    show Ev (fun k => (region_Has.f ((M.map (trR x y)).map ofR) (wrap64 (M[0].x + x)) (wrap64 (M[0].y + y))).bind _) true
    rw [w64 (by omega) (by omega), w64 (by omega) (by omega)]
    have hh := Has_f rT (by rw [lT]; omega) (p := M[0].x + x) (q := M[0].y + y) (by omega) (by omega)
    rw [has_tr, show M[0].x + x - x = M[0].x by omega, show M[0].y + y - y = M[0].y by omega, hasL_iff.2 ⟨M[0], List.getElem_mem hpos, by unfold inR; omega⟩] at hh
    refine Ev.bind0 hh ?_
    refine Ev.pos rfl ?_
    exact Ev.bind awake_eq (Ev.ret true)
theorem moves_l {l : List S23} (h64 : ∀ s ∈ l, I64 (toR s)) (a b : Int) : ∀ (n i : Nat) (F : List S23), i + n = 7 → F.length ≤ i → (∀ s ∈ F, I64 (toR s)) → (∀ s ∈ F, chkR (toR s) ∧ Bx (toR s)) → Ev (fun k => tableaulaw08_RegionMoves.l0 k l a b F (i : Int)) true
  | 0, i, F, h, hF, f64, hbx => by
    refine Ev.next (G := fun k => tableaulaw08_RegionMoves.j1 k l a b F (i : Int) false) (fun k => ?_) (moves_end f64 hbx l a b i)
    rw [tableaulaw08_RegionMoves.l0]
    by_cases h1 : (i : Int) < (l.length : Int)
    · rw [if_pos h1, decide_eq_false (by omega)]
    · rw [if_neg h1]
  | n + 1, i, F, h, hF, f64, hbx => by
    by_cases hi : i < l.length
    · have e1 : wrap64 ((i : Int) + 1) = ((i + 1 : Nat) : Int) := by rw [w64 (by omega) (by omega)]; rfl
      have hr64 := h64 _ (List.getElem_mem hi)
      have skip := moves_l h64 a b n (i + 1) F (by omega) (by omega) f64 hbx
      refine Ev.next (G := fun k => tableaulaw08_RegionMoves.j1 k l a b F (i : Int) true) (fun k => by rw [tableaulaw08_RegionMoves.l0, if_pos (by omega), decide_eq_true (by omega)]) ?_
      refine Ev.next (fun k => by rw [tableaulaw08_RegionMoves.j1, if_pos rfl, if_pos (by omega), if_pos (by omega), rdT hi, e1]) ?_
      refine Ev.bind0 (chk0 hr64) ?_
      show Ev (fun k => if rChk (toR l[i]) = true then _ else _) true
      cases hc : rChk (toR l[i]) with
      | false => exact Ev.neg (by simp) skip
      | true =>
        refine Ev.pos rfl ?_
        have hck := chk_iff.1 hc
        refine Ev.bind0 (Cut1 hck) ?_
        by_cases hq : rCut (toR l[i]) bigR = toR l[i]
        · rw [hq]
          refine Ev.pos (by unfold tup toR; simp) ?_
          refine Ev.pos (by omega) ?_
          exact moves_l h64 a b n (i + 1) (F ++ [l[i]]) (by omega) (by rw [List.length_append, List.length_singleton]; omega) (fun s hs => by
            rcases List.mem_append.1 hs with h1 | h1
            · exact f64 s h1
            · have e : s = l[i] := (by simpa using h1)
              rw [e]; exact hr64) (fun s hs => by
            rcases List.mem_append.1 hs with h1 | h1
            · exact hbx s h1
            · have e : s = l[i] := (by simpa using h1)
              rw [e]; exact ⟨hck, cut_bx hck hq⟩)
        · refine Ev.neg ?_ skip
          intro h1
          apply hq
          unfold tup toR at h1
          simp only [Bool.and_eq_true, beq_iff_eq] at h1
          exact R.ext' h1.1 h1.2.1 h1.2.2.1 h1.2.2.2
    · refine Ev.next (G := fun k => tableaulaw08_RegionMoves.j1 k l a b F (i : Int) false) (fun k => ?_) (moves_end f64 hbx l a b i)
      rw [tableaulaw08_RegionMoves.l0, if_neg (by omega)]
/-- **The law, of any list and numbers.** -/
theorem moves_true {l : List S23} (h64 : ∀ s ∈ l, I64 (toR s)) (a b : Int) : ∃ k, tableaulaw08_RegionMoves.f k l a b = some true := by
  obtain ⟨K, hK⟩ := (moves_l h64 a b 7 0 [] (by omega) (by simp) (by simp) (by simp) : Ev (fun k => tableaulaw08_RegionMoves.f k l a b) true)
  exact ⟨K, hK K (Nat.le_refl _)⟩
end Go.Proofs.Ytogcokfildbodaa.PM
/- RegionMoves: the walk for the row, out of the print's contract and the plain law. -/
set_option linter.unusedVariables false
set_option linter.unusedSimpArgs false
namespace Go.Proofs.Ytogcokfildbodaa.PM
open Go.RowKit Go.Proofs.Ytogcokfildbodaa.Rect Go.Proofs.YtogcokfildbodaaW.PrintWords
theorem RegionMoves_walk (A0 : Option Addr) (c0 : Nat) (l0 : List S23) (a : Int) (wa : (Lit.int .i64 a).wf = true) (b : Int) (wb : (Lit.int .i64 b).wf = true) (w : World)
    (hc0 : l0.length ≤ c0) (hr0 : Kd.C k23 w A0 l0.length l0) (hI0 : l0.length ≤ 9223372036854775807 ∧ ∀ s ∈ l0, I64 (toR s)) :
    Calls Try.prog 8 #[.slice A0 l0.length c0, .int .i64 a, .int .i64 b] w fun e w' => e = .returned (.bool true) ∧ Below w.heap.size w w' := by
  obtain ⟨k, hk⟩ := moves_true hI0.2 a b
  exact tableaulaw08_RegionMoves.calls k A0 c0 l0 a b true w hr0 hc0 hk rfl
end Go.Proofs.Ytogcokfildbodaa.PM
