/- A moved region: rows made and copied, bands put together in memory, the walk of region.Shift. -/
import Derived.Test.YtogcokfildbodaaSl
import Derived.Laws.CopyRow
import Derived.Laws.Tables
import Derived.Test.YtogcokfildbodaaRg8
import Derived.Test.YtogcokfildbodaaRectW
import Derived.Test.YtogcokfildbodaaRgJ
import Derived.Deep.RegionLaw
set_option linter.unusedVariables false
set_option linter.unusedSimpArgs false
/- A whole row made, and a copy into it: for elements of any number of cells. No program. -/
namespace Go.Proofs.Ytogcokfildbodaa.Kit
open Go.RowKit
section
variable {P : Program} (w : World)
theorem run_copyN (base : Nat) (t ty e : TypeId) (i : TypeInfo) (size : Nat) (ht : P.underlying t = some (.slice e)) (hi : P.info? e = some i) (hsize : i.size = size)
    (v : Value) (n : Nat) (ys : List Value) (hown : w.ownsRow base e size v n ys) (B : Nat) (A : Option Addr) (c : Nat) (xs : List Value) (hr : Rds w B size A n xs) (h1 : ∀ u ∈ xs, u.oneCell' = true) :
    ∃ w', (Builtin.copy_ #[t, t] ty #[v, .slice A n c]).run P w = .ok (goInt n) w' ∧ w'.ownsRow base e size v n xs ∧ w.grownBy w' v.ownBlock := by
  obtain ⟨A', c', hv, hf⟩ := own_form hown
  have hlen : Nat.min n n = n := Nat.min_self n
  rcases Nat.eq_zero_or_pos n with h0 | h0
  · subst h0
    have hx : xs = [] := List.eq_nil_of_length_eq_zero (by simpa using hr.1)
    subst hx
    have hy : ys = [] := List.eq_nil_of_length_eq_zero (by simpa using hown.1)
    subst hy
    refine ⟨w, ?_, hown, ⟨rfl, rfl, rfl, Nat.le_refl _, fun _ _ _ => rfl⟩⟩
    rw [hv]
    cases A with
    | none => cases A' <;> simp [Builtin.copy_, run_underlying ht, Builtin.lenOf, Builtin.firstCells, sizeOf, typeInfo, hi, storeCells]
    | some a =>
      have hl := run_loadCells_list (P := P) w a [] (by simp)
      simp only [List.length_nil] at hl
      cases A' <;> simp [Builtin.copy_, run_underlying ht, Builtin.lenOf, Builtin.firstCells, sizeOf, typeInfo, hi, hl, storeCells]
  · obtain ⟨ad, rfl, _, hc⟩ := hr.2 h0
    rcases hown.2 with ⟨_, hn⟩ | ⟨g, cap, cur, rfl, hb, hg, hnc, hcm, hcs, hcx⟩
    · omega
    have hxl := hr.1
    have hfit : 0 + 0 + xs.length ≤ cur.size := by
      have h9 := Nat.mul_le_mul_right size hnc
      rw [hxl, hcs]; simpa using h9
    have hl := run_loadCells_list (P := P) w ad xs hc
    have hst := run_storeCells_at P g 0 e xs 0 cur w hg hfit h1
    rw [hxl] at hl
    refine ⟨w.setRow g (cur.toList.take (0 + 0) ++ xs ++ cur.toList.drop (0 + 0 + xs.length)).toArray, ?_, ?_, ?_⟩
    · have hmin : Nat.min n n = n := Nat.min_self n
      simp only [Builtin.copy_, Builtin.lenOf, Builtin.firstCells, Sem.run_bind, run_underlying ht, sizeOf, typeInfo, hi, hsize]
      simp [Builtin.lenOf, Builtin.firstCells, run_underlying ht, sizeOf, typeInfo, hi, hsize, hmin, hl, hst]
    · refine ⟨hxl, .inr ⟨g, cap, _, rfl, hb, setRow_heap w g cur _ e _ hg, hnc, hcm, ?_, ?_⟩⟩
      · have h9 : cur.toList.length = cap * size := by simpa using hcs
        simp only [List.size_toArray, List.length_append, List.length_take, List.length_drop, h9]
        rw [hcs] at hfit
        omega
      · simp only [List.take_zero, Nat.add_zero, Nat.zero_add, List.nil_append]
        rw [List.take_append_of_le_length (by omega), List.take_of_length_le (by omega)]
    · refine ⟨rfl, rfl, rfl, by simp [World.setRow], fun k _ hk => setRow_other w g k _ (fun e => hk (by rw [e]; rfl))⟩
theorem wpList_copyN {ops : Array Oper} {rest : List Oper} {o : Oper} {a : Act} {Q : Exit → Act → World → Prop} (hgd : o.guard = none) (s x : Operand) (t : TypeId)
    (ho : o.op = .call { callee := .builtin .copy, args := #[s, x], argTypes := #[t, t] })
    (base : Nat) (e : TypeId) (i : TypeInfo) (size : Nat) (ht : P.underlying t = some (.slice e)) (hi : P.info? e = some i) (hsize : i.size = size)
    (v : Value) (n : Nat) (ys : List Value) (hs : a.eval s = v) (hown : w.ownsRow base e size v n ys) (B : Nat) (A : Option Addr) (c : Nat) (xs : List Value) (hx : a.eval x = .slice A n c) (hr : Rds w B size A n xs) (h1 : ∀ u ∈ xs, u.oneCell' = true)
    (h : ∀ w', w'.ownsRow base e size v n xs → w.grownBy w' v.ownBlock → wpList P ops Q rest (a.put o.dst (goInt n)) w') : wpList P ops Q (o :: rest) a w := by
  refine wpList_plain hgd fun _ hK => ?_
  obtain ⟨w', hrun, h2, h3⟩ := run_copyN (P := P) w base t o.type e i size ht hi hsize v n ys hown B A c xs hr h1
  unfold Oper.wp execOp
  simp only [ho, resolve, invoke, builtin, Sem.run_bind, Sem.run_pure, Result.andThen_ok, List.map_toArray, List.map_cons, List.map_nil, hs, hx, hrun]
  exact hK _ _ (h w' h2 h3)
end
end Go.Proofs.Ytogcokfildbodaa.Kit
/- Bands put together one by one, in memory; a moved region, plain. -/
namespace Go.Proofs.Ytogcokfildbodaa.Wk
open Go.RowKit Go.Proofs.Ytogcokfildbodaa.Kit Go.Proofs.Ytogcokfildbodaa.Reg Go.Proofs.Ytogcokfildbodaa.Rect

def BnO (w wr : World) (k : Nat) (P : List (Bd × Value)) (out : Value) : Prop :=
  P.length ≤ k ∧ wr.ownsRow w.heap.size 64 3 out P.length (P.flatMap bdP) ∧
  (∀ p ∈ P, wr.ownsRow w.heap.size 61 2 p.2 p.1.v.length (p.1.v.flatMap spC) ∧ p.1.v.length ≤ k ∧ 0 < p.1.v.length) ∧
  P.Pairwise (fun p q => p.2.ownBlock ≠ q.2.ownBlock) ∧ Below w.heap.size w wr
section
variable {w wr : World} {k : Nat} {P : List (Bd × Value)} {out : Value}
theorem BnO.start (w : World) : BnO w w 0 [] (.slice none 0 0) := ⟨by simp, World.ownsRow_nil _ _ _ _, by simp, List.Pairwise.nil, Below.refl _ _⟩
theorem BnO.step (h : BnO w wr k P out) {W : World} (hW : Below wr.heap.size wr W) : BnO w W (k + 1) P out := by
  obtain ⟨h2, h3, h4, h5, h6⟩ := h
  refine ⟨by omega, own_be h3 hW, fun p hp => ?_, h5, h6.trans (hW.mono h6.size)⟩
  obtain ⟨a, b, c⟩ := h4 p hp
  exact ⟨own_be a hW, by omega, c⟩
theorem BnO.push (h : BnO w wr k P out) {r : R} {W w2 : World} {v2 : Value} {gi : Nat}
    (hW : Below wr.heap.size wr W) (hi : W.ownsRow w.heap.size 61 2 (.slice (some ⟨gi, 0, none⟩) 1 1) 1 (spC (rSp r))) (hgi : wr.heap.size ≤ gi)
    (ho : w2.ownsRow w.heap.size 64 3 v2 (P.length + 1) (P.flatMap bdP ++ bdP (rBd r, .slice (some ⟨gi, 0, none⟩) 1 1))) (hg : W.grownBy w2 out.ownBlock) :
    BnO w w2 (k + 1) (P ++ [(rBd r, .slice (some ⟨gi, 0, none⟩) 1 1)]) v2 := by
  obtain ⟨h2, h3, h4, h5, h6⟩ := h
  have h3W := own_be h3 hW
  refine ⟨by simp; omega, by simpa [List.flatMap_append] using ho, fun p hp => ?_, ?_, ?_⟩
  · rcases List.mem_append.1 hp with hp | hp
    · obtain ⟨a, b, c⟩ := h4 p hp
      have aW := own_be a hW
      exact ⟨aW.kept hg (own_two aW h3W (by decide)), by omega, c⟩
    · obtain rfl : p = _ := by simpa using hp
      exact ⟨hi.kept hg (own_two hi h3W (by decide)), by simp [rBd], by simp [rBd]⟩
  · rw [List.pairwise_append]
    refine ⟨h5, List.pairwise_singleton _ _, fun p hp q hq => ?_⟩
    obtain rfl : q = _ := by simpa using hq
    obtain ⟨a, b, c⟩ := h4 p hp
    obtain ⟨g, hg1, _, hg2⟩ := own_block a c
    rw [hg1]
    simp only [Value.ownBlock, ne_eq]
    intro he
    simp at he
    omega
  · exact (h6.trans (hW.mono h6.size)).grown hg (by have := h6.size; have := hW.size; omega) (fun g hg' => (h3W.lt g hg').1)
theorem BnO.ext {L : List (Bd × Value)} {q : Bd × Value} {g oc : Nat} {r : R} (h : BnO w wr k (L ++ [q]) (.slice (some ⟨g, 0, none⟩) (L.length + 1) oc)) {W w3 : World} {v3 : Value}
    (hW : Below wr.heap.size wr W) (hi : w3.ownsRow w.heap.size 61 2 v3 (q.1.v.length + 1) (q.1.v.flatMap spC ++ spC (rSp r))) (hg : W.grownBy w3 q.2.ownBlock) (hat : v3.ownBlock = q.2.ownBlock ∨ v3.ownBlock = some W.heap.size) :
    BnO w (w3.setCell ⟨g, L.length * 3 + 2, none⟩ v3) (k + 1) (L ++ [((⟨q.1.f, q.1.t, q.1.v ++ [rSp r]⟩ : Bd), v3)]) (.slice (some ⟨g, 0, none⟩) (L.length + 1) oc) := by
  obtain ⟨h2, h3, h4, h5, h6⟩ := h
  rw [List.length_append, List.length_singleton] at h2 h3
  have h3W := own_be h3 hW
  obtain ⟨q1, q2, q3⟩ := h4 q (by simp)
  have q1W := own_be q1 hW
  have h33 := h3W.kept hg (own_two h3W q1W (by decide))
  have hgb := gb_set w3 g (L.length * 3 + 2) v3
  have hob : (Value.slice (some ⟨g, 0, none⟩) (L.length + 1) oc).ownBlock = some g := by simp [Value.ownBlock]
  obtain ⟨gq, hq1, hq2, hq3⟩ := own_block q1 q3
  rw [List.pairwise_append] at h5
  refine ⟨by simp; omega, ?_, fun p hp => ?_, ?_, ?_⟩
  · have s1 := (World.ownsRow.stored (w := w3) h33 (L.length * 3 + 2) v3).1
    rw [set_bd2 L q v3 ⟨q.1.f, q.1.t, q.1.v ++ [rSp r]⟩ rfl rfl] at s1
    rw [List.length_append, List.length_singleton]
    exact s1
  · rcases List.mem_append.1 hp with hp | hp
    · obtain ⟨a, b, c⟩ := h4 p (by simp [hp])
      have aW := own_be a hW
      have a3 := aW.kept hg (.inr (h5.2.2 p hp q (by simp)))
      exact ⟨a3.kept hgb (by rw [← hob]; exact own_two a3 h33 (by decide)), by omega, c⟩
    · obtain rfl : p = _ := by simpa using hp
      have h7 := hi.kept hgb (by rw [← hob]; exact own_two hi h33 (by decide))
      refine ⟨?_, by simp; omega, by simp⟩
      simpa [List.flatMap_append] using h7
  · rw [List.pairwise_append]
    refine ⟨h5.1, List.pairwise_singleton _ _, fun p hp r hr => ?_⟩
    obtain rfl : r = _ := by simpa using hr
    obtain ⟨a, b, c⟩ := h4 p (by simp [hp])
    obtain ⟨gp, hp1, _, hp2⟩ := own_block a c
    have h8 := h5.2.2 p hp q (by simp)
    rcases hat with hat | hat
    · show p.2.ownBlock ≠ v3.ownBlock
      rw [hat]; exact h8
    · show p.2.ownBlock ≠ v3.ownBlock
      rw [hat, hp1]
      intro he
      have : gp = W.heap.size := by simpa using he
      have := hW.size
      omega
  · have h9 : Below w.heap.size w w3 := (h6.trans (hW.mono h6.size)).grown hg (by have := h6.size; have := hW.size; omega) (fun g hg' => (q1W.lt g hg').1)
    exact h9.setCell (by show w.heap.size ≤ g; exact (h3.lt g hob).1) _
/-- what is known of the last band -/
theorem BnO.last {L : List (Bd × Value)} {q : Bd × Value} (h : BnO w wr k (L ++ [q]) out) : ∃ g oc g2 c2 : Nat, out = .slice (some ⟨g, 0, none⟩) (L.length + 1) oc ∧ q.2 = .slice (some ⟨g2, 0, none⟩) q.1.v.length c2 ∧
    w.heap.size ≤ g ∧ g < wr.heap.size ∧ w.heap.size ≤ g2 ∧ g2 < wr.heap.size ∧ g ≠ g2 ∧ 0 < q.1.v.length ∧ q.1.v.length ≤ k ∧
    wr.cell? ⟨g, L.length * 3, none⟩ = some (iC q.1.f) ∧ wr.cell? ⟨g, L.length * 3 + 2, none⟩ = some q.2 ∧
    (∀ j, wr.frozen? ⟨g, j, none⟩ = false) ∧ wr.ownsRow w.heap.size 61 2 q.2 q.1.v.length (q.1.v.flatMap spC) := by
  obtain ⟨h2, h3, h4, h5, h6⟩ := h
  obtain ⟨q1, q2, q3⟩ := h4 q (by simp)
  have htw := own_two h3 q1 (by decide)
  rw [List.length_append, List.length_singleton] at h3
  have hq1 := q1
  obtain ⟨A, oc, rfl, hf⟩ := own_form h3
  obtain ⟨g, rfl, a1, a2⟩ := hf (by omega)
  obtain ⟨A2, c2, hv, hf2⟩ := own_form q1
  obtain ⟨g2, rfl, b1, b2⟩ := hf2 q3
  rw [hv] at q1 htw
  refine ⟨g, oc, g2, c2, rfl, hv, a1, a2, b1, b2, ?_, q3, q2, ?_, ?_, h3.frozenAt, hq1⟩
  · rcases htw with h | h
    · simp [Value.ownBlock] at h
    · simpa [Value.ownBlock] using h
  · rw [h3.cellAt (L.length * 3) (by omega), show L.length * 3 = L.length * 3 + 0 by omega, flat_at bdP 3 bdP_len (L ++ [q]) L.length (by simp) 0 (by omega)]; simp [bdP]
  · rw [h3.cellAt (L.length * 3 + 2) (by omega), flat_at bdP 3 bdP_len (L ++ [q]) L.length (by simp) 2 (by omega)]; simp [bdP]
end
/-! plain -/
def sfG (l : List R) (x y : Int) (k : Nat) : List Bd := (movF (l.take k) x y).foldl grpStep []
theorem sfG_skip {l : List R} {x y : Int} {k : Nat} (hk : k < l.length) (he : emp (mov x y l[k]) = true) : sfG l x y (k + 1) = sfG l x y k := by
  unfold sfG
  rw [List.take_succ_eq_append_getElem hk, movF_app, movF_cons, if_pos he]
  simp [movF]
theorem sfG_put {l : List R} {x y : Int} {k : Nat} (hk : k < l.length) (he : emp (mov x y l[k]) = false) : sfG l x y (k + 1) = grpStep (sfG l x y k) (mov x y l[k]) := by
  unfold sfG
  rw [List.take_succ_eq_append_getElem hk, movF_app, movF_cons, if_neg (by simp [he]), List.foldl_append]
  simp [movF]
theorem grp_nil (r : R) : grpStep [] r = [rBd r] := rfl
theorem grp_last {L : List (Bd × Value)} {q : Bd × Value} {r : R} : grpStep ((L ++ [q]).map (·.1)) r = if q.1.f = r.y then L.map (·.1) ++ [⟨q.1.f, q.1.t, q.1.v ++ [rSp r]⟩] else (L ++ [q]).map (·.1) ++ [rBd r] := by
  unfold grpStep
  rw [List.map_append, List.map_singleton, List.getLast?_concat]
  simp only [List.dropLast_concat]
theorem inB_rBd {r : R} (h : chkR r) : InB (rBd r) := by
  unfold chkR at h
  refine ⟨by unfold rBd; simp only; omega, fun s hs => ?_⟩
  obtain rfl : s = rSp r := by simpa [rBd] using hs
  unfold rSp; simp only; omega
theorem grp_inB {out : List Bd} {r : R} (h : ∀ b ∈ out, InB b) (hr : chkR r) : ∀ b ∈ grpStep out r, InB b := by
  intro b hb
  have hn := inB_rBd hr
  unfold grpStep at hb
  split at hb
  · rename_i c hc
    have hci := h c (List.mem_of_getLast? hc)
    split at hb
    · rcases List.mem_append.1 hb with h1 | h1
      · exact h b (List.dropLast_subset _ h1)
      · obtain rfl : b = _ := by simpa using h1
        refine ⟨hci.1, fun s hs => ?_⟩
        rcases List.mem_append.1 hs with h2 | h2
        · exact hci.2 s h2
        · exact hn.2 s (by unfold rBd; exact h2)
    · rcases List.mem_append.1 hb with h1 | h1
      · exact h b h1
      · obtain rfl : b = _ := by simpa using h1
        exact hn
  · rcases List.mem_append.1 hb with h1 | h1
    · exact h b h1
    · obtain rfl : b = _ := by simpa using h1
      exact hn
theorem mov_chk {x y : Int} {r : R} (h : emp (mov x y r) = false) : chkR (mov x y r) := chk_iff.1 (chk_bound h)
theorem sfG_inB (l : List R) (x y : Int) : ∀ k, k ≤ l.length → ∀ b ∈ sfG l x y k, InB b
  | 0, _ => by intro b hb; simp [sfG, movF] at hb
  | k + 1, h => by
    have ih := sfG_inB l x y k (by omega)
    cases he : emp (mov x y (l[k]'(by omega))) with
    | true => rw [sfG_skip (by omega) he]; exact ih
    | false => rw [sfG_put (by omega) he]; exact grp_inB ih (mov_chk he)
theorem sfG_all {l : List R} {x y : Int} (hx : farB x = false) (hy : farB y = false) (h : (bandsF l).isSome = true) : rectsF (sfG l x y l.length) = shiftF l x y := by
  unfold sfG shiftF
  rw [hx, hy, h, List.take_length]; rfl
end Go.Proofs.Ytogcokfildbodaa.Wk
/- The walk of region.Shift. -/
namespace Go.Proofs.Ytogcokfildbodaa.Wk
open Go.RowKit Go.Proofs.Ytogcokfildbodaa.Kit Go.Proofs.Ytogcokfildbodaa.Reg Go.Proofs.Ytogcokfildbodaa.Rect

theorem far_any (n : Int) (w : World) : Calls Try.prog 61 #[.int .i64 n] w fun e w' => e = .returned (.bool (farB n)) ∧ Below w.heap.size w w' := by
  go_enter Try.func61, Try.ntmps61
  go_wp2
  all_goals
    go_ret
    refine ⟨ret_bool ?_, Below.refl _ _⟩
    (rw [Bool.eq_iff_iff]; unfold farB; simp only [Bool.or_eq_true, decide_eq_true_eq]) <;> (try simp) <;> (try omega)
theorem RcP.nil {w w' : World} {l : List R} {e : Ending} (h : l = []) (he : e = .returned (.slice none 0 0)) (hb : Below w.heap.size w w') : RcP w l e w' := by
  subst h; exact ⟨_, he, World.ownsRow_nil _ _ _ _, hb⟩
set_option maxRecDepth 100000 in
set_option maxHeartbeats 32000000 in
theorem RShift_any (A : Option Addr) (c : Nat) (l : List R) (x y : Int) (w : World) (hn : l.length ≤ 1000000) (h64 : ∀ r ∈ l, I64 r) (hA : Rds w w.heap.size 4 A l.length (l.flatMap rC)) :
    Calls Try.prog 29 #[.slice A l.length c, .int .i64 x, .int .i64 y] w (RcP w (shiftF l x y)) := by
  obtain ⟨iS, hiS, zS0, zS1, zS2⟩ := info_parts infoS
  obtain ⟨iB, hiB, zB0, zB1, zB2⟩ := info_parts infoB
  obtain ⟨iR, hiR, zR0, zR1, zR2⟩ := info_parts infoR
  go_enter Try.func29, Try.ntmps29
  go_wp2_with fail
  refine (far_any x _).mono ?_
  rintro e w1 ⟨rfl, hb1⟩
  cases hfx : farB x with
  | true =>
    go_wp2_with fail
    go_ret
    exact RcP.nil (by unfold shiftF; rw [hfx]; rfl) rfl hb1
  | false =>
    go_wp2_with fail
    refine (far_any y _).mono ?_
    rintro e w2 ⟨rfl, hb2⟩
    have hb12 : Below w.heap.size w w2 := bl_step hb1 hb2
    cases hfy : farB y with
    | true =>
      go_wp2_with fail
      go_ret
      exact RcP.nil (by unfold shiftF; rw [hfx, hfy]; rfl) rfl hb12
    | false =>
      go_wp2_with fail
      refine (RCheck_any A c l _ (by omega) h64 ((hA.be hb12).more hb12.size)).mono ?_
      rintro e w3 ⟨rfl, hb3⟩
      have hb13 : Below w.heap.size w w3 := bl_step hb12 hb3
      cases hch : (bandsF l).isSome with
      | false =>
        go_wp2_with fail
        go_ret
        exact RcP.nil (by unfold shiftF; rw [hfx, hfy, hch]; rfl) rfl hb13
      | true =>
        have hcc := Rg.chk (show Rg l from hch)
        have hA3 : Rds w3 w3.heap.size 4 A l.length (l.flatMap rC) := (hA.be hb13).more hb13.size
        have hz := hb13.size
        have HX := Lib.hid hfx
        have HY := Lib.hid hfy
        have HC := Lib.hid hch
        clear hfx hfy hch
        have h1c : ∀ u ∈ l.flatMap rC, u.oneCell' = true := by intro u hu; obtain ⟨r, _, hr⟩ := List.mem_flatMap.1 hu; simp [rC] at hr; rcases hr with rfl | rfl | rfl | rfl <;> rfl
        have H1 := Lib.hid h1c
        clear h1c
        go_wp2_with (first
          | (at_make; go_must (refine wpList_make_full _ rfl (.tmp 25) (.tmp 25) 25 rfl w.heap.size 23 iR _ 4 Try.underlying25 hiR zR0 zR1 .i64 .i64 _ _ l.length rfl rfl rfl rfl (by rw [zR2]; omega) (by simp only [maxLen]; omega) (by omega) ?_); intro w4 hown4 hg4; have hb34 : Below w3.heap.size w3 w4 := (Below.refl _ _).grown hg4 (Nat.le_refl _) (by intro g hg; simp at hg); have hA4 : Rds w4 w4.heap.size 4 A l.length (l.flatMap rC) := (hA3.be hb34).more hb34.size)
          | (refine wpList_copyN _ rfl (.tmp 27) (.tmp 28) 25 rfl w.heap.size 23 iR 4 Try.underlying25 hiR zR1 (.slice (some ⟨w3.heap.size, 0, none⟩) l.length l.length) l.length _ rfl hown4 w4.heap.size A c (l.flatMap rC) rfl hA4 H1.out ?_; intro w5 hown5 hg5))
        have hM5 : Rds w5 w5.heap.size 4 (some ⟨w3.heap.size, 0, none⟩) l.length (l.flatMap rC) := Rds.own hown5
        have hb14 : Below w.heap.size w w4 := bl_step hb13 hb34
        have hb45 : Below w.heap.size w w5 := hb14.grown hg5 hb14.size (fun g hg => (hown4.lt g hg).1)
        have hxb : -16777216 ≤ x ∧ x ≤ 16777216 := by have := HX.out; unfold farB at this; simp at this; omega
        have hyb : -16777216 ≤ y ∧ y ≤ 16777216 := by have := HY.out; unfold farB at this; simp at this; omega
        generalize hMA : (some (⟨w3.heap.size, 0, none⟩ : Addr) : Option Addr) = MA at hM5 ⊢
        have HALL := Lib.hid (sfG_all HX.out HY.out HC.out)
        clear hMA hown4 hown5 hg4 hg5 hA hA3 hA4 hb34 hb14 HX HY HC H1 hb13 hb12 hb1 hb2 hb3 h64 hz
        go_loopg [8, 32] l.length (fun gd out i wr => ∃ (k : Nat) (P : List (Bd × Value)), k + gd = l.length ∧ i = .int .i64 k ∧ Hid (P.map (·.1) = sfG l x y k ∧ BnO w5 wr k P out))
        case atStart => exact ⟨0, [], by omega, rfl, Lib.hid ⟨rfl, BnO.start w5⟩⟩
        case round =>
          obtain ⟨k, P, hk, rfl, HI⟩ := hrel
          obtain ⟨OA, oc, rfl, hform⟩ := own_form HI.out.2.2.1
          have hbr := HI.out.2.2.2.2.2
          have hPk := HI.out.2.1
          by_cases hlt : k < l.length
          · obtain ⟨ad, rfl, hbl, c0, c1, c2, c3⟩ := Rds.rc (hM5.be hbr) hlt
            have hck := hcc l[k] (List.getElem_mem hlt)
            have HSK := Lib.hid (fun he => sfG_skip (x := x) (y := y) hlt he)
            have HPT := Lib.hid (fun he => sfG_put (x := x) (y := y) hlt he)
            generalize l[k] = r at *
            obtain ⟨rx, ry, rw_, rh⟩ := r
            simp only at c0 c1 c2 c3
            have hsm : Rect.Sm ⟨rx, ry, rw_, rh⟩ := Sm.of_chk (chk_iff.2 hck)
            have his := i64_shift (a := ⟨rx, ry, rw_, rh⟩) (x := x) (y := y) (fun _ => hsm) (by omega) (by omega)
            clear hcc hck
            go_wp2_with fail
            refine (Shift_any rx ry rw_ rh x y _ (fun _ => hsm) (fun _ => by omega) (fun _ => by omega)).mono ?_
            rintro e w6 ⟨rfl, hb6⟩
            have B6 : Bk w6 wr.heap.size 23 #[iC rx, iC ry, iC rw_, iC rh] := Bk.be (Bk.new _ _ _) hb6
            have hbw6 : Below wr.heap.size wr w6 := bl_step (bl_alloc (Below.refl _ _) _) hb6
            have hmv : mov x y ⟨rx, ry, rw_, rh⟩ = rBound (rShift ⟨rx, ry, rw_, rh⟩ x y) := rfl
            rw [hmv] at HSK HPT
            generalize rShift ⟨rx, ry, rw_, rh⟩ x y = s at *
            clear hb6 c0 c1 c2 c3 hsm hmv
            go_wp2_with fail
            refine (Bound_any s.x s.y s.w s.h _ his).mono ?_
            rintro e w7 ⟨rfl, hb7⟩
            have B7 := B6.be hb7
            have hbw7 : Below wr.heap.size wr w7 := bl_step hbw6 hb7
            have hmc : emp (rBound s) = false → chkR (rBound s) := fun h => chk_iff.1 (chk_bound h)
            have hmb : rBound ⟨s.x, s.y, s.w, s.h⟩ = rBound s := rfl
            rw [hmb]
            generalize rBound s = m at *
            clear hb7 hmb his
            obtain ⟨mx, my, mw, mh⟩ := m
            simp only
            have f0 := B7.cell 0
            have f1 := B7.cell 1
            have f2 := B7.cell 2
            have f3 := B7.cell 3
            have fz := B7.fz
            go_wp2_with fail
            refine (Empty_any mx my mw mh _).mono ?_
            rintro e w1 ⟨rfl, hb8⟩
            have Br : Bk w1 wr.heap.size 23 #[iC mx, iC my, iC mw, iC mh] := (Bk.st4' B7 (iC mx) (iC my) (iC mw) (iC mh)).be hb8
            have hbw : Below wr.heap.size wr w1 := bl_step (by with_reducible repeat (first | exact hbw7 | refine bl_set ?_ (Nat.le_refl _) _)) hb8
            clear hb8 f0 f1 f2 f3 fz B7 B6 hbw6 hbw7
            cases hem : emp ⟨mx, my, mw, mh⟩ with
            | true =>
              go_wp2_with fail
              go_roundg (gk - 1)
              case measure => omega
              case rel => exact ⟨k + 1, P, by omega, by go_num, Lib.hid ⟨by rw [HSK.out hem]; exact HI.out.1, HI.out.2.step hbw⟩⟩
            | false =>
              have hcc' := hmc hem
              unfold chkR at hcc'
              simp only at hcc'
              obtain ⟨k1, k2, k3, k4, k5, k6⟩ := hcc'
              have HP1 := Lib.hid (HPT.out hem)
              clear hem hmc HSK HPT
              have x0 := Br.cell 0
              have x1 := Br.cell 1
              have x2 := Br.cell 2
              have x3 := Br.cell 3
              have xz := Br.lt
              have hz1 := hbw.size
              have hz0 := hbr.size
              generalize hqn : P.length = n at hPk hform ⊢
              have HN := Lib.hid hqn
              clear hqn
              rcases List.eq_nil_or_concat P with h0 | ⟨L, q, h0⟩
              · have h00 := HN.out
                rw [h0] at h00
                obtain rfl : n = 0 := h00.symm
                have H0 := Lib.hid h0
                clear h0 h00
                have hown := HI.out.2.2.1
                rw [HN.out] at hown
                go_wp2_with fail
                go_quiet (fail)
                go_wp2_with (at_builtin; go_must (refine wpList_app _ rfl (.tmp 80) (.tmp 91) _ rfl w5.heap.size 64 iB _ 3 40 Try.underlying52 hiB zB0 zB1 zB2 rfl (by omega) (.slice OA 0 oc) (0) (P.flatMap bdP) rfl (own_be hown (by with_reducible repeat (first | exact hbw | apply bl_alloc | apply bl_drew | apply bl_drewN))) (w1.heap.size + 1 + 1 + 1) (some ⟨w1.heap.size + 1 + 1, 0, none⟩) 1 1 [iC my, iC (my + mh), .slice (some ⟨w1.heap.size + 1, 0, none⟩) 1 1] rfl (Rds.block (cs := #[iC my, iC (my + mh), .slice (some ⟨w1.heap.size + 1, 0, none⟩) 1 1]) (by with_reducible repeat (first | apply Bk.drN | apply Bk.dr | exact Bk.new' _ _ _ (by simp))) rfl (by omega)) (by intro u hu; simp at hu; rcases hu with rfl | rfl | rfl <;> rfl) (by simp only [maxLen]; omega) (by omega) (by simp; omega) ?_); intro v2 w2 hown2 hg2 hat2)
                have hI2 : BnO w5 w2 (k + 1) (P ++ [(rBd ⟨mx, my, mw, mh⟩, .slice (some ⟨w1.heap.size + 1, 0, none⟩) 1 1)]) v2 := by
                  refine HI.out.2.push (r := ⟨mx, my, mw, mh⟩) (gi := w1.heap.size + 1) ?_ ?_ ?_ ?_ (by rw [ownBlock_len OA P.length 0 oc]; exact hg2)
                  · with_reducible repeat (first | exact hbw | apply bl_alloc | apply bl_drew | apply bl_drewN)
                  · repeat (first | (with_reducible apply own_drN) | (with_reducible apply World.ownsRow.drew) | (refine own_lit1 _ #[iC mx, iC (mx + mw)] _ 2 _ _ (by simp) (by omega) rfl) | (with_reducible apply World.ownsRow.alloc))
                  · omega
                  · rw [HN.out]; exact hown2
                go_roundg (gk - 1)
                case measure => omega
                case rel => exact ⟨k + 1, _, by omega, by go_num, Lib.hid ⟨by rw [HP1.out, ← HI.out.1, H0.out]; rfl, hI2⟩⟩
              · rw [List.concat_eq_append] at h0
                have h00 := HN.out
                rw [h0, List.length_append, List.length_singleton] at h00
                obtain rfl : n = L.length + 1 := h00.symm
                have H0 := Lib.hid h0
                subst h0
                obtain ⟨g, oc', g2, cc2, hout, hqv, a1, a2, b1, b2, hgg, hq0, hqk, d0, d2, df, dq⟩ := HI.out.2.last
                have hobl : OA = some ⟨g, 0, none⟩ ∧ oc = oc' := by
                  simpa using hout
                obtain ⟨rfl, rfl⟩ := hobl
                have HV := Lib.hid hqv
                rw [hqv] at d2
                have d0' : w1.cell? ⟨g, L.length * 3, none⟩ = some (iC q.1.f) := (hbw.cell (p := ⟨g, L.length * 3, none⟩) a2).trans d0
                have d2' : w1.cell? ⟨g, L.length * 3 + 2, none⟩ = some (.slice (some ⟨g2, 0, none⟩) q.1.v.length cc2) := (hbw.cell (p := ⟨g, L.length * 3 + 2, none⟩) a2).trans d2
                have df' : w1.frozen? ⟨g, L.length * 3 + 2, none⟩ = false := (hbw.frozen (p := ⟨g, L.length * 3 + 2, none⟩) a2).trans (df _)
                have hown := HI.out.2.2.1
                rw [List.length_append, List.length_singleton] at hown
                clear hqv d0 d2 df hform hout
                have g0 : ¬ (g = w1.heap.size) := by omega
                have g1 : ¬ (w1.heap.size = g) := by omega
                have g3 : ¬ (g2 = w1.heap.size) := by omega
                have g4 : ¬ (w1.heap.size = g2) := by omega
                have g7 : g < w1.heap.size := by omega
                have g8 : g2 < w1.heap.size := by omega
                have b0 : (0 : Int) ≤ (L.length : Int) := by omega
                have b1 : (L.length : Int) < ((L.length + 1 : Nat) : Int) := by omega
                have b2 : (L.length : Int) < (L.length : Int) + 1 := by omega
                have hw1 : IntKind.i64.wrap (((L.length + 1 : Nat) : Int) - 1) = (L.length : Int) := by rw [i64_in (by omega) (by omega)]; omega
                have hw2 : IntKind.i64.wrap ((L.length : Int) + 1 - 1) = (L.length : Int) := by rw [i64_in (by omega) (by omega)]; omega
                have hw3 : IntKind.i64.wrap (L.length : Int) = (L.length : Int) := i64_in (by omega) (by omega)
                by_cases hf : q.1.f = my
                · have he : ((q.1.f : Int) == my) = true := by simp [hf]
                  have HFq := Lib.hid hf
                  clear hf
                  go_wp2_with fail
                  go_quiet (fail)
                  go_wp2_with fail
                  obtain ⟨m, hm⟩ : ∃ m, q.1.v.length = m + 1 := ⟨q.1.v.length - 1, by omega⟩
                  have hk1 := hqk
                  have dq' := dq
                  rw [HV.out] at dq'
                  rw [hm] at d2' hk1 dq'
                  have HM := Lib.hid hm
                  clear hm he
                  go_region_law
                    ((refine step_app _ (by rfl) (.tmp 74) (.tmp 76) _ (by rfl) w5.heap.size 61 iS _ 2 16 Try.underlying62 hiS zS0 zS1 zS2 rfl (by omega) (.slice (some ⟨g2, 0, none⟩) (m + 1) cc2) (m + 1) (q.1.v.flatMap spC) (by rfl) (own_be dq' (by with_reducible repeat (first | exact hbw | apply bl_alloc | apply bl_drew | apply bl_drewN))) (w1.heap.size + 1 + 1) (some ⟨w1.heap.size + 1, 0, none⟩) 1 1 [iC mx, iC (mx + mw)] (by rfl) (Rds.block (cs := #[iC mx, iC (mx + mw)]) (by with_reducible repeat (first | apply Bk.drN | apply Bk.dr | exact Bk.new' _ _ _ (by simp))) rfl (by omega)) (by intro u hu; simp at hu; rcases hu with rfl | rfl <;> rfl) (by simp only [maxLen]; omega) (by omega) (by simp; omega) ?_; intro v3 w3' hown3 hg3 hat3; obtain ⟨A3, c3', rfl, _⟩ := own_form hown3; have hbW := app_bel (show Below w1.heap.size w1 _ from by with_reducible repeat (first | exact Below.refl _ _ | apply bl_alloc | apply bl_drew | apply bl_drewN)) hg3; obtain ⟨k1', k2', Bx⟩ := app_keep (g := g) (t := 61) (cs := #[iC mx, iC (mx + mw)]) hg3 hbW (by with_reducible repeat (first | exact Bk.new _ _ _ | apply Bk.drN | apply Bk.dr | apply Bk.al)) hgg g7 g8; have nt : w3'.cell? ⟨g, L.length * 3 + 2, none⟩ = some (.slice (some ⟨g2, 0, none⟩) (m + 1) cc2) := (k1' _).trans d2'; have nf : w3'.frozen? ⟨g, L.length * 3 + 2, none⟩ = false := (k2' _).trans df'))
                  all_goals
                    go_wp2
                    have hI3 := BnO.ext (L := L) (q := q) (g := g) (oc := oc) (r := ⟨mx, my, mw, mh⟩) (by have h8 := HI.out.2; rw [List.length_append, List.length_singleton] at h8; exact h8) (hbw.trans (hbW.mono hbw.size)) (by rw [HM.out]; exact hown3) (by rw [HV.out]; exact hg3) (by rw [HV.out]; exact hat3)
                    go_roundg (gk - 1)
                    case measure => omega
                    case rel => exact ⟨k + 1, _, by omega, by go_num, Lib.hid ⟨by rw [HP1.out, ← HI.out.1, grp_last, if_pos HFq.out, List.map_append]; rfl, hI3⟩⟩
                · have he : ((q.1.f : Int) == my) = false := by simpa using hf
                  have HFq := Lib.hid hf
                  clear hf
                  go_wp2_with fail
                  go_quiet (fail)
                  go_wp2_with (at_builtin; go_must (refine wpList_app _ rfl (.tmp 80) (.tmp 91) _ rfl w5.heap.size 64 iB _ 3 40 Try.underlying52 hiB zB0 zB1 zB2 rfl (by omega) (.slice (some ⟨g, 0, none⟩) (L.length + 1) oc) (L.length + 1) ((L ++ [q]).flatMap bdP) rfl (own_be hown (by with_reducible repeat (first | exact hbw | apply bl_alloc | apply bl_drew | apply bl_drewN))) (w1.heap.size + 1 + 1 + 1) (some ⟨w1.heap.size + 1 + 1, 0, none⟩) 1 1 [iC my, iC (my + mh), .slice (some ⟨w1.heap.size + 1, 0, none⟩) 1 1] rfl (Rds.block (cs := #[iC my, iC (my + mh), .slice (some ⟨w1.heap.size + 1, 0, none⟩) 1 1]) (by with_reducible repeat (first | apply Bk.drN | apply Bk.dr | exact Bk.new' _ _ _ (by simp))) rfl (by omega)) (by intro u hu; simp at hu; rcases hu with rfl | rfl | rfl <;> rfl) (by simp only [maxLen]; omega) (by omega) (by simp; omega) ?_); intro v2 w2 hown2 hg2 hat2)
                  have hI2 : BnO w5 w2 (k + 1) (L ++ [q] ++ [(rBd ⟨mx, my, mw, mh⟩, .slice (some ⟨w1.heap.size + 1, 0, none⟩) 1 1)]) v2 := by
                    refine HI.out.2.push (r := ⟨mx, my, mw, mh⟩) (gi := w1.heap.size + 1) ?_ ?_ ?_ ?_ (by rw [ownBlock_len (some ⟨g, 0, none⟩) (L ++ [q]).length (L.length + 1) oc]; exact hg2)
                    · with_reducible repeat (first | exact hbw | apply bl_alloc | apply bl_drew | apply bl_drewN)
                    · repeat (first | (with_reducible apply own_drN) | (with_reducible apply World.ownsRow.drew) | (refine own_lit1 _ #[iC mx, iC (mx + mw)] _ 2 _ _ (by simp) (by omega) rfl) | (with_reducible apply World.ownsRow.alloc))
                    · omega
                    · rw [List.length_append, List.length_singleton]; exact hown2
                  go_roundg (gk - 1)
                  case measure => omega
                  case rel => exact ⟨k + 1, _, by omega, by go_num, Lib.hid ⟨by rw [HP1.out, ← HI.out.1, grp_last, if_neg HFq.out, List.map_append (l₁ := L ++ [q])]; rfl, hI2⟩⟩
          · obtain rfl : k = l.length := by omega
            have hB := HI.out.1
            have hin := sfG_inB l x y l.length (Nat.le_refl _)
            rw [← hB] at hin
            have hR := rects_any OA oc P wr (by omega) (fun p hp => by have := (HI.out.2.2.2.1 p hp).2.1; omega) (fun p hp => hin _ (List.mem_map_of_mem hp)) (Rds.own HI.out.2.2.1) (fun p hp => SpR.own (HI.out.2.2.2.1 p hp).1)
            have HR := Lib.hid hR
            have HB := Lib.hid hB
            clear hR hB hin hcc
            go_wp2_with fail
            refine HR.out.mono ?_
            rintro e w9 ⟨v9, rfl, hown9, hb9⟩
            go_wp2_with fail
            go_ret
            refine ⟨v9, rfl, ?_, (bl_step hb45 hbr).trans (hb9.mono (by have := hb45.size; have := hbr.size; omega))⟩
            rw [← HALL.out, ← HB.out]
            exact own_lower hown9 (by have := hb45.size; have := hbr.size; omega)
end Go.Proofs.Ytogcokfildbodaa.Wk
