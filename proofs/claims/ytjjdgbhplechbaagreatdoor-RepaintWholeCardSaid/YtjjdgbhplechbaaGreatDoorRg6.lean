/- The walk of region.rects. -/
import Derived.Test.YtjjdgbhplechbaaGreatDoorRg5
import Derived.Test.YtjjdgbhplechbaaGreatDoorRectWalk3
set_option linter.unusedVariables false
set_option linter.unusedSimpArgs false
namespace Go.Proofs.YtjjdgbhplechbaaGreatDoor.Wk
open Go.RowKit Go.Proofs.YtjjdgbhplechbaaGreatDoor.Kit Go.Proofs.YtjjdgbhplechbaaGreatDoor.Reg Go.Proofs.YtjjdgbhplechbaaGreatDoor.Rect
attribute [local go_sem high] eqS

/-- Where no difference of a band's numbers leaves its type. -/
def InB (b : Bd) : Prop := (-8589934592 ≤ b.f ∧ b.f ≤ 8589934592 ∧ -8589934592 ≤ b.t ∧ b.t ≤ 8589934592) ∧ ∀ s ∈ b.v, -8589934592 ≤ s.f ∧ s.f ≤ 8589934592 ∧ -8589934592 ≤ s.t ∧ s.t ≤ 8589934592
def accB (B : List Bd) (k : Nat) : List Bd := ((B.take k).filter fun b => !b.v.isEmpty).foldl push1 []
theorem accB_all (B : List Bd) : rectsF B = flat (accB B B.length) := by unfold rectsF mrg accB; rw [List.take_length]
theorem accB_succ (B : List Bd) (k : Nat) (h : k < B.length) : accB B (k + 1) = if B[k].v = [] then accB B k else push1 (accB B k) B[k] := by
  unfold accB
  rw [List.take_succ_eq_append_getElem h, List.filter_append, List.foldl_append]
  cases hv : B[k].v <;> simp [List.filter_cons, hv]
theorem push1_all {P : Bd → Prop} (hp : ∀ (b : Bd) (t : Int) , P b → ∀ c : Bd, P c → t = c.t → P ⟨b.f, t, b.v⟩) {out : List Bd} {s : Bd} (h : ∀ b ∈ out, P b) (hs : P s) : ∀ b ∈ push1 out s, P b := by
  intro b hb
  unfold push1 at hb
  split at hb
  · rename_i c hc
    split at hb
    · rcases List.mem_append.1 hb with h1 | h1
      · exact h b (List.dropLast_subset _ h1)
      · obtain rfl : b = _ := by simpa using h1
        exact hp c s.t (h c (List.mem_of_getLast? hc)) s hs rfl
    · rcases List.mem_append.1 hb with h1 | h1
      · exact h b h1
      · obtain rfl : b = _ := by simpa using h1
        exact hs
  · rcases List.mem_append.1 hb with h1 | h1
    · exact h b h1
    · obtain rfl : b = _ := by simpa using h1
      exact hs
theorem set_bd (L : List (Bd × Value)) (q : Bd × Value) (x : Int) : ((L ++ [q]).flatMap bdP).set (L.length * 3 + 1) (iC x) = (L ++ [((⟨q.1.f, x, q.1.v⟩ : Bd), q.2)]).flatMap bdP := by
  rw [List.flatMap_append, List.flatMap_append, List.set_append_right _ _ (by rw [flat_len bdP 3 bdP_len]; omega), flat_len bdP 3 bdP_len, Nat.add_sub_cancel_left]
  rfl
theorem own_ne_bk {w : World} {base : Nat} {e t : TypeId} {sz n g : Nat} {v : Value} {xs : List Value} {cs : Array Value} (h : w.ownsRow base e sz v n xs) (hb : Bk w g t cs) (hne : e ≠ t) : some g ≠ v.ownBlock := by
  rcases h.2 with ⟨rfl, _⟩ | ⟨g', cap, cur, rfl, _, hh, _⟩
  · simp [Value.ownBlock]
  · intro he
    have hg : g = g' := by simpa [Value.ownBlock] using he
    subst hg
    unfold Bk at hb
    rw [hh] at hb
    injection hb with hb
    injection hb with _ hb
    exact hne hb
theorem flat_le (B : List Bd) (n : Nat) (h : ∀ b ∈ B, b.v.length ≤ n) (k : Nat) : (flat (B.take k)).length ≤ k * n := by
  induction k with
  | zero => simp [flat]
  | succ k ih =>
    by_cases hk : k < B.length
    · rw [List.take_succ_eq_append_getElem hk, flat_snoc, List.length_append, Nat.succ_mul]
      have := h _ (List.getElem_mem hk)
      simp only [bdR, List.length_map]; omega
    · rw [List.take_of_length_le (by omega)] at ih ⊢
      rw [Nat.succ_mul]; omega
theorem infoB : (Tryz.prog.info? 129).map (fun i => (i.zero, i.size, i.bytes)) = some (some (.agg #[.int .i64 0, .int .i64 0, .slice none 0 0]), 3, 40) := by kernel_rfl
theorem infoR : (Tryz.prog.info? 64).map (fun i => (i.zero, i.size, i.bytes)) = some (some (.agg #[.int .i64 0, .int .i64 0, .int .i64 0, .int .i64 0]), 4, 32) := by kernel_rfl
/-- What rects hands back. -/
def RcP (w : World) (l : List R) (e : Ending) (w' : World) : Prop := ∃ v, e = .returned v ∧ w'.ownsRow w.heap.size 64 4 v l.length (l.flatMap rC) ∧ Below w.heap.size w w'

set_option maxRecDepth 100000 in
set_option maxHeartbeats 16000000 in
theorem rects_any (A : Option Addr) (c : Nat) (P : List (Bd × Value)) (w : World) (hn : P.length ≤ 1000000) (hv : ∀ p ∈ P, p.1.v.length ≤ 1000000) (hI : ∀ p ∈ P, InB p.1) (hA : Rds w w.heap.size 3 A P.length (P.flatMap bdP)) (hS : ∀ p ∈ P, SpR w p.2 p.1.v) :
    Calls Tryz.prog 93 #[.slice A P.length c] w (RcP w (rectsF (P.map (·.1)))) := by
  obtain ⟨iB, hiB, zB0, zB1, zB2⟩ := info_parts infoB
  obtain ⟨iR, hiR, zR0, zR1, zR2⟩ := info_parts infoR
  go_enter Tryz.func93, Tryz.ntmps93
  go_wp2_with fail
  go_loopg [3, 14] P.length (fun gd one i wr => ∃ (k : Nat) (Q : List (Bd × Value)), k + gd = P.length ∧ i = .int .i64 k ∧ Hid (Q.map (·.1) = accB (P.map (·.1)) k) ∧ Q.length ≤ k ∧ (∀ q ∈ Q, SpR w q.2 q.1.v ∧ InB q.1 ∧ q.1.v.length ≤ 1000000) ∧ wr.ownsRow w.heap.size 129 3 one Q.length (Q.flatMap bdP) ∧ Below w.heap.size w wr)
  case atStart => exact ⟨0, [], by omega, rfl, Lib.hid rfl, by simp, by simp, World.ownsRow_nil _ _ _ _, Below.refl _ _⟩
  case round =>
    obtain ⟨k, Q, hk, rfl, HQ, hQk, hQ, hown, hbr⟩ := hrel
    obtain ⟨OA, oc, rfl, hform⟩ := own_form hown
    have HQQ := Lib.hid hQ
    clear hQ
    by_cases hlt : k < P.length
    · obtain ⟨ad, rfl, hbl, c0, c1, c2⟩ := BdR.at_ (hA.be hbr) hlt
      have hSk := hS P[k] (List.getElem_mem hlt)
      have hIk := hI P[k] (List.getElem_mem hlt)
      have hvk := hv P[k] (List.getElem_mem hlt)
      have HS := Lib.hid (accB_succ (P.map (·.1)) k (by simpa using hlt))
      have hgk : (P.map (·.1))[k]'(by simpa using hlt) = P[k].1 := by simp
      rw [hgk] at HS
      clear hgk
      generalize P[k] = p at *
      obtain ⟨⟨pf, pt, pv⟩, v⟩ := p
      simp only at c0 c1 c2 hvk hSk HS
      obtain ⟨A', c', rfl, hSr⟩ := hSk
      have HI := Lib.hid hIk
      clear hIk
      have hbz := hbr.size
      by_cases hpv : pv = []
      · subst hpv
        go_wp2_with fail
        go_roundg (gk - 1)
        case measure => omega
        case rel => exact ⟨k + 1, Q, by omega, by go_num, Lib.hid (by rw [HQ.out, HS.out]; simp), by omega, HQQ.out, World.ownsRow.alloc hown _, bl_alloc hbr _⟩
      · have hpl : ((pv.length : Int) == 0) = false := by
          rw [beq_eq_false_iff_ne]; have := List.length_pos_iff.2 hpv; omega
        have HP := Lib.hid hpv
        clear hpv
        generalize hqn : Q.length = n at hown hQk hform ⊢
        have HN := Lib.hid hqn
        clear hqn
        rcases List.eq_nil_or_concat Q with h0 | ⟨L, q, h0⟩
        · have h00 := HN.out
          rw [h0] at h00
          obtain rfl : n = 0 := h00.symm
          have H0 := Lib.hid h0
          clear h0 h00
          go_wp2_with fail
          go_quiet (fail)
          go_wp2_with (at_builtin; go_must (refine wpList_app _ rfl (.tmp 20) (.tmp 22) _ rfl w.heap.size 129 iB _ 3 40 Tryz.underlying123 hiB zB0 zB1 zB2 rfl (by omega) (.slice OA 0 oc) (0) (Q.flatMap bdP) rfl (by with_reducible repeat (first | exact hown | apply World.ownsRow.alloc | apply World.ownsRow.drew | apply own_drN)) (wr.heap.size + 1 + 1) (some ⟨wr.heap.size + 1, 0, none⟩) 1 1 (bdP (⟨pf, pt, pv⟩, .slice A' pv.length c')) rfl (Rds.block (cs := #[iC pf, iC pt, .slice A' pv.length c']) (by with_reducible repeat (first | apply Bk.drN | apply Bk.dr | exact Bk.new' _ _ _ (by simp))) rfl (by omega)) (by intro u hu; simp [bdP] at hu; rcases hu with rfl | rfl | rfl <;> rfl) (by simp only [maxLen]; omega) (by omega) (by simp; omega) ?_); intro v2 w2 hown2 hg2 hat2)
          have hb2 : Below w.heap.size w w2 := Below.grown (by with_reducible repeat (first | exact hbr | apply bl_alloc | apply bl_drew | apply bl_drewN)) hg2 (by simp; omega) (fun g hg => (hown.lt g hg).1)
          go_roundg (gk - 1)
          case measure => omega
          case rel =>
            refine ⟨k + 1, [(⟨pf, pt, pv⟩, .slice A' pv.length c')], by omega, by go_num, Lib.hid ?_, by simp, ?_, ?_, hb2⟩
            · rw [HS.out, if_neg HP.out, ← HQ.out, H0.out]; rfl
            · intro x hx
              obtain rfl : x = _ := by simpa using hx
              exact ⟨⟨A', c', rfl, hSr⟩, HI.out, hvk⟩
            · rw [H0.out] at hown2
              exact hown2
        · rw [List.concat_eq_append] at h0
          have h00 := HN.out
          rw [h0, List.length_append, List.length_singleton] at h00
          obtain rfl : n = L.length + 1 := h00.symm
          have H0 := Lib.hid h0
          obtain ⟨g, rfl, hg1, hg2⟩ := hform (by omega)
          have ct : wr.cell? ⟨g, L.length * 3 + 1, none⟩ = some (iC q.1.t) := by
            rw [hown.cellAt (L.length * 3 + 1) (by omega), h0, flat_at bdP 3 bdP_len (L ++ [q]) L.length (by simp) 1 (by omega)]
            simp [bdP]
          have cv : wr.cell? ⟨g, L.length * 3 + 2, none⟩ = some q.2 := by
            rw [hown.cellAt (L.length * 3 + 2) (by omega), h0, flat_at bdP 3 bdP_len (L ++ [q]) L.length (by simp) 2 (by omega)]
            simp [bdP]
          have cf := hown.frozenAt (L.length * 3 + 1)
          have hq := HQQ.out q (by rw [h0]; simp)
          obtain ⟨⟨A2, c2', hqv, hqr⟩, hqI, hqn⟩ := hq
          rw [hqv] at cv
          have HV := Lib.hid hqv
          have HQI := Lib.hid hqI
          clear h0 h00 hqv hqI
          by_cases hbt : q.1.t = pf
          · have he : ((q.1.t : Int) == pf) = true := by simp [hbt]
            have HB := Lib.hid hbt
            clear hbt
            go_wp2_with fail
            have hz : ¬ (wr.heap.size = g) := by omega
            have hz' : ¬ (g = wr.heap.size) := by omega
            have b0 : (0 : Int) ≤ (L.length : Int) := by omega
            have b1 : (L.length : Int) < ((L.length + 1 : Nat) : Int) := by omega
            have b2 : (L.length : Int) < (L.length : Int) + 1 := by omega
            have hw1 : IntKind.i64.wrap (((L.length + 1 : Nat) : Int) - 1) = (L.length : Int) := by rw [i64_in (by omega) (by omega)]; omega
            have hw2 : IntKind.i64.wrap ((L.length : Int) + 1 - 1) = (L.length : Int) := by rw [i64_in (by omega) (by omega)]; omega
            have hw3 : IntKind.i64.wrap (L.length : Int) = (L.length : Int) := i64_in (by omega) (by omega)
            have hbW : Below w.heap.size w ((wr.alloc (.cells #[.int .i64 pf, .int .i64 pt, .slice A' pv.length c'] 129)).drew) := bl_drew (bl_alloc hbr _)
            have hq2 : Rds ((wr.alloc (.cells #[.int .i64 pf, .int .i64 pt, .slice A' pv.length c'] 129)).drew) ((wr.alloc (.cells #[.int .i64 pf, .int .i64 pt, .slice A' pv.length c'] 129)).drew).heap.size 2 A2 q.1.v.length (q.1.v.flatMap spC) := (hqr.be hbW).more hbW.size
            have hs2 : Rds ((wr.alloc (.cells #[.int .i64 pf, .int .i64 pt, .slice A' pv.length c'] 129)).drew) ((wr.alloc (.cells #[.int .i64 pf, .int .i64 pt, .slice A' pv.length c'] 129)).drew).heap.size 2 A' pv.length (pv.flatMap spC) := (hSr.be hbW).more hbW.size
            have own_W : ((wr.alloc (.cells #[.int .i64 pf, .int .i64 pt, .slice A' pv.length c'] 129)).drew).ownsRow w.heap.size 129 3 (.slice (some ⟨g, 0, none⟩) (L.length + 1) oc) (L.length + 1) (Q.flatMap bdP) := (World.ownsRow.alloc hown _).drew
            have Bx_W : Bk ((wr.alloc (.cells #[.int .i64 pf, .int .i64 pt, .slice A' pv.length c'] 129)).drew) wr.heap.size 129 #[.int .i64 pf, .int .i64 pt, .slice A' pv.length c'] := (Bk.new _ _ _).dr
            go_region_held3 (fun w' => w'.cell? ⟨g, L.length * 3 + 1, none⟩ = some (iC q.1.t) ∧ w'.cell? ⟨g, L.length * 3 + 2, none⟩ = some (.slice A2 q.1.v.length c2') ∧ w'.cell? ⟨wr.heap.size, 0, none⟩ = some (iC pf) ∧ w'.cell? ⟨wr.heap.size, 2, none⟩ = some (.slice A' pv.length c')) (go_keep)
              (((with_reducible refine (spEq_any A2 A' c2' c' q.1.v pv _ (by omega) (by omega) hq2 hs2).mono ?_); rintro e wn ⟨rfl, hbn⟩; have hbrn : Below w.heap.size w wn := bl_step hbW hbn; have own_n := own_be own_W hbn; have Bx := Bk.be Bx_W hbn; have x0 : wn.cell? ⟨wr.heap.size, 0, none⟩ = some (iC pf) := Bx.cell 0; have x1 : wn.cell? ⟨wr.heap.size, 1, none⟩ = some (iC pt) := Bx.cell 1; have x2 : wn.cell? ⟨wr.heap.size, 2, none⟩ = some (.slice A' pv.length c') := Bx.cell 2; have nt : wn.cell? ⟨g, L.length * 3 + 1, none⟩ = some (iC q.1.t) := (own_n.cellAt (L.length * 3 + 1) (by omega)).trans ((hown.cellAt (L.length * 3 + 1) (by omega)).symm.trans ct); have nv : wn.cell? ⟨g, L.length * 3 + 2, none⟩ = some (.slice A2 q.1.v.length c2') := (own_n.cellAt (L.length * 3 + 2) (by omega)).trans ((hown.cellAt (L.length * 3 + 2) (by omega)).symm.trans cv); have nf := own_n.frozenAt (L.length * 3 + 1); have hxz := Bx.lt))
            clear hw1 hw2 hw3 hz hz' hbn ct cv cf hown c0 c1 c2 hbW hq2 hs2 own_W Bx_W
            by_cases hvv : q.1.v = pv
            · have hd : decide (q.1.v = pv) = true := by simpa using hvv
              have HVV := Lib.hid hvv
              clear hvv
              go_wp2
              go_roundg (gk - 1)
              case measure => omega
              case rel =>
                refine ⟨k + 1, L ++ [((⟨q.1.f, pt, q.1.v⟩ : Bd), q.2)], by omega, by go_num, Lib.hid ?_, by simp; omega, ?_, ?_, bl_set hbrn (by show w.heap.size ≤ g; omega) _⟩
                · rw [HS.out, if_neg HP.out, ← HQ.out, H0.out]
                  simp only [List.map_append, List.map_cons, List.map_nil]
                  unfold push1
                  rw [List.getLast?_concat]
                  simp only [List.dropLast_concat]
                  rw [if_pos ⟨HB.out, HVV.out⟩]
                · intro x hx
                  rcases List.mem_append.1 hx with h1 | h1
                  · exact HQQ.out x (by rw [H0.out]; simp [h1])
                  · obtain rfl : x = _ := by simpa using h1
                    have h2 := HQI.out
                    have h3 := HI.out
                    exact ⟨⟨A2, c2', HV.out, hqr⟩, ⟨⟨h2.1.1, h2.1.2.1, h3.1.2.2⟩, h2.2⟩, hqn⟩
                · have s1 := (World.ownsRow.stored (w := wn) own_n (L.length * 3 + 1) (iC pt)).1
                  rw [H0.out, set_bd] at s1
                  rw [List.length_append, List.length_singleton]
                  exact s1
            · have hd : decide (q.1.v = pv) = false := by simpa using hvv
              have HNE : ¬ (q.1.t = pf ∧ q.1.v = pv) := fun h => hvv h.2
              have HNE' := Lib.hid HNE
              clear HNE
              go_wp2_with (at_builtin; go_must (refine wpList_app _ rfl (.tmp 20) (.tmp 22) _ rfl w.heap.size 129 iB _ 3 40 Tryz.underlying123 hiB zB0 zB1 zB2 rfl (by omega) (.slice (some ⟨g, 0, none⟩) (L.length + 1) oc) (L.length + 1) (Q.flatMap bdP) rfl (by with_reducible repeat (first | exact own_n | apply World.ownsRow.alloc | apply World.ownsRow.drew | apply own_drN)) (wn.heap.size + 1) (some ⟨wn.heap.size, 0, none⟩) 1 1 (bdP (⟨pf, pt, pv⟩, .slice A' pv.length c')) rfl (Rds.block (cs := #[iC pf, iC pt, .slice A' pv.length c']) (by with_reducible repeat (first | apply Bk.drN | apply Bk.dr | exact Bk.new' _ _ _ (by simp))) rfl (by omega)) (by intro u hu; simp [bdP] at hu; rcases hu with rfl | rfl | rfl <;> rfl) (by simp only [maxLen]; omega) (by omega) (by simp; omega) ?_); intro v2 w2 hown2 hg2 hat2)
              have hb2 : Below w.heap.size w w2 := Below.grown (by with_reducible repeat (first | exact hbrn | apply bl_alloc | apply bl_drew | apply bl_drewN)) hg2 (by simp; omega) (fun g hg => (own_n.lt g hg).1)
              have HNE := HNE'.out
              go_roundg (gk - 1)
              case measure => omega
              case rel =>
                refine ⟨k + 1, L ++ [q] ++ [(⟨pf, pt, pv⟩, .slice A' pv.length c')], by omega, by go_num, Lib.hid ?_, by simp; omega, ?_, ?_, hb2⟩
                · rw [HS.out, if_neg HP.out, ← HQ.out, H0.out]
                  simp only [List.map_append, List.map_cons, List.map_nil]
                  unfold push1
                  rw [List.getLast?_concat]
                  simp only
                  rw [if_neg HNE]
                · intro x hx
                  rcases List.mem_append.1 hx with h1 | h1
                  · exact HQQ.out x (by rw [H0.out]; exact h1)
                  · obtain rfl : x = _ := by simpa using h1
                    exact ⟨⟨A', c', rfl, hSr⟩, HI.out, hvk⟩
                · rw [H0.out] at hown2
                  rw [List.flatMap_append, List.length_append, List.length_append]
                  exact hown2
          · have he : ((q.1.t : Int) == pf) = false := by simpa using hbt
            have HB := Lib.hid hbt
            clear hbt
            go_wp2_with fail
            go_quiet (fail)
            go_wp2_with (at_builtin; go_must (refine wpList_app _ rfl (.tmp 20) (.tmp 22) _ rfl w.heap.size 129 iB _ 3 40 Tryz.underlying123 hiB zB0 zB1 zB2 rfl (by omega) (.slice (some ⟨g, 0, none⟩) (L.length + 1) oc) (L.length + 1) (Q.flatMap bdP) rfl (by with_reducible repeat (first | exact hown | apply World.ownsRow.alloc | apply World.ownsRow.drew | apply own_drN)) (wr.heap.size + 1 + 1) (some ⟨wr.heap.size + 1, 0, none⟩) 1 1 (bdP (⟨pf, pt, pv⟩, .slice A' pv.length c')) rfl (Rds.block (cs := #[iC pf, iC pt, .slice A' pv.length c']) (by with_reducible repeat (first | apply Bk.drN | apply Bk.dr | exact Bk.new' _ _ _ (by simp))) rfl (by omega)) (by intro u hu; simp [bdP] at hu; rcases hu with rfl | rfl | rfl <;> rfl) (by simp only [maxLen]; omega) (by omega) (by simp; omega) ?_); intro v2 w2 hown2 hg2 hat2)
            have hb2 : Below w.heap.size w w2 := Below.grown (by with_reducible repeat (first | exact hbr | apply bl_alloc | apply bl_drew | apply bl_drewN)) hg2 (by simp; omega) (fun g hg => (hown.lt g hg).1)
            have HNE : ¬ (q.1.t = pf ∧ q.1.v = pv) := fun h => HB.out h.1
            go_roundg (gk - 1)
            case measure => omega
            case rel =>
              refine ⟨k + 1, L ++ [q] ++ [(⟨pf, pt, pv⟩, .slice A' pv.length c')], by omega, by go_num, Lib.hid ?_, by simp; omega, ?_, ?_, hb2⟩
              · rw [HS.out, if_neg HP.out, ← HQ.out, H0.out]
                simp only [List.map_append, List.map_cons, List.map_nil]
                unfold push1
                rw [List.getLast?_concat]
                simp only
                rw [if_neg HNE]
              · intro x hx
                rcases List.mem_append.1 hx with h1 | h1
                · exact HQQ.out x (by rw [H0.out]; exact h1)
                · obtain rfl : x = _ := by simpa using h1
                  exact ⟨⟨A', c', rfl, hSr⟩, HI.out, hvk⟩
              · rw [H0.out] at hown2
                rw [List.flatMap_append, List.length_append, List.length_append]
                exact hown2
    · obtain rfl : k = P.length := by omega
      have hQr := Rds.own hown
      have hRes : rectsF (P.map (·.1)) = flat (Q.map (·.1)) := by rw [accB_all, HQ.out, List.length_map]
      have HRes := Lib.hid hRes
      have hzr := hbr.size
      have HB0 := hbr
      obtain ⟨wo, rfl⟩ : ∃ x : World, x = wr := ⟨_, rfl⟩
      clear hRes hown hform HQ hA hk
      go_wp2_with fail
      go_loopg [7, 64] Q.length (fun gd out i w1 => ∃ k : Nat, k + gd = Q.length ∧ i = .int .i64 k ∧ w1.ownsRow wo.heap.size 64 4 out (flat ((Q.map (·.1)).take k)).length ((flat ((Q.map (·.1)).take k)).flatMap rC) ∧ Below wo.heap.size wo w1)
      case atStart => exact ⟨0, by omega, rfl, World.ownsRow_nil _ _ _ _, Below.refl _ _⟩
      case round =>
        obtain ⟨j, hj, rfl, hown, hb1⟩ := hrel
        obtain ⟨gg, rfl⟩ : ∃ x, x = gk := ⟨gk, rfl⟩
        obtain ⟨w1, rfl⟩ : ∃ x : World, x = wr := ⟨_, rfl⟩
        by_cases hlj : j < Q.length
        · obtain ⟨ad, rfl, hbl, c0, c1, c2⟩ := BdR.at_ (hQr.be hb1) hlj
          obtain ⟨hSj, hIj, hvj⟩ := HQQ.out Q[j] (List.getElem_mem hlj)
          have hfl := flat_le (Q.map (·.1)) 1000000 (fun b hb => by
            obtain ⟨q, hq, rfl⟩ := List.mem_map.1 hb
            exact (HQQ.out q hq).2.2) j
          have HFS : Hid (flat ((Q.map (·.1)).take (j + 1)) = flat ((Q.map (·.1)).take j) ++ bdR Q[j].1) := by
            refine Lib.hid ?_
            rw [List.take_succ_eq_append_getElem (by simpa using hlj), flat_snoc]
            simp
          have hj6 : j ≤ 1000000 := by omega
          have hfl2 : (flat ((Q.map (·.1)).take j)).length ≤ 1000000000000 := Nat.le_trans hfl (Nat.le_trans (Nat.mul_le_mul_right 1000000 hj6) (by omega))
          clear hfl
          generalize Q[j] = p at *
          obtain ⟨⟨pf, pt, pv⟩, v⟩ := p
          simp only at c0 c1 c2 hvj hSj hIj HFS
          obtain ⟨A', c', rfl, hSr⟩ := hSj
          obtain ⟨⟨f1, f2, f3, f4⟩, hsp⟩ := hIj
          simp only at f1 f2 f3 f4 hsp
          have HSP := Lib.hid hsp
          clear hsp
          have hz1 := hb1.size
          generalize flat ((Q.map (·.1)).take j) = F at *
          have hSw := (hSr.be HB0).be (hb1.mono hzr)
          go_wp2_with fail
          go_loopg [7, 71] pv.length (fun gd out i w2 => ∃ m : Nat, m + gd = pv.length ∧ i = .int .i64 m ∧ w2.ownsRow wo.heap.size 64 4 out (F ++ (pv.take m).map (spR pf pt)).length ((F ++ (pv.take m).map (spR pf pt)).flatMap rC) ∧ Bk w2 w1.heap.size 129 #[iC pf, iC pt, .slice A' pv.length c'] ∧ Below wo.heap.size wo w2)
          case atStart => exact ⟨0, by omega, rfl, by simpa using World.ownsRow.alloc hown _, Bk.new _ _ _, bl_alloc hb1 _⟩
          case round =>
            obtain ⟨m, hm, rfl, hown2, Bx, hb2⟩ := hrel
            obtain ⟨w2, rfl⟩ : ∃ x : World, x = wr := ⟨_, rfl⟩
            by_cases hlm : m < pv.length
            · obtain ⟨sd, rfl, hsl, d0, d1⟩ := Rds.sp ((hSr.be HB0).be (hb2.mono hzr)) hlm
              obtain ⟨s1, s2, s3, s4⟩ := HSP.out pv[m] (List.getElem_mem hlm)
              have HT : Hid ((pv.take (m + 1)).map (spR pf pt) = (pv.take m).map (spR pf pt) ++ [spR pf pt pv[m]]) := by
                refine Lib.hid ?_
                rw [List.take_succ_eq_append_getElem hlm, List.map_append]; rfl
              generalize pv[m] = sp at *
              have x0 := Bx.cell 0
              have x1 := Bx.cell 1
              have xz := Bx.lt
              have hFl : (F ++ (pv.take m).map (spR pf pt)).length ≤ 1000001000000 := by
                have h1 : (pv.take m).length ≤ m := List.length_take_le _ _
                rw [List.length_append, List.length_map]; omega
              have hz2 := hb2.size
              go_wp2_with (at_builtin; go_must (refine wpList_app _ rfl (.tmp 75) (.tmp 91) _ rfl wo.heap.size 64 iR _ 4 32 Tryz.underlying25 hiR zR0 zR1 zR2 rfl (by omega) _ _ _ rfl ((hown2.alloc _).alloc _) (w2.heap.size + 1 + 1) (some ⟨w2.heap.size + 1, 0, none⟩) 1 1 (rC (spR pf pt sp)) rfl (Rds.block (cs := #[.int .i64 sp.f, .int .i64 pf, .int .i64 (sp.t - sp.f), .int .i64 (pt - pf)]) (Bk.new' _ _ _ (by simp)) rfl (by omega)) (by intro u hu; simp [rC] at hu; rcases hu with rfl | rfl | rfl | rfl <;> rfl) (by simp only [maxLen]; omega) (by omega) (by simp; omega) ?_); intro v3 w3 hown3 hg3 hat3)
              have hb3 : Below wo.heap.size wo w3 := Below.grown (bl_alloc (bl_alloc hb2 _) _) hg3 (by simp; omega) (fun g hg => (hown2.lt g hg).1)
              go_roundg (gk - 1)
              case measure => omega
              case rel =>
                refine ⟨m + 1, by omega, by go_num, ?_, ?_, hb3⟩
                · rw [HT.out, ← List.append_assoc, List.flatMap_append, List.length_append]
                  exact hown3
                · exact ((Bx.al _).al _).gr hg3 (own_ne_bk hown2 Bx (by decide))
            · obtain rfl : m = pv.length := by omega
              go_wp2_with fail
              go_roundg (gg - 1)
              case measure => omega
              case rel =>
                refine ⟨j + 1, by omega, by go_num, ?_, hb2⟩
                rw [HFS.out]
                rw [List.take_length] at hown2
                exact hown2
        · obtain rfl : j = Q.length := by omega
          go_wp2_with fail
          go_ret
          refine ⟨_, rfl, ?_, bl_step HB0 hb1⟩
          rw [HRes.out]
          rw [List.take_of_length_le (by simp)] at hown
          exact own_lower hown hzr
end Go.Proofs.YtjjdgbhplechbaaGreatDoor.Wk
/- What region.bands holds from rectangle to rectangle. -/
namespace Go.Proofs.YtjjdgbhplechbaaGreatDoor.Wk
open Go.RowKit Go.Proofs.YtjjdgbhplechbaaGreatDoor.Kit Go.Proofs.YtjjdgbhplechbaaGreatDoor.Reg Go.Proofs.YtjjdgbhplechbaaGreatDoor.Rect

theorem gb_set (w : World) (g j : Nat) (u : Value) : w.grownBy (w.setCell ⟨g, j, none⟩ u) (some g) :=
  ⟨rfl, rfl, rfl, by simp [World.setCell], fun i hi hne => Below.heap_setCell w ⟨g, j, none⟩ u i (fun h => hne (by rw [h]))⟩
theorem own_two {w : World} {b1 b2 : Nat} {e1 e2 : TypeId} {s1 s2 n1 n2 : Nat} {v1 v2 : Value} {x1 x2 : List Value} (h1 : w.ownsRow b1 e1 s1 v1 n1 x1) (h2 : w.ownsRow b2 e2 s2 v2 n2 x2) (hne : e1 ≠ e2) :
    v1.ownBlock = none ∨ v1.ownBlock ≠ v2.ownBlock := by
  rcases h1.2 with ⟨rfl, _⟩ | ⟨g, cap, cur, rfl, _, hh, _⟩
  · left; simp [Value.ownBlock]
  · right
    rcases h2.2 with ⟨rfl, _⟩ | ⟨g', cap', cur', rfl, _, hh', _⟩
    · simp [Value.ownBlock]
    · intro he
      have hg : g = g' := by simpa [Value.ownBlock] using he
      subst hg
      rw [hh] at hh'
      injection hh' with hh'
      injection hh' with _ hh'
      exact hne hh'
theorem own_block {w : World} {b : Nat} {e : TypeId} {s n : Nat} {v : Value} {x : List Value} (h : w.ownsRow b e s v n x) (hn : 0 < n) : ∃ g, v.ownBlock = some g ∧ b ≤ g ∧ g < w.heap.size := by
  obtain ⟨A, c, rfl, hf⟩ := own_form h
  obtain ⟨g, rfl, h1, h2⟩ := hf hn
  exact ⟨g, by simp [Value.ownBlock], h1, h2⟩

def BnI (w wr : World) (k : Nat) (l : List R) (P : List (Bd × Value)) (out : Value) : Prop :=
  bandAll [] (l.take k) = some (P.map (·.1)) ∧ P.length ≤ k ∧ wr.ownsRow w.heap.size 129 3 out P.length (P.flatMap bdP) ∧
  (∀ p ∈ P, wr.ownsRow w.heap.size 135 2 p.2 p.1.v.length (p.1.v.flatMap spC) ∧ p.1.v.length ≤ k ∧ 0 < p.1.v.length) ∧
  P.Pairwise (fun p q => p.2.ownBlock ≠ q.2.ownBlock) ∧ Below w.heap.size w wr
section
variable {w wr : World} {k : Nat} {l : List R} {P : List (Bd × Value)} {out : Value}
theorem BnI.start (w : World) (l : List R) : BnI w w 0 l [] (.slice none 0 0) := ⟨rfl, by simp, World.ownsRow_nil _ _ _ _, by simp, List.Pairwise.nil, Below.refl _ _⟩
theorem all_succ (hk : k < l.length) : bandAll [] (l.take (k + 1)) = (bandAll [] (l.take k)).bind fun o => bandStep o l[k] := by
  rw [List.take_succ_eq_append_getElem hk, band_app]
  cases bandAll [] (l.take k) with
  | none => rfl
  | some o =>
    simp only [Option.bind_some, bandAll]
    cases bandStep o l[k] <;> rfl
/-- where a step fails, it is no region -/
theorem BnI.fail (h : BnI w wr k l P out) (hk : k < l.length) (hs : bandStep (P.map (·.1)) l[k] = none) : bandsF l = none := by
  have e : bandAll [] l = none := by
    have h1 : l = l.take (k + 1) ++ l.drop (k + 1) := (List.take_append_drop _ _).symm
    rw [h1, band_app, all_succ hk, h.1, Option.bind_some, hs]; rfl
  unfold bandsF
  rw [e]; rfl
theorem BnI.push (h : BnI w wr k l P out) (hk : k < l.length) (hs : bandStep (P.map (·.1)) l[k] = some (P.map (·.1) ++ [rBd l[k]])) {W w2 : World} {v2 : Value} {gi : Nat}
    (hW : Below wr.heap.size wr W) (hi : W.ownsRow w.heap.size 135 2 (.slice (some ⟨gi, 0, none⟩) 1 1) 1 (spC (rSp l[k]))) (hgi : wr.heap.size ≤ gi)
    (ho : w2.ownsRow w.heap.size 129 3 v2 (P.length + 1) (P.flatMap bdP ++ bdP (rBd l[k], .slice (some ⟨gi, 0, none⟩) 1 1))) (hg : W.grownBy w2 out.ownBlock) :
    BnI w w2 (k + 1) l (P ++ [(rBd l[k], .slice (some ⟨gi, 0, none⟩) 1 1)]) v2 := by
  obtain ⟨h1, h2, h3, h4, h5, h6⟩ := h
  have h3W := own_be h3 hW
  refine ⟨by rw [all_succ hk, h1, Option.bind_some, hs]; simp, by simp; omega, by simpa [List.flatMap_append] using ho, fun p hp => ?_, ?_, ?_⟩
  · rcases List.mem_append.1 hp with hp | hp
    · obtain ⟨a, b, c⟩ := h4 p hp
      have aW := own_be a hW
      exact ⟨aW.kept hg (own_two aW h3W (by decide)), by omega, c⟩
    · obtain rfl : p = _ := by simpa using hp
      exact ⟨hi.kept hg (own_two hi h3W (by decide)), by simp [rBd], by simp [rBd]⟩
  · rw [List.pairwise_append]
    refine ⟨h5, List.pairwise_singleton _ _, fun p hp q hq => ?_⟩
    obtain rfl : q = _ := by simpa using hq
    obtain ⟨a, b, c⟩ := h4 p hp
    obtain ⟨g, hg1, _, hg2⟩ := own_block a c
    rw [hg1]
    simp only [Value.ownBlock, ne_eq]
    intro he
    simp at he
    omega
  · exact (h6.trans (hW.mono h6.size)).grown hg (by have := h6.size; have := hW.size; omega) (fun g hg' => (h3W.lt g hg').1)
theorem set_bd2 (L : List (Bd × Value)) (q : Bd × Value) (v : Value) (b : Bd) (h1 : b.f = q.1.f) (h2 : b.t = q.1.t) : ((L ++ [q]).flatMap bdP).set (L.length * 3 + 2) v = (L ++ [(b, v)]).flatMap bdP := by
  rw [List.flatMap_append, List.flatMap_append, List.set_append_right _ _ (by rw [flat_len bdP 3 bdP_len]; omega), flat_len bdP 3 bdP_len, Nat.add_sub_cancel_left]
  simp [bdP, h1, h2]
theorem BnI.ext {L : List (Bd × Value)} {q : Bd × Value} {g oc : Nat} (h : BnI w wr k l (L ++ [q]) (.slice (some ⟨g, 0, none⟩) (L.length + 1) oc)) (hk : k < l.length)
    (hs : bandStep ((L ++ [q]).map (·.1)) l[k] = some (L.map (·.1) ++ [⟨q.1.f, q.1.t, q.1.v ++ [rSp l[k]]⟩])) {W w3 : World} {v3 : Value}
    (hW : Below wr.heap.size wr W) (hi : w3.ownsRow w.heap.size 135 2 v3 (q.1.v.length + 1) (q.1.v.flatMap spC ++ spC (rSp l[k]))) (hg : W.grownBy w3 q.2.ownBlock) (hat : v3.ownBlock = q.2.ownBlock ∨ v3.ownBlock = some W.heap.size) :
    BnI w (w3.setCell ⟨g, L.length * 3 + 2, none⟩ v3) (k + 1) l (L ++ [((⟨q.1.f, q.1.t, q.1.v ++ [rSp l[k]]⟩ : Bd), v3)]) (.slice (some ⟨g, 0, none⟩) (L.length + 1) oc) := by
  obtain ⟨h1, h2, h3, h4, h5, h6⟩ := h
  rw [List.length_append, List.length_singleton] at h2 h3
  have h3W := own_be h3 hW
  obtain ⟨q1, q2, q3⟩ := h4 q (by simp)
  have q1W := own_be q1 hW
  have h33 := h3W.kept hg (own_two h3W q1W (by decide))
  have hgb := gb_set w3 g (L.length * 3 + 2) v3
  have hob : (Value.slice (some ⟨g, 0, none⟩) (L.length + 1) oc).ownBlock = some g := by simp [Value.ownBlock]
  obtain ⟨gq, hq1, hq2, hq3⟩ := own_block q1 q3
  rw [List.pairwise_append] at h5
  refine ⟨by rw [all_succ hk, h1, Option.bind_some, hs]; simp, by simp; omega, ?_, fun p hp => ?_, ?_, ?_⟩
  · have s1 := (World.ownsRow.stored (w := w3) h33 (L.length * 3 + 2) v3).1
    rw [set_bd2 L q v3 ⟨q.1.f, q.1.t, q.1.v ++ [rSp l[k]]⟩ rfl rfl] at s1
    rw [List.length_append, List.length_singleton]
    exact s1
  · rcases List.mem_append.1 hp with hp | hp
    · obtain ⟨a, b, c⟩ := h4 p (by simp [hp])
      have aW := own_be a hW
      have a3 := aW.kept hg (.inr (h5.2.2 p hp q (by simp)))
      exact ⟨a3.kept hgb (by rw [← hob]; exact own_two a3 h33 (by decide)), by omega, c⟩
    · obtain rfl : p = _ := by simpa using hp
      have h7 := hi.kept hgb (by rw [← hob]; exact own_two hi h33 (by decide))
      refine ⟨?_, by simp; omega, by simp⟩
      simpa [List.flatMap_append] using h7
  · rw [List.pairwise_append]
    refine ⟨h5.1, List.pairwise_singleton _ _, fun p hp r hr => ?_⟩
    obtain rfl : r = _ := by simpa using hr
    obtain ⟨a, b, c⟩ := h4 p (by simp [hp])
    obtain ⟨gp, hp1, _, hp2⟩ := own_block a c
    have h8 := h5.2.2 p hp q (by simp)
    rcases hat with hat | hat
    · show p.2.ownBlock ≠ v3.ownBlock
      rw [hat]; exact h8
    · show p.2.ownBlock ≠ v3.ownBlock
      rw [hat, hp1]
      intro he
      have : gp = W.heap.size := by simpa using he
      have := hW.size
      omega
  · have h9 : Below w.heap.size w w3 := (h6.trans (hW.mono h6.size)).grown hg (by have := h6.size; have := hW.size; omega) (fun g hg' => (q1W.lt g hg').1)
    exact h9.setCell (by show w.heap.size ≤ g; exact (h3.lt g hob).1) _
/-- what is known of the last band -/
theorem BnI.last {L : List (Bd × Value)} {q : Bd × Value} (h : BnI w wr k l (L ++ [q]) out) : ∃ g oc g2 c2 : Nat, out = .slice (some ⟨g, 0, none⟩) (L.length + 1) oc ∧ q.2 = .slice (some ⟨g2, 0, none⟩) q.1.v.length c2 ∧
    w.heap.size ≤ g ∧ g < wr.heap.size ∧ w.heap.size ≤ g2 ∧ g2 < wr.heap.size ∧ g ≠ g2 ∧ 0 < q.1.v.length ∧ q.1.v.length ≤ k ∧
    wr.cell? ⟨g, L.length * 3, none⟩ = some (iC q.1.f) ∧ wr.cell? ⟨g, L.length * 3 + 1, none⟩ = some (iC q.1.t) ∧ wr.cell? ⟨g, L.length * 3 + 2, none⟩ = some q.2 ∧
    wr.cell? ⟨g2, (q.1.v.length - 1) * 2 + 1, none⟩ = some (iC (lastT q.1.v)) ∧ (∀ j, wr.frozen? ⟨g, j, none⟩ = false) ∧ wr.ownsRow w.heap.size 135 2 q.2 q.1.v.length (q.1.v.flatMap spC) := by
  obtain ⟨h1, h2, h3, h4, h5, h6⟩ := h
  obtain ⟨q1, q2, q3⟩ := h4 q (by simp)
  have htw := own_two h3 q1 (by decide)
  rw [List.length_append, List.length_singleton] at h3
  have hq1 := q1
  obtain ⟨A, oc, rfl, hf⟩ := own_form h3
  obtain ⟨g, rfl, a1, a2⟩ := hf (by omega)
  obtain ⟨A2, c2, hv, hf2⟩ := own_form q1
  obtain ⟨g2, rfl, b1, b2⟩ := hf2 q3
  rw [hv] at q1 htw
  refine ⟨g, oc, g2, c2, rfl, hv, a1, a2, b1, b2, ?_, q3, q2, ?_, ?_, ?_, ?_, h3.frozenAt, hq1⟩
  · rcases htw with h | h
    · simp [Value.ownBlock] at h
    · simpa [Value.ownBlock] using h
  · rw [h3.cellAt (L.length * 3) (by omega), show L.length * 3 = L.length * 3 + 0 by omega, flat_at bdP 3 bdP_len (L ++ [q]) L.length (by simp) 0 (by omega)]; simp [bdP]
  · rw [h3.cellAt (L.length * 3 + 1) (by omega), flat_at bdP 3 bdP_len (L ++ [q]) L.length (by simp) 1 (by omega)]; simp [bdP]
  · rw [h3.cellAt (L.length * 3 + 2) (by omega), flat_at bdP 3 bdP_len (L ++ [q]) L.length (by simp) 2 (by omega)]; simp [bdP]
  · rw [q1.cellAt ((q.1.v.length - 1) * 2 + 1) (by omega), flat_at spC 2 spC_len q.1.v (q.1.v.length - 1) (by omega) 1 (by omega)]
    unfold lastT
    rw [List.getLast?_eq_getElem?, List.getElem?_eq_getElem (l := q.1.v) (by omega)]
    rfl
end
/-- What bands hands back. -/
def BnP (w : World) (l : List R) (e : Ending) (w' : World) : Prop :=
  match bandsF l with
  | none => e = .returned (.tuple #[.slice none 0 0, .bool false]) ∧ Below w.heap.size w w'
  | some B => ∃ A c P, e = .returned (.tuple #[.slice A P.length c, .bool true]) ∧ P.map (·.1) = B ∧ P.length ≤ l.length ∧ (∀ p ∈ P, p.1.v.length ≤ l.length) ∧ BdR w' A P ∧ Below w.heap.size w w'
theorem BnP.none_ {w w' : World} {l : List R} {e : Ending} (h : bandsF l = none) (he : e = .returned (.tuple #[.slice none 0 0, .bool false])) (hb : Below w.heap.size w w') : BnP w l e w' := by
  unfold BnP; rw [h]; exact ⟨he, hb⟩
/-- bands that touch, with the same spans -/
theorem adj_take (B : List Bd) : ∀ k, 0 < k → k < B.length → adjBad (B.take (k + 1)) = (adjBad (B.take k) || ((B.getD k ⟨0, 0, []⟩).f == (B.getD (k - 1) ⟨0, 0, []⟩).t && (B.getD k ⟨0, 0, []⟩).v == (B.getD (k - 1) ⟨0, 0, []⟩).v)) := by
  induction B with
  | nil => intro k _ h; simp at h
  | cons a B ih =>
    intro k h0 hk
    match B, k, h0 with
    | [], k + 1, _ => simp at hk
    | b :: B, 1, _ => simp [adjBad]
    | b :: B, k + 2, _ =>
      have := ih (k + 1) (by omega) (by simpa using hk)
      rw [List.take_succ_cons, List.take_succ_cons] at this ⊢
      rw [show adjBad (a :: b :: List.take (k + 1) B) = ((b.f == a.t && b.v == a.v) || adjBad (b :: List.take (k + 1) B)) from rfl]
      rw [this, show adjBad (List.take (k + 2) (a :: b :: B)) = ((b.f == a.t && b.v == a.v) || adjBad (b :: List.take k B)) from rfl, Bool.or_assoc]
      rfl
theorem adj_mono (B : List Bd) : ∀ k, adjBad (B.take k) = true → adjBad B = true := by
  induction B with
  | nil => intro k h; simp [adjBad] at h
  | cons a B ih =>
    intro k h
    match B, k with
    | [], k => cases k <;> simp [adjBad] at h
    | b :: B, 0 => simp [adjBad] at h
    | b :: B, 1 => simp [adjBad] at h
    | b :: B, k + 2 =>
      rw [List.take_succ_cons, List.take_succ_cons, show adjBad (a :: b :: List.take k B) = ((b.f == a.t && b.v == a.v) || adjBad (b :: List.take k B)) from rfl] at h
      rw [show adjBad (a :: b :: B) = ((b.f == a.t && b.v == a.v) || adjBad (b :: B)) from rfl, Bool.or_eq_true]
      rw [Bool.or_eq_true] at h
      exact h.imp id fun h => ih (k + 1) (by rw [List.take_succ_cons]; exact h)
end Go.Proofs.YtjjdgbhplechbaaGreatDoor.Wk
