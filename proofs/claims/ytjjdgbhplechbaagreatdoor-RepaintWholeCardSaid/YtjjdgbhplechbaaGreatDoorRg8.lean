/- The walk of region.bands. -/
import Derived.Test.YtjjdgbhplechbaaGreatDoorRg6
import Derived.Deep.RegionLaw
set_option linter.unusedVariables false
set_option linter.unusedSimpArgs false
namespace Go.Proofs.YtjjdgbhplechbaaGreatDoor.Wk
open Go.RowKit Go.Proofs.YtjjdgbhplechbaaGreatDoor.Kit Go.Proofs.YtjjdgbhplechbaaGreatDoor.Reg Go.Proofs.YtjjdgbhplechbaaGreatDoor.Rect
attribute [local go_sem high] eqS

theorem ownBlock_len (A : Option Addr) (n m c : Nat) : (Value.slice A n c).ownBlock = (Value.slice A m c).ownBlock := by cases A <;> rfl
theorem own_lit1 (w : World) (cs : Array Value) (e : TypeId) (sz g base : Nat) (hg : w.heap.size = g) (hb : base ≤ g) (hs : cs.size = sz) : (w.alloc (.cells cs e)).ownsRow base e sz (.slice (some ⟨g, 0, none⟩) 1 1) 1 cs.toList := by
  subst hg
  exact World.ownsRow_lit w cs 1 hb (by simp [maxLen]) (by rw [hs, Nat.one_mul])
theorem getD_map (P : List (Bd × Value)) (i : Nat) (h : i < P.length) : (P.map (·.1)).getD i ⟨0, 0, []⟩ = P[i].1 := by
  simp [List.getD_eq_getElem?_getD, List.getElem?_eq_getElem h]
theorem app_bel {w1 W w3 : World} {row : Option Nat} (h : Below w1.heap.size w1 W) (_ : W.grownBy w3 row) : Below w1.heap.size w1 W := h
theorem app_keep {w1 W w3 : World} {g g2 n cc : Nat} {t : TypeId} {cs : Array Value} (hg3 : W.grownBy w3 (Value.slice (some ⟨g2, 0, none⟩) n cc).ownBlock) (hb : Below w1.heap.size w1 W) (hB : Bk W w1.heap.size t cs)
    (hne : g ≠ g2) (hg : g < w1.heap.size) (hg2 : g2 < w1.heap.size) : (∀ j, w3.cell? ⟨g, j, none⟩ = w1.cell? ⟨g, j, none⟩) ∧ (∀ j, w3.frozen? ⟨g, j, none⟩ = w1.frozen? ⟨g, j, none⟩) ∧ Bk w3 w1.heap.size t cs :=
  ⟨fun j => (hg3.cell_far ⟨g, j, none⟩ (Nat.lt_of_lt_of_le hg hb.size) (by simpa [Value.ownBlock] using hne)).trans (hb.cell (p := ⟨g, j, none⟩) hg),
   fun j => (hg3.frozen_far ⟨g, j, none⟩ (Nat.lt_of_lt_of_le hg hb.size) (by simpa [Value.ownBlock] using hne)).trans (hb.frozen (p := ⟨g, j, none⟩) hg),
   (hg3.block _ hB.lt (by simp only [Value.ownBlock]; intro h; simp at h; omega)).trans hB⟩
theorem last_step {L : List (Bd × Value)} {q : Bd × Value} {r : R} (hc : rChk r = true) : bandStep ((L ++ [q]).map (·.1)) r =
    if q.1.f = r.y then (if q.1.t ≠ r.y + r.h ∨ r.x ≤ lastT q.1.v then none else some (L.map (·.1) ++ [⟨q.1.f, q.1.t, q.1.v ++ [rSp r]⟩]))
    else if r.y < q.1.t then none else some ((L ++ [q]).map (·.1) ++ [rBd r]) := by
  unfold bandStep
  rw [if_pos hc, List.map_append, List.map_singleton, List.getLast?_concat]
  simp only [List.dropLast_concat]
set_option maxRecDepth 100000 in
set_option maxHeartbeats 16000000 in
theorem bands_any (A : Option Addr) (c : Nat) (l : List R) (w : World) (hn : l.length ≤ 1000000) (h64 : ∀ r ∈ l, I64 r) (hA : Rds w w.heap.size 4 A l.length (l.flatMap rC)) :
    Calls Tryz.prog 89 #[.slice A l.length c] w (BnP w l) := by
  obtain ⟨iS, hiS, zS0, zS1, zS2⟩ := info_parts infoS
  obtain ⟨iB, hiB, zB0, zB1, zB2⟩ := info_parts infoB
  go_enter Tryz.func89, Tryz.ntmps89
  go_wp2_with fail
  go_loopg [4, 13] l.length (fun gd out i wr => ∃ (k : Nat) (P : List (Bd × Value)), k + gd = l.length ∧ i = .int .i64 k ∧ Hid (BnI w wr k l P out))
  case atStart => exact ⟨0, [], by omega, rfl, Lib.hid (BnI.start w l)⟩
  case round =>
    obtain ⟨k, P, hk, rfl, HI⟩ := hrel
    obtain ⟨OA, oc, rfl, hform⟩ := own_form HI.out.2.2.1
    have hbr := HI.out.2.2.2.2.2
    have hPk := HI.out.2.1
    by_cases hlt : k < l.length
    · obtain ⟨ad, rfl, hbl, c0, c1, c2, c3⟩ := Rds.rc (hA.be hbr) hlt
      have hr64 := h64 l[k] (List.getElem_mem hlt)
      have HF := Lib.hid (fun hs => HI.out.fail hlt hs)
      have HPU := Lib.hid (fun hs => @BnI.push w wr k l P _ HI.out hlt hs)
      generalize hrr : l[k] = r at *
      have HR := Lib.hid hrr
      clear hrr
      obtain ⟨x, y, a, b⟩ := r
      simp only at c0 c1 c2 c3
      go_wp2_with fail
      refine (Check_any _ _ _ _ _ hr64).mono ?_
      rintro e w1 ⟨rfl, hb1⟩
      have Br : Bk w1 wr.heap.size 64 #[iC x, iC y, iC a, iC b] := Bk.be (Bk.new _ _ _) hb1
      have hbw : Below wr.heap.size wr w1 := bl_step (bl_alloc (Below.refl _ _) _) hb1
      cases hch : rChk ⟨x, y, a, b⟩ with
      | false =>
        have HCH := Lib.hid hch
        clear hch
        go_wp2_with fail
        go_ret2
        exact BnP.none_ (HF.out (by unfold bandStep; rw [if_neg (by rw [HCH.out]; simp)])) rfl (bl_step hbr hbw)
      | true =>
        have hcc := chk_iff.1 hch
        unfold chkR at hcc
        simp only at hcc
        obtain ⟨k1, k2, k3, k4, k5, k6⟩ := hcc
        have HCH := Lib.hid hch
        clear hch hr64
        have x0 := Br.cell 0
        have x1 := Br.cell 1
        have x2 := Br.cell 2
        have x3 := Br.cell 3
        have xz := Br.lt
        have hz1 := hbw.size
        have hz0 := hbr.size
        generalize hqn : P.length = n at hPk hform ⊢
        have HN := Lib.hid hqn
        clear hqn c0 c1 c2 c3
        rcases List.eq_nil_or_concat P with h0 | ⟨L, q, h0⟩
        · have h00 := HN.out
          rw [h0] at h00
          obtain rfl : n = 0 := h00.symm
          have H0 := Lib.hid h0
          clear h0 h00
          have hown := HI.out.2.2.1
          rw [HN.out] at hown
          go_wp2_with fail
          go_quiet (fail)
          go_wp2_with fail
          go_quiet (fail)
          go_wp2_with (at_builtin; go_must (refine wpList_app _ rfl (.tmp 98) (.tmp 109) _ rfl w.heap.size 129 iB _ 3 40 Tryz.underlying123 hiB zB0 zB1 zB2 rfl (by omega) (.slice OA 0 oc) (0) (P.flatMap bdP) rfl (own_be hown (by with_reducible repeat (first | exact hbw | apply bl_alloc | apply bl_drew | apply bl_drewN))) (w1.heap.size + 1 + 1 + 1) (some ⟨w1.heap.size + 1 + 1, 0, none⟩) 1 1 [iC y, iC (y + b), .slice (some ⟨w1.heap.size + 1, 0, none⟩) 1 1] rfl (Rds.block (cs := #[iC y, iC (y + b), .slice (some ⟨w1.heap.size + 1, 0, none⟩) 1 1]) (by with_reducible repeat (first | apply Bk.drN | apply Bk.dr | exact Bk.new' _ _ _ (by simp))) rfl (by omega)) (by intro u hu; simp at hu; rcases hu with rfl | rfl | rfl <;> rfl) (by simp only [maxLen]; omega) (by omega) (by simp; omega) ?_); intro v2 w2 hown2 hg2 hat2)
          have hI2 : BnI w w2 (k + 1) l (P ++ [(rBd ⟨x, y, a, b⟩, .slice (some ⟨w1.heap.size + 1, 0, none⟩) 1 1)]) v2 := by
            refine HPU.out ?_ (gi := w1.heap.size + 1) ?_ ?_ ?_ ?_ (by rw [ownBlock_len OA P.length 0 oc]; exact hg2)
            · unfold bandStep; rw [if_pos HCH.out, H0.out]; rfl
            · with_reducible repeat (first | exact hbw | apply bl_alloc | apply bl_drew | apply bl_drewN)
            · repeat (first | (with_reducible apply own_drN) | (with_reducible apply World.ownsRow.drew) | (refine own_lit1 _ #[iC x, iC (x + a)] _ 2 _ _ (by simp) (by omega) rfl) | (with_reducible apply World.ownsRow.alloc))
            · omega
            · rw [HN.out]; exact hown2
          go_roundg (gk - 1)
          case measure => omega
          case rel => exact ⟨k + 1, _, by omega, by go_num, Lib.hid hI2⟩
        · rw [List.concat_eq_append] at h0
          have h00 := HN.out
          rw [h0, List.length_append, List.length_singleton] at h00
          obtain rfl : n = L.length + 1 := h00.symm
          have H0 := Lib.hid h0
          subst h0
          obtain ⟨g, oc', g2, cc2, hout, hqv, a1, a2, b1, b2, hgg, hq0, hqk, d0, d1, d2, d3, df, dq⟩ := HI.out.last
          have hobl : OA = some ⟨g, 0, none⟩ ∧ oc = oc' := by
            simpa using hout
          obtain ⟨rfl, rfl⟩ := hobl
          have HV := Lib.hid hqv
          rw [hqv] at d2
          have d0' : w1.cell? ⟨g, L.length * 3, none⟩ = some (iC q.1.f) := (hbw.cell (p := ⟨g, L.length * 3, none⟩) a2).trans d0
          have d1' : w1.cell? ⟨g, L.length * 3 + 1, none⟩ = some (iC q.1.t) := (hbw.cell (p := ⟨g, L.length * 3 + 1, none⟩) a2).trans d1
          have d2' : w1.cell? ⟨g, L.length * 3 + 2, none⟩ = some (.slice (some ⟨g2, 0, none⟩) q.1.v.length cc2) := (hbw.cell (p := ⟨g, L.length * 3 + 2, none⟩) a2).trans d2
          have d3' : w1.cell? ⟨g2, (q.1.v.length - 1) * 2 + 1, none⟩ = some (iC (lastT q.1.v)) := (hbw.cell (p := ⟨g2, (q.1.v.length - 1) * 2 + 1, none⟩) b2).trans d3
          have df' : w1.frozen? ⟨g, L.length * 3 + 2, none⟩ = false := (hbw.frozen (p := ⟨g, L.length * 3 + 2, none⟩) a2).trans (df _)
          have hown := HI.out.2.2.1
          rw [List.length_append, List.length_singleton] at hown
          clear hqv d0 d1 d2 d3 df hform hout
          have g0 : ¬ (g = w1.heap.size) := by omega
          have g1 : ¬ (w1.heap.size = g) := by omega
          have g3 : ¬ (g2 = w1.heap.size) := by omega
          have g4 : ¬ (w1.heap.size = g2) := by omega
          have g7 : g < w1.heap.size := by omega
          have g8 : g2 < w1.heap.size := by omega
          have b0 : (0 : Int) ≤ (L.length : Int) := by omega
          have b1 : (L.length : Int) < ((L.length + 1 : Nat) : Int) := by omega
          have b2 : (L.length : Int) < (L.length : Int) + 1 := by omega
          have hw1 : IntKind.i64.wrap (((L.length + 1 : Nat) : Int) - 1) = (L.length : Int) := by rw [i64_in (by omega) (by omega)]; omega
          have hw2 : IntKind.i64.wrap ((L.length : Int) + 1 - 1) = (L.length : Int) := by rw [i64_in (by omega) (by omega)]; omega
          have hw3 : IntKind.i64.wrap (L.length : Int) = (L.length : Int) := i64_in (by omega) (by omega)
          by_cases hf : q.1.f = y
          · have he : ((q.1.f : Int) == y) = true := by simp [hf]
            have HFq := Lib.hid hf
            clear hf
            by_cases ht : q.1.t = y + b
            · have hte : ((q.1.t : Int) != y + b) = false := by simp [ht]
              have HT := Lib.hid ht
              clear ht
              have hk1 := hqk
              have dq' := dq
              rw [HV.out] at dq'
              obtain ⟨m, hm⟩ : ∃ m, q.1.v.length = m + 1 := ⟨q.1.v.length - 1, by omega⟩
              rw [hm] at d2' d3' hk1 dq'
              simp only [Nat.add_sub_cancel] at d3'
              have e0 : (0 : Int) ≤ (m : Int) := by omega
              have e1 : (m : Int) < ((m + 1 : Nat) : Int) := by omega
              have e2 : (m : Int) < (m : Int) + 1 := by omega
              have hv1 : IntKind.i64.wrap (((m + 1 : Nat) : Int) - 1) = (m : Int) := by rw [i64_in (by omega) (by omega)]; omega
              have hv2 : IntKind.i64.wrap ((m : Int) + 1 - 1) = (m : Int) := by rw [i64_in (by omega) (by omega)]; omega
              have hv3 : IntKind.i64.wrap (m : Int) = (m : Int) := i64_in (by omega) (by omega)
              have HM := Lib.hid hm
              clear hm
              by_cases hx : x ≤ lastT q.1.v
              · have HX := Lib.hid hx
                have hxd : decide (x ≤ lastT q.1.v) = true := by simpa using hx
                go_wp2_with fail
                go_quiet (fail)
                go_wp2_with fail
                go_quiet (fail)
                go_wp2_with fail
                go_ret2
                refine BnP.none_ (HF.out ?_) rfl (by with_reducible repeat (first | exact bl_step hbr hbw | apply bl_alloc | apply bl_drew | apply bl_drewN))
                rw [last_step HCH.out, if_pos HFq.out, if_pos (.inr HX.out)]
              · have HX := Lib.hid hx
                have hxd : decide (x ≤ lastT q.1.v) = false := by simpa using hx
                clear hx
                go_wp2_with fail
                go_quiet (fail)
                go_wp2_with fail
                go_quiet (fail)
                go_wp2_with fail
                clear hv1 hv2 hv3 hw1 hw2 hw3 hxd hte he
                go_region_law
                  ((refine step_app _ (by rfl) (.tmp 79) (.tmp 81) _ (by rfl) w.heap.size 135 iS _ 2 16 Tryz.underlying127 hiS zS0 zS1 zS2 rfl (by omega) (.slice (some ⟨g2, 0, none⟩) (m + 1) cc2) (m + 1) (q.1.v.flatMap spC) (by rfl) (own_be dq' (by with_reducible repeat (first | exact hbw | apply bl_alloc | apply bl_drew | apply bl_drewN))) (w1.heap.size + 1 + 1) (some ⟨w1.heap.size + 1, 0, none⟩) 1 1 [iC x, iC (x + a)] (by rfl) (Rds.block (cs := #[iC x, iC (x + a)]) (by with_reducible repeat (first | apply Bk.drN | apply Bk.dr | exact Bk.new' _ _ _ (by simp))) rfl (by omega)) (by intro u hu; simp at hu; rcases hu with rfl | rfl <;> rfl) (by simp only [maxLen]; omega) (by omega) (by simp; omega) ?_; intro v3 w3 hown3 hg3 hat3; obtain ⟨A3, c3, rfl, _⟩ := own_form hown3; have hbW := app_bel (show Below w1.heap.size w1 _ from by with_reducible repeat (first | exact Below.refl _ _ | apply bl_alloc | apply bl_drew | apply bl_drewN)) hg3; obtain ⟨k1, k2, Bx⟩ := app_keep (g := g) (t := 135) (cs := #[iC x, iC (x + a)]) hg3 hbW (by with_reducible repeat (first | exact Bk.new _ _ _ | apply Bk.drN | apply Bk.dr | apply Bk.al)) hgg g7 g8; have nt : w3.cell? ⟨g, L.length * 3 + 2, none⟩ = some (.slice (some ⟨g2, 0, none⟩) (m + 1) cc2) := (k1 _).trans d2'; have nf : w3.frozen? ⟨g, L.length * 3 + 2, none⟩ = false := (k2 _).trans df'; have n0 : w3.cell? ⟨w1.heap.size, 0, none⟩ = some (iC x) := Bx.cell 0; have n1 : w3.cell? ⟨w1.heap.size, 1, none⟩ = some (iC (x + a)) := Bx.cell 1))
                all_goals
                  go_wp2
                  have hI3 := BnI.ext (L := L) (q := q) (g := g) (oc := oc) (by have h8 := HI.out; rw [List.length_append, List.length_singleton] at h8; exact h8) hlt (by rw [HR.out, last_step (L := L) (q := q) HCH.out, if_pos HFq.out, if_neg (by intro h; rcases h with h | h; exact h HT.out; exact absurd h (Int.not_le.2 HX.out))]) (hbw.trans (hbW.mono hbw.size)) (by rw [HR.out, HM.out]; exact hown3) (by rw [HV.out]; exact hg3) (by rw [HV.out]; exact hat3)
                  go_roundg (gk - 1)
                  case measure => omega
                  case rel => exact ⟨k + 1, _, by omega, by go_num, Lib.hid hI3⟩
            · have hte : ((q.1.t : Int) != y + b) = true := by simp [ht]
              have HT := Lib.hid ht
              clear ht
              go_wp2_with fail
              go_quiet (fail)
              go_wp2_with fail
              go_quiet (fail)
              go_wp2_with fail
              go_ret2
              refine BnP.none_ (HF.out ?_) rfl (by with_reducible repeat (first | exact bl_step hbr hbw | apply bl_alloc | apply bl_drew | apply bl_drewN))
              rw [last_step HCH.out, if_pos HFq.out, if_pos (.inl HT.out)]
          · have he : ((q.1.f : Int) == y) = false := by simpa using hf
            have HFq := Lib.hid hf
            clear hf
            by_cases ht : y < q.1.t
            · have HT := Lib.hid ht
              go_wp2_with fail
              go_quiet (fail)
              go_wp2_with fail
              go_quiet (fail)
              go_wp2_with fail
              go_ret2
              refine BnP.none_ (HF.out ?_) rfl (by with_reducible repeat (first | exact bl_step hbr hbw | apply bl_alloc | apply bl_drew | apply bl_drewN))
              rw [last_step HCH.out, if_neg HFq.out, if_pos HT.out]
            · have HT := Lib.hid ht
              have htd : decide (y < q.1.t) = false := by simpa using ht
              clear ht
              go_wp2_with fail
              go_quiet (fail)
              go_wp2_with fail
              go_quiet (fail)
              go_wp2_with (at_builtin; go_must (refine wpList_app _ rfl (.tmp 98) (.tmp 109) _ rfl w.heap.size 129 iB _ 3 40 Tryz.underlying123 hiB zB0 zB1 zB2 rfl (by omega) (.slice (some ⟨g, 0, none⟩) (L.length + 1) oc) (L.length + 1) ((L ++ [q]).flatMap bdP) rfl (own_be hown (by with_reducible repeat (first | exact hbw | apply bl_alloc | apply bl_drew | apply bl_drewN))) (w1.heap.size + 1 + 1 + 1) (some ⟨w1.heap.size + 1 + 1, 0, none⟩) 1 1 [iC y, iC (y + b), .slice (some ⟨w1.heap.size + 1, 0, none⟩) 1 1] rfl (Rds.block (cs := #[iC y, iC (y + b), .slice (some ⟨w1.heap.size + 1, 0, none⟩) 1 1]) (by with_reducible repeat (first | apply Bk.drN | apply Bk.dr | exact Bk.new' _ _ _ (by simp))) rfl (by omega)) (by intro u hu; simp at hu; rcases hu with rfl | rfl | rfl <;> rfl) (by simp only [maxLen]; omega) (by omega) (by simp; omega) ?_); intro v2 w2 hown2 hg2 hat2)
              have hI2 : BnI w w2 (k + 1) l (L ++ [q] ++ [(rBd ⟨x, y, a, b⟩, .slice (some ⟨w1.heap.size + 1, 0, none⟩) 1 1)]) v2 := by
                refine HPU.out ?_ (gi := w1.heap.size + 1) ?_ ?_ ?_ ?_ (by rw [ownBlock_len (some ⟨g, 0, none⟩) (L ++ [q]).length (L.length + 1) oc]; exact hg2)
                · rw [last_step HCH.out, if_neg HFq.out, if_neg (show ¬ (y < q.1.t) from by have := HT.out; omega)]
                · with_reducible repeat (first | exact hbw | apply bl_alloc | apply bl_drew | apply bl_drewN)
                · repeat (first | (with_reducible apply own_drN) | (with_reducible apply World.ownsRow.drew) | (refine own_lit1 _ #[iC x, iC (x + a)] _ 2 _ _ (by simp) (by omega) rfl) | (with_reducible apply World.ownsRow.alloc))
                · omega
                · rw [List.length_append, List.length_singleton]; exact hown2
              go_roundg (gk - 1)
              case measure => omega
              case rel => exact ⟨k + 1, _, by omega, by go_num, Lib.hid hI2⟩
    · obtain rfl : k = l.length := by omega
      have hall : bandAll [] l = some (P.map (·.1)) := by have := HI.out.1; rwa [List.take_length] at this
      have hBd : BdR wr OA P := ⟨Rds.own HI.out.2.2.1, fun p hp => SpR.own (HI.out.2.2.2.1 p hp).1⟩
      have hlen : ∀ p ∈ P, p.1.v.length ≤ l.length := fun p hp => (HI.out.2.2.2.1 p hp).2.1
      have hPl : P.length ≤ l.length := hPk
      obtain ⟨w1, rfl⟩ : ∃ x : World, x = wr := ⟨_, rfl⟩
      obtain ⟨gg, rfl⟩ : ∃ x, x = gk := ⟨gk, rfl⟩
      have HA := Lib.hid hall
      clear hall hform HI h64 hA hPk
      go_wp2_with fail
      go_loopg [10] P.length (fun gd i wr => ∃ m : Nat, m + gd = P.length ∧ i = .int .i64 ((m : Int) + 1) ∧ adjBad ((P.map (·.1)).take (m + 1)) = false ∧ BdR wr OA P ∧ Below w.heap.size w wr)
      case atStart => exact ⟨0, by omega, by go_num, (by cases P with | nil => rfl | cons a r => rfl), hBd, hbr⟩
      case round =>
        obtain ⟨m, hm, rfl, had, hB, hb⟩ := hrel
        by_cases hlt : m + 1 < P.length
        · obtain ⟨ad, rfl, hbl, p0, p1, p2⟩ := BdR.at_ hB.1 hlt
          obtain ⟨ad', hae, hbl', q0, q1, q2⟩ := BdR.at_ hB.1 (i := m) (by omega)
          obtain rfl : ad' = ad := by simpa using hae.symm
          obtain ⟨A1, c1, hp2, hR1⟩ := hB.2 P[m + 1] (List.getElem_mem _)
          obtain ⟨A2, c2, hq2, hR2⟩ := hB.2 P[m] (List.getElem_mem _)
          have hn1 := hlen P[m + 1] (List.getElem_mem _)
          have hn2 := hlen P[m] (List.getElem_mem _)
          rw [hp2] at p2
          rw [hq2] at q2
          have hst : adjBad ((P.map (·.1)).take (m + 1 + 1)) = (P[m + 1].1.f == P[m].1.t && P[m + 1].1.v == P[m].1.v) := by
            rw [adj_take _ (m + 1) (by omega) (by simpa using hlt), had, Bool.false_or, getD_map P (m + 1) hlt]; rw [Nat.add_sub_cancel, getD_map P m (by omega)]
          have HS := Lib.hid hst
          have HAD := Lib.hid had
          clear hst hq2 hp2 had hae
          generalize P[m + 1] = p at *
          generalize P[m] = q at *
          have b0 : (0 : Int) ≤ (m : Int) := by omega
          have b1 : (m : Int) < (P.length : Int) := by omega
          have b3 : (0 : Int) ≤ (m : Int) + 1 := by omega
          have b4 : (m : Int) + 1 < (P.length : Int) := by omega
          have hw1 : IntKind.i64.wrap ((m : Int) + 1 - 1) = (m : Int) := by rw [i64_in (by omega) (by omega)]; omega
          have hw2 : IntKind.i64.wrap (m : Int) = (m : Int) := i64_in (by omega) (by omega)
          have hw3 : ((m : Int) + 1).toNat = m + 1 := by omega
          have hw4 : IntKind.i64.wrap ((m : Int) + 1) = (m : Int) + 1 := i64_in (by omega) (by omega)
          by_cases hf : p.1.f = q.1.t
          · have hfe : ((p.1.f : Int) == q.1.t) = true := by simpa using hf
            have HFq := Lib.hid hf
            clear hf
            go_wp2_with fail
            have hR1d : Rds wr.drew wr.drew.heap.size 2 A1 p.1.v.length (p.1.v.flatMap spC) := hR1
            have hR2d : Rds wr.drew wr.drew.heap.size 2 A2 q.1.v.length (q.1.v.flatMap spC) := hR2
            go_region_held3 (fun w' => w'.cell? (ad'.add ((m + 1) * 3)) = some (iC p.1.f) ∧ w'.cell? ⟨(ad'.add ((m + 1) * 3)).block, (ad'.add ((m + 1) * 3)).off + 2, none⟩ = some (.slice A1 p.1.v.length c1) ∧ w'.cell? ⟨(ad'.add (m * 3)).block, (ad'.add (m * 3)).off + 1, none⟩ = some (iC q.1.t) ∧ w'.cell? ⟨(ad'.add (m * 3)).block, (ad'.add (m * 3)).off + 2, none⟩ = some (.slice A2 q.1.v.length c2)) (first | (with_reducible exact ⟨n0, n1, n2, n3⟩) | go_keep)
              (((with_reducible refine (spEq_any A1 A2 c1 c2 p.1.v q.1.v wr.drew (by omega) (by omega) hR1d hR2d).mono ?_); rintro e wn ⟨rfl, hbn⟩; have hbN : Below wr.heap.size wr wn := bl_step (bl_drew (Below.refl _ _)) hbn; have n0 := (hbn.cell (p := ad'.add ((m + 1) * 3)) (by rw [add_blk]; exact hbl)).trans p0; have n1 := (hbn.cell (p := ⟨(ad'.add ((m + 1) * 3)).block, (ad'.add ((m + 1) * 3)).off + 2, none⟩) (by show (ad'.add ((m + 1) * 3)).block < _; rw [add_blk]; exact hbl)).trans p2; have n2 := (hbn.cell (p := ⟨(ad'.add (m * 3)).block, (ad'.add (m * 3)).off + 1, none⟩) (by show (ad'.add (m * 3)).block < _; rw [add_blk]; exact hbl)).trans q1; have n3 := (hbn.cell (p := ⟨(ad'.add (m * 3)).block, (ad'.add (m * 3)).off + 2, none⟩) (by show (ad'.add (m * 3)).block < _; rw [add_blk]; exact hbl)).trans q2))
            by_cases hvv : p.1.v = q.1.v
            · have hvd : decide (p.1.v = q.1.v) = true := by simpa using hvv
              have HVV := Lib.hid hvv
              clear hvv
              go_wp2_with fail
              go_ret2
              refine BnP.none_ ?_ rfl (bl_step hb hbN)
              unfold bandsF
              rw [HA.out, Option.bind_some, if_pos (adj_mono _ (m + 1 + 1) (by rw [HS.out, HFq.out, HVV.out]; simp))]
            · have hvd : decide (p.1.v = q.1.v) = false := by simpa using hvv
              have HVV := Lib.hid hvv
              clear hvv
              go_wp2_with fail
              go_roundg (gk - 1)
              case measure => omega
              case rel =>
                refine ⟨m + 1, by omega, by go_num, ?_, hB.be hbN, bl_step hb hbN⟩
                rw [HS.out]; simp [HVV.out]
          · have hfe : ((p.1.f : Int) == q.1.t) = false := by simpa using hf
            have HFq := Lib.hid hf
            clear hf
            go_wp2_with fail
            go_quiet (fail)
            go_wp2_with fail
            go_roundg (gk - 1)
            case measure => omega
            case rel =>
              refine ⟨m + 1, by omega, by go_num, ?_, hB.be (bl_drewN (Below.refl _ _) _), bl_drewN hb _⟩
              rw [HS.out]; simp [HFq.out]
        · have had2 : adjBad (P.map (·.1)) = false := by
            rw [List.take_of_length_le (by simp; omega)] at had
            exact had
          have hd : ¬ ((m : Int) + 1 < (P.length : Int)) := by omega
          go_wp2_with fail
          go_ret2
          unfold BnP bandsF
          rw [HA.out, Option.bind_some, if_neg (by simp [had2])]
          exact ⟨_, _, P, rfl, rfl, hPl, hlen, hB, hb⟩
end Go.Proofs.YtjjdgbhplechbaaGreatDoor.Wk
