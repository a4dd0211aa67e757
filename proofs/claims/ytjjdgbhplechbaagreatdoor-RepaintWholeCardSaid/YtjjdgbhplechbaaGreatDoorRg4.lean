/- The walk of region.both: its numbers. -/
import Derived.Test.YtjjdgbhplechbaaGreatDoorRg1
import Derived.Test.YtjjdgbhplechbaaGreatDoorRegMath
import Derived.Deep.LoopGhost
set_option linter.unusedVariables false
set_option linter.unusedSimpArgs false
namespace Go.Proofs.YtjjdgbhplechbaaGreatDoor.Wk
open Go.RowKit Go.Proofs.YtjjdgbhplechbaaGreatDoor.Kit Go.Proofs.YtjjdgbhplechbaaGreatDoor.Reg Go.Proofs.YtjjdgbhplechbaaGreatDoor.Rect

theorem set_sp (L : List Sp) (b : Sp) (x : Int) : ((L ++ [b]).flatMap spC).set (L.length * 2 + 1) (iC x) = (L ++ [(⟨b.f, x, ()⟩ : Sp)]).flatMap spC := by
  rw [List.flatMap_append, List.flatMap_append, List.set_append_right _ _ (by rw [flat_len spC 2 spC_len]; omega), flat_len spC 2 spC_len, Nat.add_sub_cancel_left]
  rfl
theorem add_nx (a : Addr) (j : Nat) : a.add (j + 1) = ⟨a.block, a.off + (j + 1), none⟩ := by simp [Addr.add]
theorem own_drN {w : World} {base : Nat} {e : TypeId} {sz : Nat} {v : Value} {n : Nat} {xs : List Value} (h : w.ownsRow base e sz v n xs) (k : Nat) : (w.drewN k).ownsRow base e sz v n xs := h
theorem gr_cell {w w' : World} {row : Option Nat} {B : Nat} {p : Addr} (hg : w.grownBy w' row) (hB : B ≤ w.heap.size) (hr : ∀ g, row = some g → B ≤ g) (hp : p.block < B) : w'.cell? p = w.cell? p := ((Below.refl B w).grown hg hB hr).cell hp
set_option maxRecDepth 100000 in
set_option maxHeartbeats 8000000 in
theorem both_any (op : Bool → Bool → Bool) (K : Nat) (hKc : ∀ (args : Array Value) (W : World), (callFunc K args).run Tryz.prog W = .ok (.enter K args) W) (hop : ∀ (a b : Bool) (W : World), Calls Tryz.prog K #[.bool a, .bool b] W fun e w' => e = .returned (.bool (op a b)) ∧ W = w')
    (A B : Option Addr) (c d : Nat) (la lb : List Sp) (w : World) (na : la.length ≤ 1000000000) (nb : lb.length ≤ 1000000000) (hA : Rds w w.heap.size 2 A la.length (la.flatMap spC)) (hB : Rds w w.heap.size 2 B lb.length (lb.flatMap spC)) :
    Calls Tryz.prog 91 #[.slice A la.length c, .slice B lb.length d, .func (.func K) #[] #[]] w (BoP w (bothF op la lb)) := by
  obtain ⟨iI, hiI, zI0, zI1, zI2⟩ := info_parts infoI
  obtain ⟨iS, hiS, zS0, zS1, zS2⟩ := info_parts infoS
  have i0 : ∀ W, (Instr.index 139 (.agg #[.slice A la.length c, .slice B lb.length d]) (.int .i64 0)).run Tryz.prog W = .ok (.slice A la.length c) W := fun _ => by kernel_rfl
  have i1 : ∀ W, (Instr.index 139 (.agg #[.slice A la.length c, .slice B lb.length d]) (.int .i64 1)).run Tryz.prog W = .ok (.slice B lb.length d) W := fun _ => by kernel_rfl
  go_enter Tryz.func91, Tryz.ntmps91
  go_wp2_with fail
  refine wp_loop_rounds 3 ?_
  rw [rounds_succ]
  go_wp2_with fail
  go_loopw [7, 23] (fun at_ i wr => ∃ k : Nat, k ≤ la.length ∧ i = .int .i64 k ∧ wr.ownsRow w.heap.size 3 1 at_ (ends (la.take k)).length ((ends (la.take k)).map iC) ∧ Below w.heap.size w wr) (fun _ i _ => la.length - (intOf i).toNat)
  case atStart => exact ⟨0, by omega, rfl, World.ownsRow_nil _ _ _ _, Below.refl _ _⟩
  case round =>
    obtain ⟨k, hk, rfl, hown, hbr⟩ := hrel
    by_cases hlt : k < la.length
    · obtain ⟨ad, rfl, hbl, c0, c1⟩ := Rds.sp (hA.be hbr) hlt
      have HT := Lib.hid (ends_take la k hlt)
      have hel := ends_len (la.take k)
      have htl : (la.take k).length ≤ k := List.length_take_le _ _
      have hle : (ends (la.take k)).length ≤ 4000000000 := by first | omega | (simp only [List.length_append]; omega)
      clear hel htl
      have hbz := hbr.size
      generalize hs : la[k] = s at *
      clear hs
      go_wp2_with (at_builtin; go_must (refine wpList_app _ rfl (.tmp 27) (.tmp 32) _ rfl w.heap.size 3 iI _ 1 8 Tryz.underlying96 hiI zI0 zI1 zI2 rfl (by omega) _ _ _ rfl ((hown.alloc _).alloc _) (wr.heap.size + 1 + 1) (some ⟨wr.heap.size + 1, 0, none⟩) 2 2 [iC s.f, iC s.t] rfl (Rds.block (cs := #[iC s.f, iC s.t]) (Bk.new' _ _ _ (by simp)) rfl (by omega)) (by intro u hu; simp at hu; rcases hu with rfl | rfl <;> rfl) (by simp only [maxLen]; omega) (by omega) (by simp; omega) ?_); intro v2 w2 hown2 hg2 hat2)
      go_roundw
      case rel =>
        refine ⟨k + 1, by omega, by go_num, ?_, (bl_alloc (bl_alloc hbr _) _).grown hg2 (by simp; omega) (fun g hg => (hown.lt g hg).1)⟩
        rw [HT.out]
        simpa [Nat.add_assoc] using hown2
      case measure => simp [intOf]; omega
    · obtain rfl : k = la.length := by omega
      rw [List.take_length] at hown
      go_wp2_with fail
      rw [rounds_succ]
      go_wp2_with fail
      go_loopw [7, 23] (fun at_ i wr => ∃ k : Nat, k ≤ lb.length ∧ i = .int .i64 k ∧ wr.ownsRow w.heap.size 3 1 at_ (ends la ++ ends (lb.take k)).length ((ends la ++ ends (lb.take k)).map iC) ∧ Below w.heap.size w wr) (fun _ i _ => lb.length - (intOf i).toNat)
      case atStart => exact ⟨0, by omega, rfl, by rw [show ends (lb.take 0) = [] from rfl, List.append_nil]; exact hown, hbr⟩
      case round =>
        obtain ⟨k, hk, rfl, hown, hbr⟩ := hrel
        by_cases hlt : k < lb.length
        · obtain ⟨ad, rfl, hbl, c0, c1⟩ := Rds.sp (hB.be hbr) hlt
          have HT := Lib.hid (ends_take lb k hlt)
          have hel := ends_len (lb.take k)
          have hel2 := ends_len la
          have htl : (lb.take k).length ≤ k := List.length_take_le _ _
          have hle : (ends la ++ ends (lb.take k)).length ≤ 4000000000 := by first | omega | (simp only [List.length_append]; omega)
          clear hel htl
          have hbz := hbr.size
          generalize hs : lb[k] = s at *
          clear hs
          go_wp2_with (at_builtin; go_must (refine wpList_app _ rfl (.tmp 27) (.tmp 32) _ rfl w.heap.size 3 iI _ 1 8 Tryz.underlying96 hiI zI0 zI1 zI2 rfl (by omega) _ _ _ rfl ((hown.alloc _).alloc _) (wr.heap.size + 1 + 1) (some ⟨wr.heap.size + 1, 0, none⟩) 2 2 [iC s.f, iC s.t] rfl (Rds.block (cs := #[iC s.f, iC s.t]) (Bk.new' _ _ _ (by simp)) rfl (by omega)) (by intro u hu; simp at hu; rcases hu with rfl | rfl <;> rfl) (by simp only [maxLen]; omega) (by omega) (by simp; omega) ?_); intro v2 w2 hown2 hg2 hat2)
          go_roundw
          case rel =>
            refine ⟨k + 1, by omega, by go_num, ?_, (bl_alloc (bl_alloc hbr _) _).grown hg2 (by simp; omega) (fun g hg => (hown.lt g hg).1)⟩
            rw [HT.out]
            simpa [Nat.add_assoc] using hown2
          case measure => simp [intOf]; omega
        · obtain rfl : k = lb.length := by omega
          rw [List.take_length] at hown
          go_wp2_with fail
          rw [rounds_succ]
          go_wp2_with fail
          have hzl : (ends la ++ ends lb).length ≤ 1000000000000 := by
            have h1 := ends_len la
            have h2 := ends_len lb
            simp only [List.length_append]; omega
          refine (edges_any w.heap.size _ (ends la ++ ends lb) wr hzl hown).mono ?_
          rintro e w2 hE
          obtain ⟨EA, ec, rfl, hE1, hE2⟩ := hE
          have hb2 : Below w.heap.size w w2 := hbr.grown hE2 hbr.size (fun g hg => (hown.lt g hg).1)
          have hel : (esort (ends la ++ ends lb)).length ≤ 1000000000000 := Nat.le_trans (esort_len _).1 hzl
          have hbo : bothF op la lb = accK (fun x => if op (spIn la x) (spIn lb x) then some () else none) (esort (ends la ++ ends lb)) (gaps (esort (ends la ++ ends lb))).length := (accK_all _ _).symm
          have hA2 := (hA.be hb2).more hb2.size
          have hB2 := (hB.be hb2).more hb2.size
          have hsz2 := hb2.size
          clear hown hE2 hzl hbr i0 i1
          generalize esort (ends la ++ ends lb) = es at *
          generalize hphi : (fun x => if op (spIn la x) (spIn lb x) then some () else none) = phi at hbo
          have HBO := Lib.hid hbo
          clear hbo
          have hphi' : ∀ x, phi x = if op (spIn la x) (spIn lb x) then some () else none := fun x => by rw [← hphi]
          have PH := Lib.hid hphi'
          clear hphi hphi'
          go_wp2_with fail
          go_loopg [12, 13] (gaps es).length (fun gd out i wr => ∃ k : Nat, k + gd = (gaps es).length ∧ i = .int .i64 k ∧ wr.ownsRow w2.heap.size 135 2 out (accK phi es k).length ((accK phi es k).flatMap spC) ∧ Below w2.heap.size w2 wr)
          case atStart => exact ⟨0, by omega, rfl, World.ownsRow_nil _ _ _ _, Below.refl _ _⟩
          case round =>
            obtain ⟨k, hk, rfl, hown, hbr⟩ := hrel
            obtain ⟨OA, oc, rfl, hform⟩ := own_form hown
            have hgl := gaps_len' es
            by_cases hlt : k < (gaps es).length
            · have hk1 : (k : Int) + 1 < (es.length : Int) := by omega
              have i0 : (0 : Int) ≤ (k : Int) := by omega
              have i1 : (k : Int) < (es.length : Int) := by omega
              obtain ⟨ad, rfl, hbl, hcell⟩ := (hE1.be hbr).2 (by omega)
              have c0 : wr.cell? (ad.add k) = some (iC (es[k]'(by omega))) := hcell k _ (by rw [List.getElem?_map, List.getElem?_eq_getElem (by omega)]; rfl)
              have c1 : wr.cell? ⟨ad.block, ad.off + (k + 1), none⟩ = some (iC (es[k + 1]'(by omega))) := by
                rw [← add_nx]
                exact hcell (k + 1) _ (by rw [List.getElem?_map, List.getElem?_eq_getElem (by omega)]; rfl)
              have hgk := gaps_get es k hlt
              have HS := Lib.hid (accK_succ phi es k hlt)
              have hal := accK_len phi es k (by omega)
              clear hcell
              generalize (gaps es)[k] = gk at *
              generalize es[k]'(by omega) = x0 at *
              generalize es[k + 1]'(by omega) = x1 at *
              subst hgk
              simp only at HS
              generalize accK phi es k = ac at *
              generalize hac1 : accK phi es (k + 1) = ac1 at HS
              have HC1 := Lib.hid hac1
              clear hac1
              generalize hn : ac.length = n at hown hal hform ⊢
              have HN := Lib.hid hn
              clear hn
              go_upto_region 18 with fail
              have hadb : (ad.add k).block < wr.heap.size := by rw [add_blk]; exact Nat.lt_of_lt_of_le hbl hbr.size
              have hAr : Rds wr.drew wr.drew.heap.size 2 A la.length (la.flatMap spC) := ((hA2.be hbr).more hbr.size).dr
              have hBr : Rds wr.drew wr.drew.heap.size 2 B lb.length (lb.flatMap spC) := ((hB2.be hbr).more hbr.size).dr
              have hbw : Below wr.heap.size wr wr.drew := bl_drew (Below.refl _ _)
              go_cut [60] (fun v60 wx => v60 = .bool (!(op (spIn la x0) (spIn lb x0))) ∧ Below wr.heap.size wr wx)
              case first =>
                clear hA hB hA2 hB2 hE1 hown hbr hb2 HS PH hform c1
                replace c0 : wr.drew.cell? (ad.add k) = some (iC x0) := c0
                go_region_held3 (fun w' => w'.cell? (ad.add k) = some (iC x0)) (first | (with_reducible exact c0) | go_keep)
                  (first
                    | ((with_reducible refine (hop _ _ _).mono ?_); rintro e wn ⟨rfl, rfl⟩)
                    | (((first | (with_reducible refine (among_any A c la x0 _ (by omega) hAr).mono ?_) | (with_reducible refine (among_any B d lb x0 _ (by omega) hBr).mono ?_)); rintro e wn ⟨rfl, hbn⟩; replace c0 := (hbn.cell (p := ad.add k) (Nat.lt_of_lt_of_le hadb hbw.size)).trans c0; replace hAr := (hAr.be hbn).more hbn.size; replace hBr := (hBr.be hbn).more hbn.size; replace hbw := bl_step hbw hbn)))
                all_goals (go_wp2; go_meet; exact ⟨rfl, hbw⟩)
              case rest =>
                obtain ⟨rfl, hbx⟩ := hcut
                replace c0 : wc.cell? (ad.add k) = some (iC x0) := (hbx.cell (p := ad.add k) hadb).trans c0
                have hadb1 : ad.block < wr.heap.size := Nat.lt_of_lt_of_le hbl hbr.size
                replace c1 : wc.cell? ⟨ad.block, ad.off + (k + 1), none⟩ = some (iC x1) := (hbx.cell (p := ⟨ad.block, ad.off + (k + 1), none⟩) hadb1).trans c1
                replace hown := own_be hown hbx
                have hbr' := hbr
                replace hbr : Below w2.heap.size w2 wc := bl_step hbr hbx
                have hbz := hbr.size
                clear hA hB hA2 hB2 hE1 hAr hBr hbw hbx hb2 hbr' hop hKc
                have HPx := Lib.hid (PH.out x0)
                clear PH
                cases hop' : op (spIn la x0) (spIn lb x0) with
                | false =>
                  have HO := Lib.hid hop'
                  clear hop'
                  go_wp2_with fail
                  go_roundg (gk - 1)
                  case measure => omega
                  case rel =>
                    refine ⟨k + 1, by omega, by go_num, ?_, hbr⟩
                    rw [HC1.out, HS.out, HPx.out, HO.out]
                    simpa [HN.out] using hown
                | true =>
                  have HO := Lib.hid hop'
                  clear hop'
                  rcases List.eq_nil_or_concat ac with h0 | ⟨L, b, h0⟩
                  · have h00 := HN.out
                    rw [h0] at h00
                    obtain rfl : n = 0 := h00.symm
                    have H0 := Lib.hid h0
                    clear h0 h00
                    go_wp2_with fail
                    go_quiet (fail)
                    go_wp2_with fail
                    have hw1 : IntKind.i64.wrap ((k : Int) + 1) = (k : Int) + 1 := i64_in (by omega) (by omega)
                    have hw2 : (0 : Int) ≤ (k : Int) + 1 := by omega
                    have hw3 : ((k : Int) + 1).toNat = k + 1 := by omega
                    go_region_held3 (fun w' => w'.cell? (ad.add k) = some (iC x0) ∧ w'.cell? ⟨ad.block, ad.off + (k + 1), none⟩ = some (iC x1)) (first | (with_reducible exact ⟨c0n, c1n⟩) | (with_reducible exact ⟨c0, c1⟩) | go_keep)
                      ((refine step_app _ (by rfl) (.tmp 47) (.tmp 58) _ (by rfl) w2.heap.size 135 iS _ 2 16 Tryz.underlying127 hiS zS0 zS1 zS2 rfl (by omega) (.slice OA 0 oc) 0 (ac.flatMap spC) (by rfl) (by with_reducible repeat (first | exact hown | apply World.ownsRow.alloc | apply World.ownsRow.drew | apply own_drN)) (wc.heap.size + 1) (some ⟨wc.heap.size, 0, none⟩) 1 1 [iC x0, iC x1] (by rfl) (Rds.block (cs := #[iC x0, iC x1]) (Bk.new' _ _ _ (by simp)) rfl (by omega)) (by intro u hu; simp at hu; rcases hu with rfl | rfl <;> rfl) (by simp only [maxLen]; omega) (by omega) (by simp; omega) ?_; intro v3 w3 hown3 hg3 hat3; have hr3 : ∀ g', (Value.slice OA 0 oc).ownBlock = some g' → w2.heap.size ≤ g' := (fun g' hg' => (hown.lt g' hg').1); have hb3 : Below w2.heap.size w2 w3 := Below.grown (by with_reducible repeat (first | exact hbr | apply bl_alloc | apply bl_drew | apply bl_drewN)) hg3 (by simp; omega) hr3; have c0n : w3.cell? (ad.add k) = some (iC x0) := (hb3.cell (p := ad.add k) (by rw [add_blk]; exact hbl)).trans ((hbr.cell (p := ad.add k) (by rw [add_blk]; exact hbl)).symm.trans c0); have c1n : w3.cell? ⟨ad.block, ad.off + (k + 1), none⟩ = some (iC x1) := (hb3.cell (p := ⟨ad.block, ad.off + (k + 1), none⟩) hbl).trans ((hbr.cell (p := ⟨ad.block, ad.off + (k + 1), none⟩) hbl).symm.trans c1)))
                    clear hw1 hw2 hw3
                    go_wp2
                    go_roundg (gk - 1)
                    case measure => omega
                    case rel =>
                      refine ⟨k + 1, by omega, by go_num, ?_, hb3⟩
                      rw [HC1.out, HS.out, HPx.out, HO.out, H0.out]
                      rw [H0.out] at hown3
                      exact hown3
                  · rw [List.concat_eq_append] at h0
                    have h00 := HN.out
                    rw [h0, List.length_append, List.length_singleton] at h00
                    obtain rfl : n = L.length + 1 := h00.symm
                    have H0 := Lib.hid h0
                    obtain ⟨g, rfl, hg1, hg2⟩ := hform (by omega)
                    have ct : wc.cell? ⟨g, L.length * 2 + 1, none⟩ = some (iC b.t) := by
                      rw [hown.cellAt (L.length * 2 + 1) (by omega), h0, flat_at spC 2 spC_len (L ++ [b]) L.length (by simp) 1 (by omega)]
                      simp [spC]
                    have cf := hown.frozenAt (L.length * 2 + 1)
                    clear h0 h00
                    by_cases hbt : b.t = x0
                    · have he : ((b.t : Int) == x0) = true := by simp [hbt]
                      have HB := Lib.hid hbt
                      clear hbt
                      go_wp2_with fail
                      go_quiet (fail)
                      go_wp2
                      go_roundg (gk - 1)
                      case measure => omega
                      case rel =>
                        refine ⟨k + 1, by omega, by go_num, ?_, (bl_drewN hbr _).setCell (by show w2.heap.size ≤ g; exact hg1) _⟩
                        have s1 := (World.ownsRow.stored (w := wc.drewN nq) hown (L.length * 2 + 1) (iC x1)).1
                        rw [H0.out, set_sp] at s1
                        rw [HC1.out, HS.out, HPx.out, HO.out, H0.out]
                        have e1 : push1 (L ++ [b]) (⟨x0, x1, ()⟩ : Sp) = L ++ [⟨b.f, x1, ()⟩] := by
                          unfold push1
                          rw [List.getLast?_concat]
                          simp only [List.dropLast_concat]
                          rw [if_pos ⟨HB.out, trivial⟩]
                        simp only [if_true, e1]
                        rw [List.length_append, List.length_singleton]
                        exact s1
                    · have he : ((b.t : Int) == x0) = false := by simpa using hbt
                      have HB := Lib.hid hbt
                      clear hbt
                      go_wp2_with fail
                      go_quiet (fail)
                      go_wp2_with fail
                      clear he ct cf
                      have hw1 : IntKind.i64.wrap ((k : Int) + 1) = (k : Int) + 1 := i64_in (by omega) (by omega)
                      have hw2 : (0 : Int) ≤ (k : Int) + 1 := by omega
                      have hw3 : ((k : Int) + 1).toNat = k + 1 := by omega
                      go_region_held3 (fun w' => w'.cell? (ad.add k) = some (iC x0) ∧ w'.cell? ⟨ad.block, ad.off + (k + 1), none⟩ = some (iC x1)) (first | (with_reducible exact ⟨c0n, c1n⟩) | (with_reducible exact ⟨c0, c1⟩) | go_keep)
                        ((refine step_app _ (by rfl) (.tmp 47) (.tmp 58) _ (by rfl) w2.heap.size 135 iS _ 2 16 Tryz.underlying127 hiS zS0 zS1 zS2 rfl (by omega) (.slice (some ⟨g, 0, none⟩) (L.length + 1) oc) (L.length + 1) (ac.flatMap spC) (by rfl) (by with_reducible repeat (first | exact hown | apply World.ownsRow.alloc | apply World.ownsRow.drew | apply own_drN)) (wc.heap.size + 1) (some ⟨wc.heap.size, 0, none⟩) 1 1 [iC x0, iC x1] (by rfl) (Rds.block (cs := #[iC x0, iC x1]) (Bk.new' _ _ _ (by simp)) rfl (by omega)) (by intro u hu; simp at hu; rcases hu with rfl | rfl <;> rfl) (by simp only [maxLen]; omega) (by omega) (by simp; omega) ?_; intro v3 w3 hown3 hg3 hat3; have hr3 : ∀ g', (Value.slice (some ⟨g, 0, none⟩) (L.length + 1) oc).ownBlock = some g' → w2.heap.size ≤ g' := (fun g' hg' => (hown.lt g' hg').1); have hb3 : Below w2.heap.size w2 w3 := Below.grown (by with_reducible repeat (first | exact hbr | apply bl_alloc | apply bl_drew | apply bl_drewN)) hg3 (by simp; omega) hr3; have c0n : w3.cell? (ad.add k) = some (iC x0) := (hb3.cell (p := ad.add k) (by rw [add_blk]; exact hbl)).trans ((hbr.cell (p := ad.add k) (by rw [add_blk]; exact hbl)).symm.trans c0); have c1n : w3.cell? ⟨ad.block, ad.off + (k + 1), none⟩ = some (iC x1) := (hb3.cell (p := ⟨ad.block, ad.off + (k + 1), none⟩) hbl).trans ((hbr.cell (p := ⟨ad.block, ad.off + (k + 1), none⟩) hbl).symm.trans c1)))
                      clear hw1 hw2 hw3
                      go_wp2
                      go_roundg (gk - 1)
                      case measure => omega
                      case rel =>
                        refine ⟨k + 1, by omega, by go_num, ?_, hb3⟩
                        rw [HC1.out, HS.out, HPx.out, HO.out, H0.out]
                        have e1 : push1 (L ++ [b]) (⟨x0, x1, ()⟩ : Sp) = (L ++ [b]) ++ [⟨x0, x1, ()⟩] := by
                          unfold push1
                          rw [List.getLast?_concat]
                          simp only
                          rw [if_neg fun h => HB.out h.1]
                        rw [H0.out] at hown3
                        simp only [if_true, e1]
                        rw [List.flatMap_append, List.length_append, List.length_append]
                        exact hown3
            · go_wp2_with fail
              go_ret
              obtain rfl : k = (gaps es).length := by omega
              exact ⟨_, rfl, by rw [HBO.out]; exact own_lower hown hsz2, bl_step hb2 (hbr.mono (Nat.le_refl _))⟩
end Go.Proofs.YtjjdgbhplechbaaGreatDoor.Wk
