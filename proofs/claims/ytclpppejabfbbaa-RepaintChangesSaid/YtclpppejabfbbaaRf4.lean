/- The reference's row. -/
import Derived.Test.YtclpppejabfbbaaRf1
import Derived.Deep.RegionLaw
set_option linter.unusedVariables false
set_option linter.unusedSimpArgs false
namespace Go.Proofs.Ytclpppejabfbbaa.Wk
open Go.RowKit Go.Proofs.Ytclpppejabfbbaa.Kit Go.Proofs.Ytclpppejabfbbaa.Reg Go.Proofs.Ytclpppejabfbbaa.Rect

theorem gaps_in : ∀ (es : List Int) (p : Int × Int), p ∈ gaps es → p.1 ∈ es ∧ p.2 ∈ es
  | [], p, h => by simp [gaps] at h
  | [_], p, h => by simp [gaps] at h
  | a :: b :: r, p, h => by
    rw [gaps] at h
    rcases List.mem_cons.1 h with rfl | h
    · simp
    · have := gaps_in (b :: r) p h
      exact ⟨List.mem_cons_of_mem _ this.1, List.mem_cons_of_mem _ this.2⟩
theorem acc_in {α : Type} [DecidableEq α] (g : Int → Option α) (es : List Int) (k : Nat) : ∀ s ∈ accK g es k, s.f ∈ es ∧ s.t ∈ es := by
  refine foldl_in (P := fun x => x ∈ es) (Q := fun x => x ∈ es) _ [] ?_ (by simp)
  intro s hs
  obtain ⟨p, hp, he⟩ := List.mem_filterMap.1 hs
  obtain ⟨v, hv, rfl⟩ := Option.map_eq_some_iff.1 he
  exact gaps_in es p (List.mem_of_mem_take hp)
theorem set_r (L : List Sp) (b : Sp) (y y1 x : Int) : (((L ++ [b]).map (spR y y1)).flatMap rC).set (L.length * 4 + 2) (iC (x - b.f)) = ((L ++ [(⟨b.f, x, ()⟩ : Sp)]).map (spR y y1)).flatMap rC := by
  rw [List.map_append, List.map_append, List.flatMap_append, List.flatMap_append, List.set_append_right _ _ (by rw [flat_len rC 4 rC_len, List.length_map]; omega), flat_len rC 4 rC_len, List.length_map, Nat.add_sub_cancel_left]
  rfl
set_option maxRecDepth 100000 in
set_option maxHeartbeats 8000000 in
theorem rfRow_any (A B XA : Option Addr) (c d xc : Nat) (la lb : List R) (xs : List Int) (y y1 o : Int) (w : World) (na : la.length ≤ 1000000) (nb : lb.length ≤ 1000000) (h64a : ∀ r ∈ la, I64 r) (h64b : ∀ r ∈ lb, I64 r) (nx : xs.length ≤ 1000000000)
    (hxs : ∀ x ∈ xs, -8589934592 ≤ x ∧ x ≤ 8589934592) (hy0 : -8589934592 ≤ y ∧ y ≤ 8589934592) (hy1 : -8589934592 ≤ y1 ∧ y1 ≤ 8589934592)
    (hA : Rds w w.heap.size 4 A la.length (la.flatMap rC)) (hB : Rds w w.heap.size 4 B lb.length (lb.flatMap rC)) (hX : Rds w w.heap.size 1 XA xs.length (xs.map iC)) :
    Calls Try.prog 84 #[.slice A la.length c, .slice B lb.length d, .slice XA xs.length xc, .int .i64 y, .int .i64 y1, .int .i64 o] w (RcP w ((rowSp (opN o) la lb xs y).map (spR y y1))) := by
  obtain ⟨iR, hiR, zR0, zR1, zR2⟩ := info_parts infoR
  have hwe : IntKind.i64.wrap (y1 - y) = y1 - y := i64_in (by omega) (by omega)
  have hro : rowSp (opN o) la lb xs y = accK (fun x => if opN o (hasL la x y) (hasL lb x y) then some () else none) xs (gaps xs).length := (accK_all _ _).symm
  have HIN := Lib.hid (fun (x : Int) (h : -8589934592 ≤ x ∧ x ≤ 8589934592) (W : World) (hW : Below w.heap.size w W) => rfIn_any A B c d la lb x y o W na nb h64a h64b ((hA.be hW).more hW.size) ((hB.be hW).more hW.size) (by omega) (by omega))
  generalize hphi : (fun x => if opN o (hasL la x y) (hasL lb x y) then some () else none) = phi at hro
  have hphi' : ∀ x, phi x = if opN o (hasL la x y) (hasL lb x y) then some () else none := fun x => by rw [← hphi]
  have PH := Lib.hid hphi'
  have HRO := Lib.hid hro
  have HXS := Lib.hid hxs
  clear hphi hphi' hro hA hB h64a h64b hxs
  go_enter Try.func84, Try.ntmps84
  go_wp2_with fail
  go_loopg [13, 14] (gaps xs).length (fun gd out i wr => ∃ k : Nat, k + gd = (gaps xs).length ∧ i = .int .i64 k ∧ wr.ownsRow w.heap.size 26 4 out (accK phi xs k).length (((accK phi xs k).map (spR y y1)).flatMap rC) ∧ Below w.heap.size w wr)
  case atStart => exact ⟨0, by omega, rfl, World.ownsRow_nil _ _ _ _, Below.refl _ _⟩
  case round =>
    obtain ⟨k, hk, rfl, hown, hbr⟩ := hrel
    obtain ⟨OA, oc, rfl, hform⟩ := own_form hown
    have hgl := gaps_len' xs
    by_cases hlt : k < (gaps xs).length
    · have hk1 : (k : Int) + 1 < (xs.length : Int) := by omega
      have i0 : (0 : Int) ≤ (k : Int) := by omega
      have i1 : (k : Int) < (xs.length : Int) := by omega
      have hw1 : IntKind.i64.wrap ((k : Int) + 1) = (k : Int) + 1 := i64_in (by omega) (by omega)
      have hw2 : (0 : Int) ≤ (k : Int) + 1 := by omega
      have hw3 : ((k : Int) + 1).toNat = k + 1 := by omega
      obtain ⟨ad, rfl, hbl, hcell⟩ := (hX.be hbr).2 (by omega)
      have c0 : wr.cell? (ad.add k) = some (iC (xs[k]'(by omega))) := hcell k _ (by rw [List.getElem?_map, List.getElem?_eq_getElem (by omega)]; rfl)
      have c1 : wr.cell? ⟨ad.block, ad.off + (k + 1), none⟩ = some (iC (xs[k + 1]'(by omega))) := by
        rw [← add_nx]
        exact hcell (k + 1) _ (by rw [List.getElem?_map, List.getElem?_eq_getElem (by omega)]; rfl)
      have hgk := gaps_get xs k hlt
      have HS := Lib.hid (accK_succ phi xs k hlt)
      have hal := accK_len phi xs k (by omega)
      have hin := acc_in phi xs k
      have hx0 := HXS.out (xs[k]'(by omega)) (List.getElem_mem _)
      have hx1 := HXS.out (xs[k + 1]'(by omega)) (List.getElem_mem _)
      clear hcell
      generalize (gaps xs)[k] = gp at *
      generalize xs[k]'(by omega) = x0 at *
      generalize xs[k + 1]'(by omega) = x1 at *
      subst hgk
      simp only at HS
      generalize accK phi xs k = ac at *
      generalize hac1 : accK phi xs (k + 1) = ac1 at HS
      have HC1 := Lib.hid hac1
      clear hac1
      have HIA := Lib.hid (fun s hs => (⟨HXS.out _ (hin s hs).1, HXS.out _ (hin s hs).2⟩ : _ ∧ _))
      clear hin
      generalize hn : ac.length = n at hown hal hform ⊢
      have HN := Lib.hid hn
      clear hn
      have hwd : IntKind.i64.wrap (x1 - x0) = x1 - x0 := i64_in (by omega) (by omega)
      have HC := Lib.hid (HIN.out x0 hx0 wr hbr)
      have hadb1 : ad.block < wr.heap.size := Nat.lt_of_lt_of_le hbl hbr.size
      have hadb : (ad.add k).block < wr.heap.size := by rw [add_blk]; exact hadb1
      go_wp2_with fail
      refine HC.out.mono ?_
      rintro e wc ⟨rfl, hbx⟩
      replace c0 : wc.cell? (ad.add k) = some (iC x0) := (hbx.cell (p := ad.add k) hadb).trans c0
      replace c1 : wc.cell? ⟨ad.block, ad.off + (k + 1), none⟩ = some (iC x1) := (hbx.cell (p := ⟨ad.block, ad.off + (k + 1), none⟩) hadb1).trans c1
      have hownc := own_be hown hbx
      have hbc : Below w.heap.size w wc := bl_step hbr hbx
      have hbz := hbc.size
      have HPx := Lib.hid (PH.out x0)
      clear hown hbr hbx hadb hadb1 HC
      cases hop' : opN o (hasL la x0 y) (hasL lb x0 y) with
      | false =>
        have HO := Lib.hid hop'
        clear hop'
        go_wp2_with fail
        go_roundg (gk - 1)
        case measure => omega
        case rel =>
          refine ⟨k + 1, by omega, by go_num, ?_, hbc⟩
          rw [HC1.out, HS.out, HPx.out, HO.out]
          simpa [HN.out] using hownc
      | true =>
        have HO := Lib.hid hop'
        clear hop'
        rcases List.eq_nil_or_concat ac with h0 | ⟨L, b, h0⟩
        · have h00 := HN.out
          rw [h0] at h00
          obtain rfl : n = 0 := h00.symm
          have H0 := Lib.hid h0
          clear h0 h00
          go_wp2_with fail
          go_quiet (fail)
          go_wp2_with fail
          go_region_held3 (fun w' => w'.cell? (ad.add k) = some (iC x0) ∧ w'.cell? ⟨ad.block, ad.off + (k + 1), none⟩ = some (iC x1)) (first | (with_reducible exact ⟨c0n, c1n⟩) | (with_reducible exact ⟨c0, c1⟩) | go_keep)
            ((refine step_app _ (by rfl) (.tmp 74) (.tmp 94) _ (by rfl) w.heap.size 26 iR _ 4 32 Try.underlying22 hiR zR0 zR1 zR2 rfl (by omega) (.slice OA (0) oc) (0) ((ac.map (spR y y1)).flatMap rC) (by rfl) (by with_reducible repeat (first | exact hownc | apply World.ownsRow.alloc | apply World.ownsRow.drew | apply own_drN)) (wc.heap.size + 1) (some ⟨wc.heap.size, 0, none⟩) 1 1 [iC x0, iC y, iC (x1 - x0), iC (y1 - y)] (by rfl) (Rds.block (cs := #[iC x0, iC y, iC (x1 - x0), iC (y1 - y)]) (Bk.new' _ _ _ (by simp)) rfl (by omega)) (by intro u hu; simp at hu; rcases hu with rfl | rfl | rfl | rfl <;> rfl) (by simp only [maxLen]; omega) (by omega) (by simp; omega) ?_; intro v3 w3 hown3 hg3 hat3; have hr3 : ∀ g', (Value.slice OA (0) oc).ownBlock = some g' → w.heap.size ≤ g' := (fun g' hg' => (hownc.lt g' hg').1); have hb3 : Below w.heap.size w w3 := Below.grown (by with_reducible repeat (first | exact hbc | apply bl_alloc | apply bl_drew | apply bl_drewN)) hg3 (by simp; omega) hr3; have c0n : w3.cell? (ad.add k) = some (iC x0) := (hb3.cell (p := ad.add k) (by rw [add_blk]; exact hbl)).trans ((hbc.cell (p := ad.add k) (by rw [add_blk]; exact hbl)).symm.trans c0); have c1n : w3.cell? ⟨ad.block, ad.off + (k + 1), none⟩ = some (iC x1) := (hb3.cell (p := ⟨ad.block, ad.off + (k + 1), none⟩) hbl).trans ((hbc.cell (p := ⟨ad.block, ad.off + (k + 1), none⟩) hbl).symm.trans c1)))
          all_goals
            go_wp2
            go_roundg (gk - 1)
            case measure => omega
            case rel =>
              refine ⟨k + 1, by omega, by go_num, ?_, hb3⟩
              rw [HC1.out, HS.out, HPx.out, HO.out, H0.out]
              rw [H0.out] at hown3
              exact hown3
        · rw [List.concat_eq_append] at h0
          have h00 := HN.out
          rw [h0, List.length_append, List.length_singleton] at h00
          obtain rfl : n = L.length + 1 := h00.symm
          have H0 := Lib.hid h0
          obtain ⟨g, rfl, hg1, hg2⟩ := hform (by omega)
          have hbb := HIA.out b (by rw [h0]; simp)
          have cx : wc.cell? ⟨g, L.length * 4, none⟩ = some (iC b.f) := by
            rw [hownc.cellAt (L.length * 4) (by omega), h0, show L.length * 4 = L.length * 4 + 0 by omega, flat_at rC 4 rC_len ((L ++ [b]).map (spR y y1)) L.length (by simp) 0 (by omega)]
            simp [rC, spR]
          have cw : wc.cell? ⟨g, L.length * 4 + 2, none⟩ = some (iC (b.t - b.f)) := by
            rw [hownc.cellAt (L.length * 4 + 2) (by omega), h0, flat_at rC 4 rC_len ((L ++ [b]).map (spR y y1)) L.length (by simp) 2 (by omega)]
            simp [rC, spR]
          have cf := hownc.frozenAt (L.length * 4 + 2)
          have hwt : IntKind.i64.wrap (b.f + (b.t - b.f)) = b.t := by rw [i64_in (by omega) (by omega)]; omega
          have hwu : IntKind.i64.wrap (x1 - b.f) = x1 - b.f := i64_in (by omega) (by omega)
          have b0 : (0 : Int) ≤ (L.length : Int) := by omega
          have b1 : (L.length : Int) < ((L.length + 1 : Nat) : Int) := by omega
          have b2 : (L.length : Int) < (L.length : Int) + 1 := by omega
          have hv1 : IntKind.i64.wrap (((L.length + 1 : Nat) : Int) - 1) = (L.length : Int) := by rw [i64_in (by omega) (by omega)]; omega
          have hv2 : IntKind.i64.wrap ((L.length : Int) + 1 - 1) = (L.length : Int) := by rw [i64_in (by omega) (by omega)]; omega
          have hv3 : IntKind.i64.wrap (L.length : Int) = (L.length : Int) := i64_in (by omega) (by omega)
          have hga : g ≠ ad.block := by omega
          have est : ∀ W : World, W.ownsRow w.heap.size 26 4 (.slice (some ⟨g, 0, none⟩) (L.length + 1) oc) (L.length + 1) ((ac.map (spR y y1)).flatMap rC) → (W.setCell ⟨g, L.length * 4 + 2, none⟩ (iC (x1 - b.f))).cell? ⟨g, L.length * 4, none⟩ = some (iC b.f) := by
            intro W hW
            have s1 := (World.ownsRow.stored (w := W) hW (L.length * 4 + 2) (iC (x1 - b.f))).1
            rw [s1.cellAt (L.length * 4) (by omega), List.getElem?_set_ne (by omega), h0, show L.length * 4 = L.length * 4 + 0 by omega, flat_at rC 4 rC_len ((L ++ [b]).map (spR y y1)) L.length (by simp) 0 (by omega)]
            simp [rC, spR]
          have EST := Lib.hid est
          have hst : ∀ W : World, W.ownsRow w.heap.size 26 4 (.slice (some ⟨g, 0, none⟩) (L.length + 1) oc) (L.length + 1) ((ac.map (spR y y1)).flatMap rC) → (W.setCell ⟨g, L.length * 4 + 2, none⟩ (iC (x1 - b.f))).ownsRow w.heap.size 26 4 (.slice (some ⟨g, 0, none⟩) (L.length + 1) oc) (L.length + 1) (((L ++ [(⟨b.f, x1, ()⟩ : Sp)]).map (spR y y1)).flatMap rC) := by
            intro W hW
            have s1 := (World.ownsRow.stored (w := W) hW (L.length * 4 + 2) (iC (x1 - b.f))).1
            rw [h0, set_r] at s1
            exact s1
          have HST := Lib.hid hst
          clear h0 h00 est hst
          by_cases hbt : b.t = x0
          · have he : ((b.t : Int) == x0) = true := by simp [hbt]
            have HB := Lib.hid hbt
            clear hbt
            go_wp2_with fail
            go_quiet (fail)
            go_wp2_with fail
            go_region_law (fail)
            all_goals
              go_wp2
              go_roundg (gk - 1)
              case measure => omega
              case rel =>
                refine ⟨k + 1, by omega, by go_num, ?_, (by with_reducible repeat (first | exact hbc | apply bl_drew | apply bl_drewN | refine bl_set ?_ (by show w.heap.size ≤ g; exact hg1) _))⟩
                rw [HC1.out, HS.out, HPx.out, HO.out, H0.out]
                have e1 : push1 (L ++ [b]) (⟨x0, x1, ()⟩ : Sp) = L ++ [⟨b.f, x1, ()⟩] := by
                  unfold push1
                  rw [List.getLast?_concat]
                  simp only [List.dropLast_concat]
                  rw [if_pos ⟨HB.out, trivial⟩]
                simp only [if_true, e1]
                rw [List.length_append, List.length_singleton]
                exact HST.out _ (by with_reducible repeat (first | exact hownc | apply World.ownsRow.drew | apply own_drN))
          · have he : ((b.t : Int) == x0) = false := by simpa using hbt
            have HB := Lib.hid hbt
            clear hbt
            go_wp2_with fail
            go_quiet (fail)
            go_wp2_with fail
            clear he cx cw cf hv1 hv2 hv3 hwt hwu
            go_region_held3 (fun w' => w'.cell? (ad.add k) = some (iC x0) ∧ w'.cell? ⟨ad.block, ad.off + (k + 1), none⟩ = some (iC x1)) (first | (with_reducible exact ⟨c0n, c1n⟩) | (with_reducible exact ⟨c0, c1⟩) | go_keep)
              ((refine step_app _ (by rfl) (.tmp 74) (.tmp 94) _ (by rfl) w.heap.size 26 iR _ 4 32 Try.underlying22 hiR zR0 zR1 zR2 rfl (by omega) (.slice (some ⟨g, 0, none⟩) (L.length + 1) oc) (L.length + 1) ((ac.map (spR y y1)).flatMap rC) (by rfl) (by with_reducible repeat (first | exact hownc | apply World.ownsRow.alloc | apply World.ownsRow.drew | apply own_drN)) (wc.heap.size + 1) (some ⟨wc.heap.size, 0, none⟩) 1 1 [iC x0, iC y, iC (x1 - x0), iC (y1 - y)] (by rfl) (Rds.block (cs := #[iC x0, iC y, iC (x1 - x0), iC (y1 - y)]) (Bk.new' _ _ _ (by simp)) rfl (by omega)) (by intro u hu; simp at hu; rcases hu with rfl | rfl | rfl | rfl <;> rfl) (by simp only [maxLen]; omega) (by omega) (by simp; omega) ?_; intro v3 w3 hown3 hg3 hat3; have hr3 : ∀ g', (Value.slice (some ⟨g, 0, none⟩) (L.length + 1) oc).ownBlock = some g' → w.heap.size ≤ g' := (fun g' hg' => (hownc.lt g' hg').1); have hb3 : Below w.heap.size w w3 := Below.grown (by with_reducible repeat (first | exact hbc | apply bl_alloc | apply bl_drew | apply bl_drewN)) hg3 (by simp; omega) hr3; have c0n : w3.cell? (ad.add k) = some (iC x0) := (hb3.cell (p := ad.add k) (by rw [add_blk]; exact hbl)).trans ((hbc.cell (p := ad.add k) (by rw [add_blk]; exact hbl)).symm.trans c0); have c1n : w3.cell? ⟨ad.block, ad.off + (k + 1), none⟩ = some (iC x1) := (hb3.cell (p := ⟨ad.block, ad.off + (k + 1), none⟩) hbl).trans ((hbc.cell (p := ⟨ad.block, ad.off + (k + 1), none⟩) hbl).symm.trans c1)))
            all_goals
              go_wp2
              go_roundg (gk - 1)
              case measure => omega
              case rel =>
                refine ⟨k + 1, by omega, by go_num, ?_, hb3⟩
                rw [HC1.out, HS.out, HPx.out, HO.out, H0.out]
                have e1 : push1 (L ++ [b]) (⟨x0, x1, ()⟩ : Sp) = (L ++ [b]) ++ [⟨x0, x1, ()⟩] := by
                  unfold push1
                  rw [List.getLast?_concat]
                  simp only
                  rw [if_neg fun h => HB.out h.1]
                rw [H0.out] at hown3
                simp only [if_true, e1]
                rw [List.map_append, List.flatMap_append, List.length_append, List.length_append]
                exact hown3
    · have hkg : k = (gaps xs).length := by omega
      have hd : ¬ ((k : Int) + 1 < (xs.length : Int)) := by omega
      have hw : IntKind.i64.wrap ((k : Int) + 1) = (k : Int) + 1 := i64_in (by omega) (by omega)
      have HK := Lib.hid hkg
      clear hkg hX hk hform
      go_wp2_with fail
      go_ret
      exact ⟨_, rfl, by rw [HRO.out, ← HK.out, List.length_map]; exact hown, hbr⟩
end Go.Proofs.Ytclpppejabfbbaa.Wk
