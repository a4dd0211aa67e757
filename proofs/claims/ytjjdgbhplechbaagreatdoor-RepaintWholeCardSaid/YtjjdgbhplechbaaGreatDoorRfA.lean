/- Texts of this claim, one behind the other: each begins with its own remark. -/
import Derived.Test.YtjjdgbhplechbaaGreatDoorRf1
import Derived.Test.YtjjdgbhplechbaaGreatDoorRfP
import Derived.Deep.RegionLaw
/- The reference's row. -/
set_option linter.unusedVariables false
set_option linter.unusedSimpArgs false
namespace Go.Proofs.YtjjdgbhplechbaaGreatDoor.Wk
open Go.RowKit Go.Proofs.YtjjdgbhplechbaaGreatDoor.Kit Go.Proofs.YtjjdgbhplechbaaGreatDoor.Reg Go.Proofs.YtjjdgbhplechbaaGreatDoor.Rect

theorem set_r (L : List Sp) (b : Sp) (y y1 x : Int) : (((L ++ [b]).map (spR y y1)).flatMap rC).set (L.length * 4 + 2) (iC (x - b.f)) = ((L ++ [(⟨b.f, x, ()⟩ : Sp)]).map (spR y y1)).flatMap rC := by
  rw [List.map_append, List.map_append, List.flatMap_append, List.flatMap_append, List.set_append_right _ _ (by rw [flat_len rC 4 rC_len, List.length_map]; omega), flat_len rC 4 rC_len, List.length_map, Nat.add_sub_cancel_left]
  rfl
set_option maxRecDepth 100000 in
set_option maxHeartbeats 8000000 in
theorem rfRow_any (A B XA : Option Addr) (c d xc : Nat) (la lb : List R) (xs : List Int) (y y1 o : Int) (w : World) (na : la.length ≤ 1000000) (nb : lb.length ≤ 1000000) (h64a : ∀ r ∈ la, I64 r) (h64b : ∀ r ∈ lb, I64 r) (nx : xs.length ≤ 1000000000)
    (hxs : ∀ x ∈ xs, -8589934592 ≤ x ∧ x ≤ 8589934592) (hy0 : -8589934592 ≤ y ∧ y ≤ 8589934592) (hy1 : -8589934592 ≤ y1 ∧ y1 ≤ 8589934592)
    (hA : Rds w w.heap.size 4 A la.length (la.flatMap rC)) (hB : Rds w w.heap.size 4 B lb.length (lb.flatMap rC)) (hX : Rds w w.heap.size 1 XA xs.length (xs.map iC)) :
    Calls Tryz.prog 54 #[.slice A la.length c, .slice B lb.length d, .slice XA xs.length xc, .int .i64 y, .int .i64 y1, .int .i64 o] w (RcP w ((rowSp (opN o) la lb xs y).map (spR y y1))) := by
  obtain ⟨iR, hiR, zR0, zR1, zR2⟩ := info_parts infoR
  have hwe : IntKind.i64.wrap (y1 - y) = y1 - y := i64_in (by omega) (by omega)
  have hro : rowSp (opN o) la lb xs y = accK (fun x => if opN o (hasL la x y) (hasL lb x y) then some () else none) xs (gaps xs).length := (accK_all _ _).symm
  have HIN := Lib.hid (fun (x : Int) (h : -8589934592 ≤ x ∧ x ≤ 8589934592) (W : World) (hW : Below w.heap.size w W) => rfIn_any A B c d la lb x y o W na nb h64a h64b ((hA.be hW).more hW.size) ((hB.be hW).more hW.size) (by omega) (by omega))
  generalize hphi : (fun x => if opN o (hasL la x y) (hasL lb x y) then some () else none) = phi at hro
  have hphi' : ∀ x, phi x = if opN o (hasL la x y) (hasL lb x y) then some () else none := fun x => by rw [← hphi]
  have PH := Lib.hid hphi'
  have HRO := Lib.hid hro
  have HXS := Lib.hid hxs
  clear hphi hphi' hro hA hB h64a h64b hxs
  go_enter Tryz.func54, Tryz.ntmps54
  go_wp2_with fail
  go_loopg [13, 14] (gaps xs).length (fun gd out i wr => ∃ k : Nat, k + gd = (gaps xs).length ∧ i = .int .i64 k ∧ wr.ownsRow w.heap.size 64 4 out (accK phi xs k).length (((accK phi xs k).map (spR y y1)).flatMap rC) ∧ Below w.heap.size w wr)
  case atStart => exact ⟨0, by omega, rfl, World.ownsRow_nil _ _ _ _, Below.refl _ _⟩
  case round =>
    obtain ⟨k, hk, rfl, hown, hbr⟩ := hrel
    obtain ⟨OA, oc, rfl, hform⟩ := own_form hown
    have hgl := gaps_len' xs
    by_cases hlt : k < (gaps xs).length
    · have hk1 : (k : Int) + 1 < (xs.length : Int) := by omega
      have i0 : (0 : Int) ≤ (k : Int) := by omega
      have i1 : (k : Int) < (xs.length : Int) := by omega
      have hw1 : IntKind.i64.wrap ((k : Int) + 1) = (k : Int) + 1 := i64_in (by omega) (by omega)
      have hw2 : (0 : Int) ≤ (k : Int) + 1 := by omega
      have hw3 : ((k : Int) + 1).toNat = k + 1 := by omega
      obtain ⟨ad, rfl, hbl, hcell⟩ := (hX.be hbr).2 (by omega)
      have c0 : wr.cell? (ad.add k) = some (iC (xs[k]'(by omega))) := hcell k _ (by rw [List.getElem?_map, List.getElem?_eq_getElem (by omega)]; rfl)
      have c1 : wr.cell? ⟨ad.block, ad.off + (k + 1), none⟩ = some (iC (xs[k + 1]'(by omega))) := by
        rw [← add_nx]
        exact hcell (k + 1) _ (by rw [List.getElem?_map, List.getElem?_eq_getElem (by omega)]; rfl)
      have hgk := gaps_get xs k hlt
      have HS := Lib.hid (accK_succ phi xs k hlt)
      have hal := accK_len phi xs k (by omega)
      have hin := acc_in phi xs k
      have hx0 := HXS.out (xs[k]'(by omega)) (List.getElem_mem _)
      have hx1 := HXS.out (xs[k + 1]'(by omega)) (List.getElem_mem _)
      clear hcell
      generalize (gaps xs)[k] = gp at *
      generalize xs[k]'(by omega) = x0 at *
      generalize xs[k + 1]'(by omega) = x1 at *
      subst hgk
      simp only at HS
      generalize accK phi xs k = ac at *
      generalize hac1 : accK phi xs (k + 1) = ac1 at HS
      have HC1 := Lib.hid hac1
      clear hac1
      have HIA := Lib.hid (fun s hs => (⟨HXS.out _ (hin s hs).1, HXS.out _ (hin s hs).2⟩ : _ ∧ _))
      clear hin
      generalize hn : ac.length = n at hown hal hform ⊢
      have HN := Lib.hid hn
      clear hn
      have hwd : IntKind.i64.wrap (x1 - x0) = x1 - x0 := i64_in (by omega) (by omega)
      have HC := Lib.hid (HIN.out x0 hx0 wr hbr)
      have hadb1 : ad.block < wr.heap.size := Nat.lt_of_lt_of_le hbl hbr.size
      have hadb : (ad.add k).block < wr.heap.size := by rw [add_blk]; exact hadb1
      go_wp2_with fail
      refine HC.out.mono ?_
      rintro e wc ⟨rfl, hbx⟩
      replace c0 : wc.cell? (ad.add k) = some (iC x0) := (hbx.cell (p := ad.add k) hadb).trans c0
      replace c1 : wc.cell? ⟨ad.block, ad.off + (k + 1), none⟩ = some (iC x1) := (hbx.cell (p := ⟨ad.block, ad.off + (k + 1), none⟩) hadb1).trans c1
      have hownc := own_be hown hbx
      have hbc : Below w.heap.size w wc := bl_step hbr hbx
      have hbz := hbc.size
      have HPx := Lib.hid (PH.out x0)
      clear hown hbr hbx hadb hadb1 HC
      cases hop' : opN o (hasL la x0 y) (hasL lb x0 y) with
      | false =>
        have HO := Lib.hid hop'
        clear hop'
        go_wp2_with fail
        go_roundg (gk - 1)
        case measure => omega
        case rel =>
          refine ⟨k + 1, by omega, by go_num, ?_, hbc⟩
          rw [HC1.out, HS.out, HPx.out, HO.out]
          simpa [HN.out] using hownc
      | true =>
        have HO := Lib.hid hop'
        clear hop'
        rcases List.eq_nil_or_concat ac with h0 | ⟨L, b, h0⟩
        · have h00 := HN.out
          rw [h0] at h00
          obtain rfl : n = 0 := h00.symm
          have H0 := Lib.hid h0
          clear h0 h00
          go_wp2_with fail
          go_quiet (fail)
          go_wp2_with fail
          go_region_held3 (fun w' => w'.cell? (ad.add k) = some (iC x0) ∧ w'.cell? ⟨ad.block, ad.off + (k + 1), none⟩ = some (iC x1)) (first | (with_reducible exact ⟨c0n, c1n⟩) | (with_reducible exact ⟨c0, c1⟩) | go_keep)
            ((refine step_app _ (by rfl) (.tmp 74) (.tmp 94) _ (by rfl) w.heap.size 64 iR _ 4 32 Tryz.underlying25 hiR zR0 zR1 zR2 rfl (by omega) (.slice OA (0) oc) (0) ((ac.map (spR y y1)).flatMap rC) (by rfl) (by with_reducible repeat (first | exact hownc | apply World.ownsRow.alloc | apply World.ownsRow.drew | apply own_drN)) (wc.heap.size + 1) (some ⟨wc.heap.size, 0, none⟩) 1 1 [iC x0, iC y, iC (x1 - x0), iC (y1 - y)] (by rfl) (Rds.block (cs := #[iC x0, iC y, iC (x1 - x0), iC (y1 - y)]) (Bk.new' _ _ _ (by simp)) rfl (by omega)) (by intro u hu; simp at hu; rcases hu with rfl | rfl | rfl | rfl <;> rfl) (by simp only [maxLen]; omega) (by omega) (by simp; omega) ?_; intro v3 w3 hown3 hg3 hat3; have hr3 : ∀ g', (Value.slice OA (0) oc).ownBlock = some g' → w.heap.size ≤ g' := (fun g' hg' => (hownc.lt g' hg').1); have hb3 : Below w.heap.size w w3 := Below.grown (by with_reducible repeat (first | exact hbc | apply bl_alloc | apply bl_drew | apply bl_drewN)) hg3 (by simp; omega) hr3; have c0n : w3.cell? (ad.add k) = some (iC x0) := (hb3.cell (p := ad.add k) (by rw [add_blk]; exact hbl)).trans ((hbc.cell (p := ad.add k) (by rw [add_blk]; exact hbl)).symm.trans c0); have c1n : w3.cell? ⟨ad.block, ad.off + (k + 1), none⟩ = some (iC x1) := (hb3.cell (p := ⟨ad.block, ad.off + (k + 1), none⟩) hbl).trans ((hbc.cell (p := ⟨ad.block, ad.off + (k + 1), none⟩) hbl).symm.trans c1)))
          all_goals
            go_wp2
            go_roundg (gk - 1)
            case measure => omega
            case rel =>
              refine ⟨k + 1, by omega, by go_num, ?_, hb3⟩
              rw [HC1.out, HS.out, HPx.out, HO.out, H0.out]
              rw [H0.out] at hown3
              exact hown3
        · rw [List.concat_eq_append] at h0
          have h00 := HN.out
          rw [h0, List.length_append, List.length_singleton] at h00
          obtain rfl : n = L.length + 1 := h00.symm
          have H0 := Lib.hid h0
          obtain ⟨g, rfl, hg1, hg2⟩ := hform (by omega)
          have hbb := HIA.out b (by rw [h0]; simp)
          have cx : wc.cell? ⟨g, L.length * 4, none⟩ = some (iC b.f) := by
            rw [hownc.cellAt (L.length * 4) (by omega), h0, show L.length * 4 = L.length * 4 + 0 by omega, flat_at rC 4 rC_len ((L ++ [b]).map (spR y y1)) L.length (by simp) 0 (by omega)]
            simp [rC, spR]
          have cw : wc.cell? ⟨g, L.length * 4 + 2, none⟩ = some (iC (b.t - b.f)) := by
            rw [hownc.cellAt (L.length * 4 + 2) (by omega), h0, flat_at rC 4 rC_len ((L ++ [b]).map (spR y y1)) L.length (by simp) 2 (by omega)]
            simp [rC, spR]
          have cf := hownc.frozenAt (L.length * 4 + 2)
          have hwt : IntKind.i64.wrap (b.f + (b.t - b.f)) = b.t := by rw [i64_in (by omega) (by omega)]; omega
          have hwu : IntKind.i64.wrap (x1 - b.f) = x1 - b.f := i64_in (by omega) (by omega)
          have b0 : (0 : Int) ≤ (L.length : Int) := by omega
          have b1 : (L.length : Int) < ((L.length + 1 : Nat) : Int) := by omega
          have b2 : (L.length : Int) < (L.length : Int) + 1 := by omega
          have hv1 : IntKind.i64.wrap (((L.length + 1 : Nat) : Int) - 1) = (L.length : Int) := by rw [i64_in (by omega) (by omega)]; omega
          have hv2 : IntKind.i64.wrap ((L.length : Int) + 1 - 1) = (L.length : Int) := by rw [i64_in (by omega) (by omega)]; omega
          have hv3 : IntKind.i64.wrap (L.length : Int) = (L.length : Int) := i64_in (by omega) (by omega)
          have hga : g ≠ ad.block := by omega
          have est : ∀ W : World, W.ownsRow w.heap.size 64 4 (.slice (some ⟨g, 0, none⟩) (L.length + 1) oc) (L.length + 1) ((ac.map (spR y y1)).flatMap rC) → (W.setCell ⟨g, L.length * 4 + 2, none⟩ (iC (x1 - b.f))).cell? ⟨g, L.length * 4, none⟩ = some (iC b.f) := by
            intro W hW
            have s1 := (World.ownsRow.stored (w := W) hW (L.length * 4 + 2) (iC (x1 - b.f))).1
            rw [s1.cellAt (L.length * 4) (by omega), List.getElem?_set_ne (by omega), h0, show L.length * 4 = L.length * 4 + 0 by omega, flat_at rC 4 rC_len ((L ++ [b]).map (spR y y1)) L.length (by simp) 0 (by omega)]
            simp [rC, spR]
          have EST := Lib.hid est
          have hst : ∀ W : World, W.ownsRow w.heap.size 64 4 (.slice (some ⟨g, 0, none⟩) (L.length + 1) oc) (L.length + 1) ((ac.map (spR y y1)).flatMap rC) → (W.setCell ⟨g, L.length * 4 + 2, none⟩ (iC (x1 - b.f))).ownsRow w.heap.size 64 4 (.slice (some ⟨g, 0, none⟩) (L.length + 1) oc) (L.length + 1) (((L ++ [(⟨b.f, x1, ()⟩ : Sp)]).map (spR y y1)).flatMap rC) := by
            intro W hW
            have s1 := (World.ownsRow.stored (w := W) hW (L.length * 4 + 2) (iC (x1 - b.f))).1
            rw [h0, set_r] at s1
            exact s1
          have HST := Lib.hid hst
          clear h0 h00 est hst
          by_cases hbt : b.t = x0
          · have he : ((b.t : Int) == x0) = true := by simp [hbt]
            have HB := Lib.hid hbt
            clear hbt
            go_wp2_with fail
            go_quiet (fail)
            go_wp2_with fail
            go_region_law (fail)
            all_goals
              go_wp2
              go_roundg (gk - 1)
              case measure => omega
              case rel =>
                refine ⟨k + 1, by omega, by go_num, ?_, (by with_reducible repeat (first | exact hbc | apply bl_drew | apply bl_drewN | refine bl_set ?_ (by show w.heap.size ≤ g; exact hg1) _))⟩
                rw [HC1.out, HS.out, HPx.out, HO.out, H0.out]
                have e1 : push1 (L ++ [b]) (⟨x0, x1, ()⟩ : Sp) = L ++ [⟨b.f, x1, ()⟩] := by
                  unfold push1
                  rw [List.getLast?_concat]
                  simp only [List.dropLast_concat]
                  rw [if_pos ⟨HB.out, trivial⟩]
                simp only [if_true, e1]
                rw [List.length_append, List.length_singleton]
                exact HST.out _ (by with_reducible repeat (first | exact hownc | apply World.ownsRow.drew | apply own_drN))
          · have he : ((b.t : Int) == x0) = false := by simpa using hbt
            have HB := Lib.hid hbt
            clear hbt
            go_wp2_with fail
            go_quiet (fail)
            go_wp2_with fail
            clear he cx cw cf hv1 hv2 hv3 hwt hwu
            go_region_held3 (fun w' => w'.cell? (ad.add k) = some (iC x0) ∧ w'.cell? ⟨ad.block, ad.off + (k + 1), none⟩ = some (iC x1)) (first | (with_reducible exact ⟨c0n, c1n⟩) | (with_reducible exact ⟨c0, c1⟩) | go_keep)
              ((refine step_app _ (by rfl) (.tmp 74) (.tmp 94) _ (by rfl) w.heap.size 64 iR _ 4 32 Tryz.underlying25 hiR zR0 zR1 zR2 rfl (by omega) (.slice (some ⟨g, 0, none⟩) (L.length + 1) oc) (L.length + 1) ((ac.map (spR y y1)).flatMap rC) (by rfl) (by with_reducible repeat (first | exact hownc | apply World.ownsRow.alloc | apply World.ownsRow.drew | apply own_drN)) (wc.heap.size + 1) (some ⟨wc.heap.size, 0, none⟩) 1 1 [iC x0, iC y, iC (x1 - x0), iC (y1 - y)] (by rfl) (Rds.block (cs := #[iC x0, iC y, iC (x1 - x0), iC (y1 - y)]) (Bk.new' _ _ _ (by simp)) rfl (by omega)) (by intro u hu; simp at hu; rcases hu with rfl | rfl | rfl | rfl <;> rfl) (by simp only [maxLen]; omega) (by omega) (by simp; omega) ?_; intro v3 w3 hown3 hg3 hat3; have hr3 : ∀ g', (Value.slice (some ⟨g, 0, none⟩) (L.length + 1) oc).ownBlock = some g' → w.heap.size ≤ g' := (fun g' hg' => (hownc.lt g' hg').1); have hb3 : Below w.heap.size w w3 := Below.grown (by with_reducible repeat (first | exact hbc | apply bl_alloc | apply bl_drew | apply bl_drewN)) hg3 (by simp; omega) hr3; have c0n : w3.cell? (ad.add k) = some (iC x0) := (hb3.cell (p := ad.add k) (by rw [add_blk]; exact hbl)).trans ((hbc.cell (p := ad.add k) (by rw [add_blk]; exact hbl)).symm.trans c0); have c1n : w3.cell? ⟨ad.block, ad.off + (k + 1), none⟩ = some (iC x1) := (hb3.cell (p := ⟨ad.block, ad.off + (k + 1), none⟩) hbl).trans ((hbc.cell (p := ⟨ad.block, ad.off + (k + 1), none⟩) hbl).symm.trans c1)))
            all_goals
              go_wp2
              go_roundg (gk - 1)
              case measure => omega
              case rel =>
                refine ⟨k + 1, by omega, by go_num, ?_, hb3⟩
                rw [HC1.out, HS.out, HPx.out, HO.out, H0.out]
                have e1 : push1 (L ++ [b]) (⟨x0, x1, ()⟩ : Sp) = (L ++ [b]) ++ [⟨x0, x1, ()⟩] := by
                  unfold push1
                  rw [List.getLast?_concat]
                  simp only
                  rw [if_neg fun h => HB.out h.1]
                rw [H0.out] at hown3
                simp only [if_true, e1]
                rw [List.map_append, List.flatMap_append, List.length_append, List.length_append]
                exact hown3
    · have hkg : k = (gaps xs).length := by omega
      have hd : ¬ ((k : Int) + 1 < (xs.length : Int)) := by omega
      have hw : IntKind.i64.wrap ((k : Int) + 1) = (k : Int) + 1 := i64_in (by omega) (by omega)
      have HK := Lib.hid hkg
      clear hkg hX hk hform
      go_wp2_with fail
      go_ret
      exact ⟨_, rfl, by rw [HRO.out, ← HK.out, List.length_map]; exact hown, hbr⟩
end Go.Proofs.YtjjdgbhplechbaaGreatDoor.Wk
/- The reference's alike. -/
set_option linter.unusedVariables false
set_option linter.unusedSimpArgs false
namespace Go.Proofs.YtjjdgbhplechbaaGreatDoor.Wk
open Go.RowKit Go.Proofs.YtjjdgbhplechbaaGreatDoor.Kit Go.Proofs.YtjjdgbhplechbaaGreatDoor.Reg Go.Proofs.YtjjdgbhplechbaaGreatDoor.Rect

def zipB (a b : List R) : Bool := (a.zip b).all fun p => p.1.x == p.2.x && p.1.w == p.2.w
def Sm35 (r : R) : Prop := (-34359738368 ≤ r.x ∧ r.x ≤ 34359738368) ∧ (-34359738368 ≤ r.y ∧ r.y ≤ 34359738368) ∧ (-34359738368 ≤ r.w ∧ r.w ≤ 34359738368) ∧ -36028797018963968 ≤ r.h ∧ r.h ≤ 36028797018963968
theorem zip_drop (a b : List R) (k : Nat) (h1 : k < a.length) (h2 : k < b.length) : zipB (a.drop k) (b.drop k) = ((a[k].x == b[k].x && a[k].w == b[k].w) && zipB (a.drop (k + 1)) (b.drop (k + 1))) := by
  rw [List.drop_eq_getElem_cons h1, List.drop_eq_getElem_cons h2]; rfl
set_option maxRecDepth 100000 in
set_option maxHeartbeats 4000000 in
theorem rfAlike_any (A B : Option Addr) (c d : Nat) (la lb : List R) (w : World) (na : la.length ≤ 1000000000000) (nb : lb.length ≤ 1000000000000) (hs : ∀ r ∈ la, Sm35 r) (hA : Rds w w.heap.size 4 A la.length (la.flatMap rC)) (hB : Rds w w.heap.size 4 B lb.length (lb.flatMap rC)) :
    Calls Tryz.prog 55 #[.slice A la.length c, .slice B lb.length d] w fun e w' => e = .returned (.bool (alikeF la lb)) ∧ Below w.heap.size w w' := by
  by_cases hl : la.length = lb.length
  · by_cases h0 : la.length = 0
    · have hf : alikeF la lb = false := by
        rw [List.length_eq_zero_iff.1 h0]; exact alike_nil_l lb
      have HF := Lib.hid hf
      have hn : (((la.length : Nat) : Int) != ((lb.length : Nat) : Int)) = false := by simp [hl]
      have hz : (((la.length : Nat) : Int) == 0) = true := by simp [h0]
      clear hf hl h0
      go_enter Tryz.func55, Tryz.ntmps55
      go_wp2_with fail
      go_quiet (fail)
      go_wp2_with fail
      go_ret
      exact ⟨by rw [HF.out]; rfl, by with_reducible repeat (first | exact Below.refl _ _ | apply bl_drew | apply bl_drewN)⟩
    · have hp : 0 < la.length := by omega
      have hpb : 0 < lb.length := by omega
      obtain ⟨ad, rfl, hbl, c0, c1, c2, c3⟩ := Rds.rc hA hp
      obtain ⟨bd, rfl, hbl2, d0, d1, d2, d3⟩ := Rds.rc hB hpb
      have hf : alikeF la lb = ((la[0].y + la[0].h == lb[0].y) && zipB la lb) := by
        cases la with
        | nil => simp at hp
        | cons x la =>
          cases lb with
          | nil => simp at hpb
          | cons y lb =>
            unfold alikeF zipB
            simp only [List.getElem_cons_zero]
            rw [show ((x :: la).length == (y :: lb).length) = true by simpa using hl, Bool.true_and]
      have HF := Lib.hid hf
      have hsm := hs la[0] (List.getElem_mem hp)
      obtain ⟨_, ⟨y0, y1⟩, _, z0, z1⟩ := hsm
      have hn : (((la.length : Nat) : Int) != ((lb.length : Nat) : Int)) = false := by simp [hl]
      have hz : (((la.length : Nat) : Int) == 0) = false := by simpa using h0
      have hwy : IntKind.i64.wrap (la[0].y + la[0].h) = la[0].y + la[0].h := i64_in (by omega) (by omega)
      have j0 : (0 : Int) < (la.length : Int) := by omega
      have j1 : (0 : Int) < (lb.length : Int) := by omega
      have HL := Lib.hid hl
      clear hf hl h0 c0 c2 d0 d2 d3
      generalize la[0].y = ay at *
      generalize la[0].h = ah at *
      generalize lb[0].y = yb at *
      rw [Nat.zero_mul] at c1 c3 d1
      have a0 : ad.add 0 = ad := by simp [Addr.add]
      have a1 : bd.add 0 = bd := by simp [Addr.add]
      rw [a0] at c1 c3
      rw [a1] at d1
      by_cases he : ay + ah = yb
      · have hen : ((ay + ah : Int) != yb) = false := by simp [he]
        have HE := Lib.hid he
        clear he
        go_enter Tryz.func55, Tryz.ntmps55
        go_wp2_with fail
        go_quiet (fail)
        go_wp2_with fail
        clear c1 c3 d1 a0 a1 hwy hen hn hz j0 j1
        have hA0 : Rds (w.drewN nq) w.heap.size 4 (some ad) la.length (la.flatMap rC) := hA
        have hB0 : Rds (w.drewN nq) w.heap.size 4 (some bd) lb.length (lb.flatMap rC) := hB
        go_loopg [5] la.length (fun gd i wr => ∃ k : Nat, k + gd = la.length ∧ i = .int .i64 k ∧ Hid (zipB la lb = zipB (la.drop k) (lb.drop k)) ∧ Below w.heap.size w wr)
        case atStart => exact ⟨0, by omega, rfl, Lib.hid rfl, bl_drewN (Below.refl _ _) _⟩
        case round =>
          obtain ⟨k, hk, rfl, HX, hbr⟩ := hrel
          by_cases hlt : k < la.length
          · have hltb : k < lb.length := by have := HL.out; omega
            obtain ⟨ad', hae, _, p0, _, p2, _⟩ := Rds.rc (hA.be hbr) hlt
            obtain ⟨bd', hbe, _, q0, _, q2, _⟩ := Rds.rc (hB.be hbr) hltb
            obtain rfl : ad' = ad := by simpa using hae.symm
            obtain rfl : bd' = bd := by simpa using hbe.symm
            have HD := Lib.hid (zip_drop la lb k hlt hltb)
            have i0 : (0 : Int) ≤ (k : Int) := by omega
            have i1 : (k : Int) < (la.length : Int) := by omega
            have i2 : (k : Int) < (lb.length : Int) := by omega
            clear hae hbe
            generalize la[k] = a at *
            generalize lb[k] = b at *
            obtain ⟨ax, ay', aw, ah'⟩ := a
            obtain ⟨bx, by', bw, bh⟩ := b
            simp only at p0 p2 q0 q2 HD
            by_cases hx : ax = bx
            · have hxe : ((ax : Int) != bx) = false := by simp [hx]
              have HXE := Lib.hid hx
              clear hx
              by_cases hw : aw = bw
              · have hwe : ((aw : Int) != bw) = false := by simp [hw]
                have HWE := Lib.hid hw
                clear hw
                go_wp2_with fail
                go_quiet (fail)
                go_wp2_with fail
                go_roundg (gk - 1)
                case measure => omega
                case rel =>
                  refine ⟨k + 1, by omega, by go_num, Lib.hid ?_, by with_reducible repeat (first | exact hbr | apply bl_drew | apply bl_drewN)⟩
                  rw [HX.out, HD.out, HXE.out, HWE.out]; simp
              · have hwe : ((aw : Int) != bw) = true := by simpa using hw
                have HWE := Lib.hid hw
                clear hw
                go_wp2_with fail
                go_quiet (fail)
                go_wp2_with fail
                go_ret
                refine ⟨?_, by with_reducible repeat (first | exact hbr | apply bl_drew | apply bl_drewN)⟩
                rw [HF.out, HX.out, HD.out, show ((aw : Int) == bw) = false by simpa using HWE.out]; simp
            · have hxe : ((ax : Int) != bx) = true := by simpa using hx
              have HXE := Lib.hid hx
              clear hx
              go_wp2_with fail
              go_quiet (fail)
              go_wp2_with fail
              go_ret
              refine ⟨?_, by with_reducible repeat (first | exact hbr | apply bl_drew | apply bl_drewN)⟩
              rw [HF.out, HX.out, HD.out, show ((ax : Int) == bx) = false by simpa using HXE.out]; simp
          · obtain rfl : k = la.length := by omega
            have HL2 := HL.out
            go_wp2_with fail
            go_ret
            refine ⟨?_, hbr⟩
            rw [HF.out, HX.out, List.drop_length, show ((ay + ah : Int) == yb) = true by simp [HE.out]]; rfl
      · have hen : ((ay + ah : Int) != yb) = true := by simpa using he
        have HE := Lib.hid he
        clear he
        go_enter Tryz.func55, Tryz.ntmps55
        go_wp2_with fail
        go_quiet (fail)
        go_wp2_with fail
        go_ret
        refine ⟨?_, by with_reducible repeat (first | exact Below.refl _ _ | apply bl_drew | apply bl_drewN)⟩
        rw [HF.out, show ((ay + ah : Int) == yb) = false by simpa using HE.out]; rfl
  · have hf : alikeF la lb = false := by
      unfold alikeF; rw [show (la.length == lb.length) = false by simpa using hl]; rfl
    have HF := Lib.hid hf
    have hn : (((la.length : Nat) : Int) != ((lb.length : Nat) : Int)) = true := by simp; omega
    clear hf hl
    go_enter Tryz.func55, Tryz.ntmps55
    go_wp2_with fail
    go_quiet (fail)
    go_wp2_with fail
    go_ret
    exact ⟨by rw [HF.out]; rfl, by with_reducible repeat (first | exact Below.refl _ _ | apply bl_drew | apply bl_drewN)⟩
end Go.Proofs.YtjjdgbhplechbaaGreatDoor.Wk
/- The reference's make1. -/
namespace Go.Proofs.YtjjdgbhplechbaaGreatDoor.Wk
open Go.RowKit Go.Proofs.YtjjdgbhplechbaaGreatDoor.Kit Go.Proofs.YtjjdgbhplechbaaGreatDoor.Reg Go.Proofs.YtjjdgbhplechbaaGreatDoor.Rect

/-- the first i grown -/
def grN (dd : Int) (i : Nat) (l : List R) : List R := growR dd (l.take i) ++ l.drop i
theorem grN_len (dd : Int) (i : Nat) (l : List R) : (grN dd i l).length = l.length := by
  unfold grN growR; rw [List.length_append, List.length_map, ← List.length_append, List.take_append_drop]
theorem grN_all (dd : Int) (l : List R) : grN dd l.length l = growR dd l := by unfold grN; simp
theorem grN_at (dd : Int) (i : Nat) (l : List R) (h : i < l.length) : (grN dd i l)[i]? = some l[i] := by
  unfold grN growR
  rw [List.getElem?_append_right (by rw [List.length_map, List.length_take]; omega), List.length_map, List.length_take, Nat.min_eq_left (Nat.le_of_lt h), Nat.sub_self, List.getElem?_drop, Nat.add_zero, List.getElem?_eq_getElem h]
theorem grN_set (dd : Int) (i : Nat) (l : List R) (h : i < l.length) : ((grN dd i l).flatMap rC).set (i * 4 + 3) (iC (l[i].h + dd)) = (grN dd (i + 1) l).flatMap rC := by
  have e1 : grN dd i l = growR dd (l.take i) ++ l[i] :: l.drop (i + 1) := by unfold grN; rw [List.drop_eq_getElem_cons h]
  have e2 : grN dd (i + 1) l = growR dd (l.take i) ++ ⟨l[i].x, l[i].y, l[i].w, l[i].h + dd⟩ :: l.drop (i + 1) := by
    unfold grN growR
    rw [List.take_succ_eq_append_getElem h, List.map_append, List.append_assoc]; rfl
  rw [e1, e2, List.flatMap_append, List.flatMap_append]
  have hl : ((growR dd (l.take i)).flatMap rC).length = i * 4 := by
    rw [flat_len rC 4 rC_len]; unfold growR; rw [List.length_map, List.length_take]; omega
  rw [List.set_append_right _ _ (by omega), hl, Nat.add_sub_cancel_left]
  rfl
def mkK (G : Int → List Sp) (es : List Int) (k : Nat) : List R × List R := mkAll G ((gaps es).take k) ([], [])
theorem mkK_succ (G : Int → List Sp) (es : List Int) (k : Nat) (h : k < (gaps es).length) : mkK G es (k + 1) = mkStep (mkK G es k) ((G (gaps es)[k].1).map (spR (gaps es)[k].1 (gaps es)[k].2)) (gaps es)[k].1 (gaps es)[k].2 := by
  unfold mkK mkAll
  rw [List.take_succ_eq_append_getElem h, List.foldl_append]; rfl
/-- what is known of the two rows -/
structure MkI (k : Nat) (a b : List R) : Prop where
  la : a.length + b.length ≤ k * 40000
  hb : ∀ r ∈ b, (-34359738368 ≤ r.x ∧ r.x ≤ 34359738368) ∧ (-34359738368 ≤ r.y ∧ r.y ≤ 34359738368) ∧ (-34359738368 ≤ r.w ∧ r.w ≤ 34359738368) ∧ -((k + 1 : Int) * 34359738368) ≤ r.h ∧ r.h ≤ (k + 1 : Int) * 34359738368
theorem growR_in {dd : Int} {l : List R} {r : R} (h : r ∈ growR dd l) : ∃ s ∈ l, r = ⟨s.x, s.y, s.w, s.h + dd⟩ := by
  unfold growR at h
  obtain ⟨s, hs, rfl⟩ := List.mem_map.1 h
  exact ⟨s, hs, rfl⟩
theorem mk_grow {k : Nat} {a b : List R} (h : MkI k a b) {dd : Int} (hd : -34359738368 ≤ dd ∧ dd ≤ 34359738368) : MkI (k + 1) a (growR dd b) := by
  have hl : (growR dd b).length = b.length := List.length_map _
  refine ⟨by have := h.la; omega, fun r hr => ?_⟩
  obtain ⟨s, hs, rfl⟩ := growR_in hr
  have := h.hb s hs
  simp only
  push_cast
  omega
theorem mk_next {k : Nat} {a b r : List R} (h : MkI k a b) (hl : r.length ≤ 40000) (hr : ∀ s ∈ r, (-34359738368 ≤ s.x ∧ s.x ≤ 34359738368) ∧ (-34359738368 ≤ s.y ∧ s.y ≤ 34359738368) ∧ (-34359738368 ≤ s.w ∧ s.w ≤ 34359738368) ∧ -34359738368 ≤ s.h ∧ s.h ≤ 34359738368) : MkI (k + 1) (a ++ b) r := by
  have hl2 : (a ++ b).length = a.length + b.length := List.length_append
  refine ⟨by have := h.la; omega, fun s hs => ?_⟩
  have := hr s hs
  push_cast
  omega
theorem spR_in {xs : List Int} (op : Bool → Bool → Bool) (la lb : List R) (y y1 : Int) (hx : ∀ x ∈ xs, -16777216 ≤ x ∧ x ≤ 16777216) (h0 : -16777216 ≤ y ∧ y ≤ 16777216) (h1 : -16777216 ≤ y1 ∧ y1 ≤ 16777216) :
    ∀ s ∈ (rowSp op la lb xs y).map (spR y y1), (-34359738368 ≤ s.x ∧ s.x ≤ 34359738368) ∧ (-34359738368 ≤ s.y ∧ s.y ≤ 34359738368) ∧ (-34359738368 ≤ s.w ∧ s.w ≤ 34359738368) ∧ -34359738368 ≤ s.h ∧ s.h ≤ 34359738368 := by
  intro s hs
  obtain ⟨t, ht, rfl⟩ := List.mem_map.1 hs
  unfold rowSp at ht
  rw [← accK_all] at ht
  obtain ⟨a1, a2⟩ := acc_in _ xs _ t ht
  have b1 := hx _ a1
  have b2 := hx _ a2
  unfold spR
  simp only
  omega
theorem eX_in {l : List R} (h : ∀ r ∈ l, chkR r) : ∀ x ∈ eX l, -16777216 ≤ x ∧ x ≤ 16777216 := by
  intro x hx
  obtain ⟨r, hr, h1⟩ := List.mem_flatMap.1 (mem_esort.1 hx)
  have := h r hr
  unfold chkR at this
  simp at h1
  omega
theorem eY_in {l : List R} (h : ∀ r ∈ l, chkR r) : ∀ x ∈ eY l, -16777216 ≤ x ∧ x ≤ 16777216 := by
  intro x hx
  obtain ⟨r, hr, h1⟩ := List.mem_flatMap.1 (mem_esort.1 hx)
  have := h r hr
  unfold chkR at this
  simp at h1
  omega
theorem chk64 {r : R} (h : chkR r) : I64 r := by
  unfold chkR at h
  unfold I64
  omega
end Go.Proofs.YtjjdgbhplechbaaGreatDoor.Wk
/- The walk of the reference's make1. -/
namespace Go.Proofs.YtjjdgbhplechbaaGreatDoor.Wk
open Go.RowKit Go.Proofs.YtjjdgbhplechbaaGreatDoor.Kit Go.Proofs.YtjjdgbhplechbaaGreatDoor.Reg Go.Proofs.YtjjdgbhplechbaaGreatDoor.Rect

def Sep (u v : Value) : Prop := ∀ g, u.ownBlock = some g → v.ownBlock ≠ some g
theorem own_sep {w w' : World} {base : Nat} {e : TypeId} {sz n : Nat} {u v : Value} {x : List Value} (h : w.ownsRow base e sz u n x) (hg : w.grownBy w' v.ownBlock) (hs : Sep u v) : w'.ownsRow base e sz u n x :=
  h.kept hg (by
    cases hu : u.ownBlock with
    | none => exact .inl rfl
    | some g => exact .inr (fun he => hs g hu he.symm))
theorem own_apart {w w' : World} {b1 b2 : Nat} {e e' : TypeId} {s s' n m : Nat} {u v : Value} {x y : List Value} (h : w.ownsRow b1 e s u n x) (k : w'.ownsRow b2 e' s' v m y) (hle : w.heap.size ≤ b2) : Sep u v ∧ Sep v u := by
  refine ⟨fun g hg he => ?_, fun g hg he => ?_⟩
  · have := (h.lt g hg).2
    have := (k.lt g he).1
    omega
  · have := (h.lt g he).2
    have := (k.lt g hg).1
    omega
set_option maxRecDepth 100000 in
set_option maxHeartbeats 8000000 in
theorem rfMake1_any (A B : Option Addr) (c d : Nat) (la lb : List R) (o : Int) (w : World) (na : la.length ≤ 10000) (nb : lb.length ≤ 10000) (hca : ∀ r ∈ la, chkR r) (hcb : ∀ r ∈ lb, chkR r) (hA : Rds w w.heap.size 4 A la.length (la.flatMap rC)) (hB : Rds w w.heap.size 4 B lb.length (lb.flatMap rC)) :
    Calls Tryz.prog 36 #[.slice A la.length c, .slice B lb.length d, .int .i64 o] w (RcP w (makeR (opN o) la lb)) := by
  obtain ⟨iR, hiR, zR0, zR1, zR2⟩ := info_parts infoR
  have hcc : ∀ r ∈ la ++ lb, chkR r := by
    intro r hr
    rcases List.mem_append.1 hr with h | h
    · exact hca r h
    · exact hcb r h
  have hmk : makeR (opN o) la lb = (mkK (rowSp (opN o) la lb (eX (la ++ lb))) (eY (la ++ lb)) (gaps (eY (la ++ lb))).length).1 ++ (mkK (rowSp (opN o) la lb (eX (la ++ lb))) (eY (la ++ lb)) (gaps (eY (la ++ lb))).length).2 := by
    unfold makeR mkK; rw [List.take_length]; rfl
  have hXI := eX_in hcc
  have hYI := eY_in hcc
  have hXl := eX_len (la ++ lb)
  have hYl := eY_len (la ++ lb)
  have h64a : ∀ r ∈ la, I64 r := fun r h => chk64 (hca r h)
  have h64b : ∀ r ∈ lb, I64 r := fun r h => chk64 (hcb r h)
  rw [List.length_append] at hXl hYl
  go_enter Tryz.func36, Tryz.ntmps36
  go_wp2_with fail
  refine (rfEdges_any A B c d la lb w (by omega) (by omega) hca hcb hA hB).mono ?_
  rintro e w1 ⟨vx, vy, rfl, hX, hY, hb1⟩
  obtain ⟨XA, xc, rfl, -⟩ := own_form hX
  obtain ⟨YA, yc, rfl, -⟩ := own_form hY
  have hXr := Rds.own hX
  have hYr := Rds.own hY
  have hA1 := (hA.be hb1).more hb1.size
  have hB1 := (hB.be hb1).more hb1.size
  have HMK := Lib.hid hmk
  clear hmk hX hY hA hB hca hcb hcc
  generalize eX (la ++ lb) = xs at *
  generalize eY (la ++ lb) = es at *
  have HROW := Lib.hid (fun (y y1 : Int) (h0 : -16777216 ≤ y ∧ y ≤ 16777216) (h1 : -16777216 ≤ y1 ∧ y1 ≤ 16777216) (W : World) (hW : Below w1.heap.size w1 W) =>
    rfRow_any A B XA c d xc la lb xs y y1 o W (by omega) (by omega) h64a h64b (by omega) (fun x hx => by have := hXI x hx; omega) (by omega) (by omega) ((hA1.be hW).more hW.size) ((hB1.be hW).more hW.size) ((hXr.be hW).more hW.size))
  have HSP := Lib.hid (fun (y y1 : Int) (h0 : -16777216 ≤ y ∧ y ≤ 16777216) (h1 : -16777216 ≤ y1 ∧ y1 ≤ 16777216) => spR_in (opN o) la lb y y1 hXI h0 h1)
  have HRL := Lib.hid (fun (y y1 : Int) => row_len2 (xs := xs) (opN o) la lb y y1)
  have HYI := Lib.hid hYI
  clear hA1 hB1 hXr h64a h64b hXI hYI
  generalize rowSp (opN o) la lb xs = G at *
  have hgl := gaps_len' es
  go_wp2_with fail
  go_loopg [9, 10, 11] (gaps es).length (fun gd out last i wr => ∃ (k : Nat) (a b : List R), k + gd = (gaps es).length ∧ i = .int .i64 k ∧ Hid (mkK G es k = (a, b)) ∧ Hid (MkI k a b) ∧ wr.ownsRow w1.heap.size 64 4 out a.length (a.flatMap rC) ∧ wr.ownsRow w1.heap.size 64 4 last b.length (b.flatMap rC) ∧ Hid (Sep out last) ∧ Below w1.heap.size w1 wr)
  case atStart => exact ⟨0, [], [], by omega, rfl, Lib.hid rfl, Lib.hid ⟨by simp, by simp⟩, World.ownsRow_nil _ _ _ _, World.ownsRow_nil _ _ _ _, Lib.hid (fun g h => by simp [Value.ownBlock] at h), Below.refl _ _⟩
  case round =>
    obtain ⟨k, a, b, hk, rfl, HM, HI, hown, hownL, HSE, hbr⟩ := hrel
    obtain ⟨OA, oc, rfl, -⟩ := own_form hown
    obtain ⟨LA, lc, rfl, -⟩ := own_form hownL
    have hIl := HI.out.la
    by_cases hlt : k < (gaps es).length
    · have hk1 : (k : Int) + 1 < (es.length : Int) := by omega
      have i0 : (0 : Int) ≤ (k : Int) := by omega
      have i1 : (k : Int) < (es.length : Int) := by omega
      have hw1 : IntKind.i64.wrap ((k : Int) + 1) = (k : Int) + 1 := i64_in (by omega) (by omega)
      have hw2 : (0 : Int) ≤ (k : Int) + 1 := by omega
      have hw3 : ((k : Int) + 1).toNat = k + 1 := by omega
      have hel : 0 < es.length := by omega
      have hk0 : k < es.length := by omega
      have hk2 : k + 1 < es.length := by omega
      obtain ⟨ad, rfl, hbl, hcell⟩ := (hYr.be hbr).2 hel
      have c0 : wr.drew.cell? (ad.add k) = some (iC (es[k]'hk0)) := hcell k _ (by rw [List.getElem?_map, List.getElem?_eq_getElem (by omega)]; rfl)
      have c1 : wr.drew.cell? ⟨ad.block, ad.off + (k + 1), none⟩ = some (iC (es[k + 1]'hk2)) := by
        rw [← add_nx]
        exact hcell (k + 1) _ (by rw [List.getElem?_map, List.getElem?_eq_getElem (by omega)]; rfl)
      have hgk := gaps_get es k hlt
      have HS := Lib.hid (mkK_succ G es k hlt)
      have hy0 := HYI.out (es[k]'hk0) (List.getElem_mem _)
      have hy1 := HYI.out (es[k + 1]'hk2) (List.getElem_mem _)
      have hE0 : ∀ W : World, Below w1.heap.size w1 W → W.cell? (ad.add k) = some (iC (es[k]'hk0)) := fun W hW => by
        obtain ⟨ad2, he2, _, hc2⟩ := (hYr.be hW).2 hel
        obtain rfl : ad = ad2 := by simpa using he2
        exact hc2 k _ (by rw [List.getElem?_map, List.getElem?_eq_getElem hk0]; rfl)
      have hE1 : ∀ W : World, Below w1.heap.size w1 W → W.cell? ⟨ad.block, ad.off + (k + 1), none⟩ = some (iC (es[k + 1]'hk2)) := fun W hW => by
        obtain ⟨ad2, he2, _, hc2⟩ := (hYr.be hW).2 hel
        obtain rfl : ad = ad2 := by simpa using he2
        rw [← add_nx]
        exact hc2 (k + 1) _ (by rw [List.getElem?_map, List.getElem?_eq_getElem hk2]; rfl)
      have HE0 := Lib.hid hE0
      have HE1 := Lib.hid hE1
      clear hcell hE0 hE1
      generalize (gaps es)[k] = gp at *
      generalize es[k]'hk0 = y at *
      generalize es[k + 1]'hk2 = y1 at *
      subst hgk
      simp only at HS
      have HR := Lib.hid (fun (W : World) (hW : Below wr.heap.size wr W) => HROW.out y y1 hy0 hy1 W (bl_step hbr hW))
      have HSr := Lib.hid (HSP.out y y1 hy0 hy1)
      have hrl := HRL.out y y1
      generalize (G y).map (spR y y1) = r at *
      have hadb1 : ad.block < wr.heap.size := Nat.lt_of_lt_of_le hbl hbr.size
      have hadb : (ad.add k).block < wr.heap.size := by rw [add_blk]; exact hadb1
      have hbw : Below wr.heap.size wr wr.drew := bl_drew (Below.refl _ _)
      have hs1 := hbr.size
      go_wp2_with fail
      go_region_held3 (fun w' => w'.cell? (ad.add k) = some (iC y) ∧ w'.cell? ⟨ad.block, ad.off + (k + 1), none⟩ = some (iC y1)) (first | (with_reducible exact ⟨c0n, c1n⟩) | (with_reducible exact ⟨c0, c1⟩) | go_keep)
        (((with_reducible refine (HR.out _ hbw).mono ?_); rintro e wn ⟨vr, rfl, hownr, hbn⟩; obtain ⟨RA, rc, rfl, _⟩ := own_form hownr; have c0n : wn.cell? (ad.add k) = some (iC y) := (hbn.cell (p := ad.add k) hadb).trans c0; have c1n : wn.cell? ⟨ad.block, ad.off + (k + 1), none⟩ = some (iC y1) := (hbn.cell (p := ⟨ad.block, ad.off + (k + 1), none⟩) hadb1).trans c1))
      have hbn2 : Below wr.heap.size wr wn := bl_step hbw hbn
      have hownN := own_be hown hbn2
      have hownLN := own_be hownL hbn2
      have hbc := bl_step hbr hbn2
      have hz := hbc.size
      go_wp2_with fail
      refine (rfAlike_any LA RA lc rc b r wn (by omega) (by omega) (fun s hs => by have := HI.out.hb s hs; unfold Sm35; omega) (Rds.own hownLN) (Rds.own hownr)).mono ?_
      rintro e w4 ⟨rfl, hb4⟩
      have hown4 := own_be hownN hb4
      have hownL4 := own_be hownLN hb4
      have hownr4 := own_be hownr hb4
      have hbc4 := bl_step hbc hb4
      have hz4 := hbc4.size
      have hap := own_apart hown hownr (Nat.le_refl _)
      have hrlt := hownr.lt
      have hz5 := hb4.size
      have hownr5 := own_lower hownr4 (show w1.heap.size ≤ wr.drew.heap.size from hs1)
      clear hownN hownLN hownr hbc hown hownr4 hbn hbn2 hbw c0n c1n c0 c1
      cases hal : alikeF b r with
      | false =>
        have HAL := Lib.hid hal
        clear hal
        go_wp2_with (at_builtin; go_must (refine wpList_app _ rfl (.tmp 70) (.tmp 71) _ rfl w1.heap.size 64 iR _ 4 32 Tryz.underlying25 hiR zR0 zR1 zR2 rfl (by omega) (.slice OA a.length oc) a.length (a.flatMap rC) rfl hown4 w4.heap.size LA b.length lc (b.flatMap rC) rfl (Rds.own hownL4) (by intro u hu; obtain ⟨q, _, hq⟩ := List.mem_flatMap.1 hu; simp [rC] at hq; rcases hq with rfl | rfl | rfl | rfl <;> rfl) (by simp only [maxLen]; omega) (by omega) (by omega) ?_); intro v5 w5 hown5 hg5 hat5)
        go_roundg (gk - 1)
        case measure => omega
        case rel =>
          refine ⟨k + 1, a ++ b, r, by omega, by go_num, Lib.hid (by rw [HS.out, HM.out]; unfold mkStep; rw [if_neg (by simp [HAL.out])]), Lib.hid (mk_next HI.out (by omega) HSr.out), by rw [List.length_append, List.flatMap_append]; exact hown5, own_sep hownr5 hg5 hap.2, Lib.hid (fun g hg he => ?_), Below.grown hbc4 hg5 hz4 (fun g hg => (hown4.lt g hg).1)⟩
          rcases hat5 with h5 | h5
          · exact hap.1 g (by rw [← h5]; exact hg) he
          · have := (hrlt g he).2
            rw [h5] at hg
            have : w4.heap.size = g := by simpa using hg
            omega
      | true =>
        have HAL := Lib.hid hal
        clear hal hownr5 hap hrlt
        have hI2 := mk_grow HI.out (dd := y1 - y) (by omega)
        have HI2 := Lib.hid hI2
        have HIB := Lib.hid HI.out.hb
        have hM2 : mkK G es (k + 1) = (a, growR (y1 - y) b) := by rw [HS.out, HM.out]; unfold mkStep; rw [if_pos HAL.out]
        have HM2 := Lib.hid hM2
        clear hM2 hI2 HM HS HI
        obtain ⟨w0, rfl⟩ : ∃ x : World, x = wr := ⟨_, rfl⟩
        obtain ⟨gg, rfl⟩ : ∃ x, x = gk := ⟨gk, rfl⟩
        have hYr0 := hYr
        go_wp2_with fail
        go_loopg [13] b.length (fun gd i wr => ∃ j : Nat, j + gd = b.length ∧ i = .int .i64 j ∧ wr.ownsRow w1.heap.size 64 4 (.slice LA b.length lc) b.length ((grN (y1 - y) j b).flatMap rC) ∧ wr.ownsRow w1.heap.size 64 4 (.slice OA a.length oc) a.length (a.flatMap rC) ∧ Below w1.heap.size w1 wr)
        case atStart => exact ⟨0, by omega, rfl, hownL4, hown4, hbc4⟩
        case round =>
          obtain ⟨j, hj, rfl, hoL, hoO, hbr'⟩ := hrel
          by_cases hlj : j < b.length
          · obtain ⟨LA', lc', hLe, hform⟩ := own_form hoL
            obtain ⟨g, rfl, hg1, hg2⟩ := hform (by omega)
            obtain ⟨rfl, rfl⟩ : LA = some ⟨g, 0, none⟩ ∧ lc = lc' := by simpa using hLe
            have ch : wr.cell? ⟨g, j * 4 + 3, none⟩ = some (iC b[j].h) := by
              have hgj : j < (grN (y1 - y) j b).length := by rw [grN_len]; exact hlj
              have he : (grN (y1 - y) j b)[j] = b[j] := by
                have := grN_at (y1 - y) j b hlj
                rw [List.getElem?_eq_getElem hgj] at this
                exact Option.some.inj this
              rw [hoL.cellAt (j * 4 + 3) (by omega), flat_at rC 4 rC_len _ j hgj 3 (by omega), he]
              simp [rC]
            have cf := hoL.frozenAt (j * 4 + 3)
            have hbj := HIB.out b[j] (List.getElem_mem hlj)
            have hst : ∀ W : World, W.ownsRow w1.heap.size 64 4 (.slice (some ⟨g, 0, none⟩) b.length lc) b.length ((grN (y1 - y) j b).flatMap rC) → (W.setCell ⟨g, j * 4 + 3, none⟩ (iC (b[j].h + y1 - y))).ownsRow w1.heap.size 64 4 (.slice (some ⟨g, 0, none⟩) b.length lc) b.length ((grN (y1 - y) (j + 1) b).flatMap rC) := by
              intro W hW
              have s1 := (World.ownsRow.stored (w := W) hW (j * 4 + 3) (iC (b[j].h + (y1 - y)))).1
              rw [grN_set _ _ _ hlj] at s1
              rw [show b[j].h + y1 - y = b[j].h + (y1 - y) by omega]
              exact s1
            have HST := Lib.hid hst
            have hso : ∀ (W : World) (u : Value), W.ownsRow w1.heap.size 64 4 (.slice OA a.length oc) a.length (a.flatMap rC) → (W.setCell ⟨g, j * 4 + 3, none⟩ u).ownsRow w1.heap.size 64 4 (.slice OA a.length oc) a.length (a.flatMap rC) := by
              intro W u hW
              exact own_sep (v := .slice (some ⟨g, 0, none⟩) b.length lc) hW (gb_set W g (j * 4 + 3) u) HSE.out
            have HSO := Lib.hid hso
            obtain ⟨ad', hae, hbl', hcell⟩ := (hYr.be hbr').2 hel
            obtain rfl : ad' = ad := by simpa using hae.symm
            have e0 : wr.cell? (ad'.add k) = some (iC y) := HE0.out wr hbr'
            have e1 : wr.cell? ⟨ad'.block, ad'.off + (k + 1), none⟩ = some (iC y1) := HE1.out wr hbr'
            clear hst hso hcell hae hLe hform
            generalize b[j].h = h at *
            have hwa : IntKind.i64.wrap (h + y1) = h + y1 := i64_in (by omega) (by omega)
            have hwb : IntKind.i64.wrap (h + y1 - y) = h + y1 - y := i64_in (by omega) (by omega)
            have j0 : (0 : Int) ≤ (j : Int) := by omega
            have j1 : (j : Int) < (b.length : Int) := by omega
            have hga : g ≠ ad'.block := by omega
            have hgb : ¬ (ad'.block = g) := by omega
            have hgc : g ≠ (ad'.add k).block := by rw [add_blk]; exact hga
            have hgd : ¬ ((ad'.add k).block = g) := fun h => hgc h.symm
            go_wp2_with fail
            go_region_law (fail)
            all_goals
              go_wp2
              go_roundg (gk - 1)
              case measure => omega
              case rel => exact ⟨j + 1, by omega, by go_num, HST.out _ (by with_reducible repeat (first | exact hoL | apply World.ownsRow.drew | apply own_drN)), HSO.out _ _ (by with_reducible repeat (first | exact hoO | apply World.ownsRow.drew | apply own_drN)), (by with_reducible repeat (first | exact hbr' | apply bl_drew | apply bl_drewN | refine bl_set ?_ (by show w1.heap.size ≤ g; exact hg1) _))⟩
          · obtain rfl : j = b.length := by omega
            rw [grN_all] at hoL
            have hgl2 : (growR (y1 - y) b).length = b.length := List.length_map _
            go_wp2_with fail
            go_roundg (gg - 1)
            case measure => omega
            case rel => exact ⟨k + 1, a, growR (y1 - y) b, by omega, by go_num, HM2, HI2, hoO, by rw [hgl2]; exact hoL, Lib.hid (by have := HSE.out; exact fun g hg => this g hg), hbr'⟩
    · have hkg : k = (gaps es).length := by omega
      have HK := Lib.hid hkg
      have hd : ¬ ((k : Int) + 1 < (es.length : Int)) := by omega
      have hw : IntKind.i64.wrap ((k : Int) + 1) = (k : Int) + 1 := i64_in (by omega) (by omega)
      clear hkg
      go_wp2_with (at_builtin; go_must (refine wpList_app _ rfl (.tmp 74) (.tmp 75) _ rfl w1.heap.size 64 iR _ 4 32 Tryz.underlying25 hiR zR0 zR1 zR2 rfl (by omega) (.slice OA a.length oc) a.length (a.flatMap rC) rfl hown wr.heap.size LA b.length lc (b.flatMap rC) rfl (Rds.own hownL) (by intro u hu; obtain ⟨q, _, hq⟩ := List.mem_flatMap.1 hu; simp [rC] at hq; rcases hq with rfl | rfl | rfl | rfl <;> rfl) (by simp only [maxLen]; omega) (by omega) (by have := hbr.size; omega) ?_); intro v5 w5 hown5 hg5 hat5)
      go_ret
      refine ⟨v5, rfl, ?_, bl_step hb1 (Below.grown hbr hg5 hbr.size (fun g hg => (hown.lt g hg).1))⟩
      rw [HMK.out, ← HK.out, HM.out, List.length_append, List.flatMap_append]
      exact own_lower hown5 hb1.size
end Go.Proofs.YtjjdgbhplechbaaGreatDoor.Wk
/- Plain: how long what is made can be, and where its edges lie. -/
namespace Go.Proofs.YtjjdgbhplechbaaGreatDoor.Wk
open Go.RowKit Go.Proofs.YtjjdgbhplechbaaGreatDoor.Kit Go.Proofs.YtjjdgbhplechbaaGreatDoor.Reg Go.Proofs.YtjjdgbhplechbaaGreatDoor.Rect

end Go.Proofs.YtjjdgbhplechbaaGreatDoor.Wk
