/- The reference's add and edges. -/
import Derived.Test.YtjjdgbhplechbaaGreatDoorRg9
import Derived.Test.YtjjdgbhplechbaaGreatDoorRgJ
import Derived.Test.YtjjdgbhplechbaaGreatDoorRectWalk3
set_option linter.unusedVariables false
set_option linter.unusedSimpArgs false
namespace Go.Proofs.YtjjdgbhplechbaaGreatDoor.Wk
open Go.RowKit Go.Proofs.YtjjdgbhplechbaaGreatDoor.Kit Go.Proofs.YtjjdgbhplechbaaGreatDoor.Reg Go.Proofs.YtjjdgbhplechbaaGreatDoor.Rect

/-- what is still to come of add -/
def adR (f : Bool) (l : List Int) (v : Int) : List Int := if f then l else addE l v
theorem adR_cons (f : Bool) (a : Int) (r : List Int) (v : Int) : adR f (a :: r) v = if f then a :: adR true r v else if v < a then v :: a :: adR true r v else if v = a then a :: adR true r v else a :: adR false r v := by
  cases f <;> simp [adR, addE]
theorem len1 (O : List Int) : ((O.map iC).length) = O.length := by simp
set_option maxHeartbeats 4000000 in
theorem rfAdd_any (A : Option Addr) (c : Nat) (l : List Int) (v : Int) (w : World) (hn : l.length ≤ 1000000000) (hA : Rds w w.heap.size 1 A l.length (l.map iC)) :
    Calls Tryz.prog 75 #[.slice A l.length c, .int .i64 v] w fun e w' => ∃ v', e = .returned v' ∧ w'.ownsRow w.heap.size 3 1 v' (addE l v).length ((addE l v).map iC) ∧ Below w.heap.size w w' := by
  obtain ⟨iI, hiI, zI0, zI1, zI2⟩ := info_parts infoI
  go_enter Tryz.func75, Tryz.ntmps75
  go_wp2_with fail
  go_loopg [5, 6, 7] l.length (fun gd out f i wr => ∃ (k : Nat) (b : Bool) (O : List Int), k + gd = l.length ∧ i = .int .i64 k ∧ f = .bool b ∧ O.length ≤ 2 * k ∧ Hid (addE l v = O ++ adR b (l.drop k) v) ∧ wr.ownsRow w.heap.size 3 1 out O.length (O.map iC) ∧ Below w.heap.size w wr)
  case atStart => exact ⟨0, false, [], by omega, rfl, rfl, by simp, Lib.hid rfl, World.ownsRow_nil _ _ _ _, Below.refl _ _⟩
  case round =>
    obtain ⟨k, b, O, hk, rfl, rfl, hO, HO, hown, hbr⟩ := hrel
    obtain ⟨OA, oc, rfl, hform⟩ := own_form hown
    clear hform
    by_cases hlt : k < l.length
    · obtain ⟨ad, rfl, hbl, hcell⟩ := (hA.be hbr).2 (by omega)
      have c0 : wr.cell? (ad.add k) = some (iC l[k]) := hcell k _ (by rw [List.getElem?_map, List.getElem?_eq_getElem hlt]; rfl)
      have hd := adR_cons b l[k] (l.drop (k + 1)) v
      rw [← List.drop_eq_getElem_cons hlt] at hd
      have HD := Lib.hid hd
      clear hd
      clear hcell
      generalize l[k] = x at *
      cases b with
      | true =>
        have H1 := Lib.hid (show addE l v = (O ++ [x]) ++ adR true (l.drop (k + 1)) v from by rw [HO.out, HD.out]; simp)
        clear HO HD
        go_wp2_with (at_builtin; go_must (refine wpList_app _ rfl (.tmp 34) (.tmp 39) _ rfl w.heap.size 3 iI _ 1 8 Tryz.underlying96 hiI zI0 zI1 zI2 rfl (by omega) _ _ _ rfl (hown.alloc _) (wr.heap.size + 1) (some ⟨wr.heap.size, 0, none⟩) 1 1 [iC x] rfl (Rds.block (cs := #[iC x]) (Bk.new' _ _ _ (by simp)) rfl (by omega)) (by intro u hu; simp at hu; rcases hu with rfl; rfl) (by simp only [maxLen]; omega) (by omega) (by have := hbr.size; simp; omega) ?_); intro v2 w2 hown2 hg2 hat2)
        go_roundg (gk - 1)
        case measure => omega
        case rel => exact ⟨k + 1, true, O ++ [x], by omega, by go_num, rfl, by simp; omega, H1, by simpa using hown2, (bl_alloc hbr _).grown hg2 (by have := hbr.size; simp; omega) (fun g hg => (hown.lt g hg).1)⟩
      | false =>
        by_cases h1 : v < x
        · have H1 := Lib.hid (show addE l v = (O ++ [v] ++ [x]) ++ adR true (l.drop (k + 1)) v from by rw [HO.out, HD.out]; simp [h1])
          have hle : v ≤ x := by omega
          clear HO HD
          go_wp2_with (first | (at_builtin; (refine wpList_app _ rfl (.tmp 30) (.tmp 32) _ rfl w.heap.size 3 iI _ 1 8 Tryz.underlying96 hiI zI0 zI1 zI2 rfl (by omega) _ _ _ rfl (hown.alloc _) (wr.heap.size + 1) (some ⟨wr.heap.size, 0, none⟩) 1 1 [iC v] rfl (Rds.block (cs := #[iC v]) (Bk.new' _ _ _ (by simp)) rfl (by omega)) (by intro u hu; simp at hu; rcases hu with rfl; rfl) (by simp only [maxLen]; omega) (by omega) (by have := hbr.size; simp; omega) ?_); intro v2 w2 hown2 hg2 hat2; have hb2 : Below w.heap.size w w2 := (bl_alloc hbr _).grown hg2 (by have := hbr.size; simp; omega) (fun g hg => (hown.lt g hg).1); have c2 : w2.cell? (ad.add k) = some (iC x) := ((hb2.cell (p := ad.add k) (by rw [add_blk]; exact hbl)).trans ((hbr.cell (p := ad.add k) (by rw [add_blk]; exact hbl)).symm.trans c0))) | (at_builtin; (refine wpList_app _ rfl (.tmp 34) (.tmp 39) _ rfl w.heap.size 3 iI _ 1 8 Tryz.underlying96 hiI zI0 zI1 zI2 rfl (by omega) _ _ _ rfl (hown2.alloc _) (w2.heap.size + 1) (some ⟨w2.heap.size, 0, none⟩) 1 1 [iC x] rfl (Rds.block (cs := #[iC x]) (Bk.new' _ _ _ (by simp)) rfl (by omega)) (by intro u hu; simp at hu; rcases hu with rfl; rfl) (by simp only [maxLen]; omega) (by omega) (by have := hb2.size; simp; omega) ?_); intro v3 w3 hown3 hg3 hat3))
          go_roundg (gk - 1)
          case measure => omega
          case rel => exact ⟨k + 1, true, O ++ [v] ++ [x], by omega, by go_num, rfl, by simp; omega, H1, by simpa using hown3, (bl_alloc hb2 _).grown hg3 (by have := hb2.size; simp; omega) (fun g hg => (hown2.lt g hg).1)⟩
        · by_cases h2 : v = x
          · have H1 := Lib.hid (show addE l v = (O ++ [x]) ++ adR true (l.drop (k + 1)) v from by rw [HO.out, HD.out]; simp [h1, h2])
            have hle : v ≤ x := by omega
            have HE := Lib.hid h2
            clear HO HD h2
            go_wp2_with (at_builtin; go_must (refine wpList_app _ rfl (.tmp 34) (.tmp 39) _ rfl w.heap.size 3 iI _ 1 8 Tryz.underlying96 hiI zI0 zI1 zI2 rfl (by omega) _ _ _ rfl (hown.alloc _) (wr.heap.size + 1) (some ⟨wr.heap.size, 0, none⟩) 1 1 [iC x] rfl (Rds.block (cs := #[iC x]) (Bk.new' _ _ _ (by simp)) rfl (by omega)) (by intro u hu; simp at hu; rcases hu with rfl; rfl) (by simp only [maxLen]; omega) (by omega) (by have := hbr.size; simp; omega) ?_); intro v2 w2 hown2 hg2 hat2)
            go_roundg (gk - 1)
            case measure => omega
            case rel => exact ⟨k + 1, true, O ++ [x], by omega, by go_num, rfl, by simp; omega, H1, by simpa using hown2, (bl_alloc hbr _).grown hg2 (by have := hbr.size; simp; omega) (fun g hg => (hown.lt g hg).1)⟩
          · have H1 := Lib.hid (show addE l v = (O ++ [x]) ++ adR false (l.drop (k + 1)) v from by rw [HO.out, HD.out]; simp [h1, h2])
            have hle : ¬ (v ≤ x) := by omega
            clear HO HD
            go_wp2_with (at_builtin; go_must (refine wpList_app _ rfl (.tmp 34) (.tmp 39) _ rfl w.heap.size 3 iI _ 1 8 Tryz.underlying96 hiI zI0 zI1 zI2 rfl (by omega) _ _ _ rfl (hown.alloc _) (wr.heap.size + 1) (some ⟨wr.heap.size, 0, none⟩) 1 1 [iC x] rfl (Rds.block (cs := #[iC x]) (Bk.new' _ _ _ (by simp)) rfl (by omega)) (by intro u hu; simp at hu; rcases hu with rfl; rfl) (by simp only [maxLen]; omega) (by omega) (by have := hbr.size; simp; omega) ?_); intro v2 w2 hown2 hg2 hat2)
            go_roundg (gk - 1)
            case measure => omega
            case rel => exact ⟨k + 1, false, O ++ [x], by omega, by go_num, rfl, by simp; omega, H1, by simpa using hown2, (bl_alloc hbr _).grown hg2 (by have := hbr.size; simp; omega) (fun g hg => (hown.lt g hg).1)⟩
    · obtain rfl : k = l.length := by omega
      rw [List.drop_length] at HO
      cases b with
      | true =>
        go_wp2_with fail
        go_ret
        refine ⟨_, rfl, ?_, hbr⟩
        rw [HO.out]
        simpa [adR] using hown
      | false =>
        go_wp2_with (at_builtin; go_must (refine wpList_app _ rfl (.tmp 43) (.tmp 45) _ rfl w.heap.size 3 iI _ 1 8 Tryz.underlying96 hiI zI0 zI1 zI2 rfl (by omega) _ _ _ rfl (hown.alloc _) (wr.heap.size + 1) (some ⟨wr.heap.size, 0, none⟩) 1 1 [iC v] rfl (Rds.block (cs := #[iC v]) (Bk.new' _ _ _ (by simp)) rfl (by omega)) (by intro u hu; simp at hu; rcases hu with rfl; rfl) (by simp only [maxLen]; omega) (by omega) (by have := hbr.size; simp; omega) ?_); intro v2 w2 hown2 hg2 hat2)
        go_ret
        refine ⟨_, rfl, ?_, (bl_alloc hbr _).grown hg2 (by have := hbr.size; simp; omega) (fun g hg => (hown.lt g hg).1)⟩
        rw [HO.out]
        simpa [adR, addE] using hown2
end Go.Proofs.YtjjdgbhplechbaaGreatDoor.Wk
/- The reference's edges. -/
namespace Go.Proofs.YtjjdgbhplechbaaGreatDoor.Wk
open Go.RowKit Go.Proofs.YtjjdgbhplechbaaGreatDoor.Kit Go.Proofs.YtjjdgbhplechbaaGreatDoor.Reg Go.Proofs.YtjjdgbhplechbaaGreatDoor.Rect

def eX (l : List R) : List Int := esort (l.flatMap fun r => [r.x, r.x + r.w])
def eY (l : List R) : List Int := esort (l.flatMap fun r => [r.y, r.y + r.h])
theorem eX_snoc (l : List R) (r : R) : eX (l ++ [r]) = addE (addE (eX l) r.x) (r.x + r.w) := by
  unfold eX esort; rw [List.flatMap_append, List.foldl_append]; rfl
theorem eY_snoc (l : List R) (r : R) : eY (l ++ [r]) = addE (addE (eY l) r.y) (r.y + r.h) := by
  unfold eY esort; rw [List.flatMap_append, List.foldl_append]; rfl
theorem two_len (f g : R → Int) (l : List R) : (l.flatMap fun r => [f r, g r]).length = 2 * l.length := by
  induction l with
  | nil => rfl
  | cons a l ih => rw [List.flatMap_cons, List.length_append, ih]; simp; omega
theorem eX_len (l : List R) : (eX l).length ≤ 2 * l.length := by unfold eX; have := (esort_len (l.flatMap fun r => [r.x, r.x + r.w])).1; rwa [two_len] at this
theorem eY_len (l : List R) : (eY l).length ≤ 2 * l.length := by unfold eY; have := (esort_len (l.flatMap fun r => [r.y, r.y + r.h])).1; rwa [two_len] at this
theorem addE_len (l : List Int) (v : Int) : (addE l v).length ≤ l.length + 1 := by
  induction l with
  | nil => simp [addE]
  | cons a r ih =>
    rw [addE]
    split
    · simp
    · split
      · simp
      · simpa using ih
set_option maxRecDepth 100000 in
set_option maxHeartbeats 8000000 in
theorem rfEdges_any (A B : Option Addr) (c d : Nat) (la lb : List R) (w : World) (na : la.length ≤ 1000000) (nb : lb.length ≤ 1000000) (hca : ∀ r ∈ la, chkR r) (hcb : ∀ r ∈ lb, chkR r) (hA : Rds w w.heap.size 4 A la.length (la.flatMap rC)) (hB : Rds w w.heap.size 4 B lb.length (lb.flatMap rC)) :
    Calls Tryz.prog 53 #[.slice A la.length c, .slice B lb.length d] w fun e w' => ∃ v1 v2, e = .returned (.tuple #[v1, v2]) ∧ w'.ownsRow w.heap.size 3 1 v1 (eX (la ++ lb)).length ((eX (la ++ lb)).map iC) ∧ w'.ownsRow w.heap.size 3 1 v2 (eY (la ++ lb)).length ((eY (la ++ lb)).map iC) ∧ Below w.heap.size w w' := by
  have hw0 : IntKind.i64.wrap ((la.length : Int) + (lb.length : Int)) = (la.length : Int) + (lb.length : Int) := i64_in (by omega) (by omega)
  go_enter Tryz.func53, Tryz.ntmps53
  go_wp2_with fail
  go_loopg [6, 7, 8] (la.length + lb.length) (fun gd xs ys i wr => ∃ (k : Nat) (X Y : List Int), k + gd = la.length + lb.length ∧ i = .int .i64 k ∧ Hid (X = eX ((la ++ lb).take k)) ∧ Hid (Y = eY ((la ++ lb).take k)) ∧ X.length ≤ 2 * k ∧ Y.length ≤ 2 * k ∧ wr.ownsRow w.heap.size 3 1 xs X.length (X.map iC) ∧ wr.ownsRow w.heap.size 3 1 ys Y.length (Y.map iC) ∧ Below w.heap.size w wr)
  case atStart => exact ⟨0, [], [], by omega, rfl, Lib.hid rfl, Lib.hid rfl, by simp, by simp, World.ownsRow_nil _ _ _ _, World.ownsRow_nil _ _ _ _, Below.refl _ _⟩
  case round =>
    obtain ⟨k, X, Y, hk, rfl, HX, HY, hX, hY, hown, hownY, hbr⟩ := hrel
    obtain ⟨XA, xc, rfl, _⟩ := own_form hown
    obtain ⟨YA, yc, rfl, _⟩ := own_form hownY
    have hAr := hA.be hbr
    have hBr := hB.be hbr
    clear hA hB
    by_cases hlt : k < la.length + lb.length
    · have h0 : (k : Int) < (la.length : Int) + (lb.length : Int) := by omega
      by_cases hla : k < la.length
      · have hl0 : (k : Int) < (la.length : Int) := by omega
        obtain ⟨ad, rfl, hbl, c0, c1, c2, c3⟩ := Rds.rc hAr hla
        have hg := hca la[k] (List.getElem_mem hla)
        have hsn : (la ++ lb).take (k + 1) = (la ++ lb).take k ++ [la[k]] := by
          rw [List.take_succ_eq_append_getElem (by simp; omega), List.getElem_append_left hla]
        have hXl := eX_len ((la ++ lb).take k)
        have hYl := eY_len ((la ++ lb).take k)
        have H1 : eX ((la ++ lb).take (k + 1)) = addE (addE X la[k].x) (la[k].x + la[k].w) := by rw [hsn, eX_snoc, HX.out]
        have H2 : eY ((la ++ lb).take (k + 1)) = addE (addE Y la[k].y) (la[k].y + la[k].h) := by rw [hsn, eY_snoc, HY.out]
        have H1l := eX_len ((la ++ lb).take (k + 1))
        have H2l := eY_len ((la ++ lb).take (k + 1))
        have htk : ((la ++ lb).take (k + 1)).length = k + 1 := by rw [List.length_take, List.length_append]; omega
        rw [htk] at H1l H2l
        rw [H1] at H1l
        rw [H2] at H2l
        have HS1 := Lib.hid H1
        have HS2 := Lib.hid H2
        clear hsn hAr hBr H1 H2 htk hXl hYl
        generalize la[k] = r at *
        obtain ⟨x, y, a, b⟩ := r
        unfold chkR at hg
        simp only at c0 c1 c2 c3 hg H1l H2l
        obtain ⟨g1, g2, g3, g4, g5, g6⟩ := hg
        have hwx : IntKind.i64.wrap (x + a) = x + a := i64_in (by omega) (by omega)
        have hwy : IntKind.i64.wrap (y + b) = y + b := i64_in (by omega) (by omega)
        have hz := hbr.size
        have hb1 : (ad.add (k * 4)).block < wr.heap.size := by rw [add_blk]; omega
        have hb2 : ¬ ((ad.add (k * 4)).block = wr.heap.size) := by omega
        have hb3 : ¬ (wr.heap.size = (ad.add (k * 4)).block) := by omega
        have hRX := Rds.own hown
        have hRY := Rds.own hownY
        have aX := addE_len X x
        have aY := addE_len Y y
        go_wp2_with fail
        have hbw : Below wr.heap.size wr (wr.alloc (.cells #[.int .i64 x, .int .i64 y, .int .i64 a, .int .i64 b] 64)).drew := bl_drew (bl_alloc (Below.refl _ _) _)
        have Bx : Bk (wr.alloc (.cells #[.int .i64 x, .int .i64 y, .int .i64 a, .int .i64 b] 64)).drew wr.heap.size 64 #[.int .i64 x, .int .i64 y, .int .i64 a, .int .i64 b] := (Bk.new _ _ _).dr
        have CX := Lib.hid (rfAdd_any XA xc X x _ (by omega) ((hRX.be hbw).more hbw.size))
        go_region_held3 (fun w' => w'.cell? ⟨wr.heap.size, 0, none⟩ = some (.int .i64 x) ∧ w'.cell? ⟨wr.heap.size, 2, none⟩ = some (.int .i64 a)) (first | (with_reducible exact ⟨p0, p2⟩) | (with_reducible exact ⟨q0, q2⟩) | go_keep)
          (first
            | ((with_reducible refine CX.out.mono ?_); rintro e w1 ⟨v1, rfl, hown1, hbn1⟩; obtain ⟨A1, a1c, rfl, _⟩ := own_form hown1; have p0 : w1.cell? ⟨wr.heap.size, 0, none⟩ = some (.int .i64 x) := (Bx.be hbn1).cell 0; have p2 : w1.cell? ⟨wr.heap.size, 2, none⟩ = some (.int .i64 a) := (Bx.be hbn1).cell 2)
            | ((with_reducible refine (rfAdd_any A1 a1c (addE X x) (x + a) w1 (by omega) (Rds.own hown1)).mono ?_); rintro e w2 ⟨v2, rfl, hown2, hbn2⟩; obtain ⟨A2, a2c, rfl, _⟩ := own_form hown2; have q0 : w2.cell? ⟨wr.heap.size, 0, none⟩ = some (.int .i64 x) := ((Bx.be hbn1).be hbn2).cell 0; have q2 : w2.cell? ⟨wr.heap.size, 2, none⟩ = some (.int .i64 a) := ((Bx.be hbn1).be hbn2).cell 2))
        have hbw2 : Below wr.heap.size wr w2.drew := bl_drew (bl_step (bl_step hbw hbn1) hbn2)
        have Bx2 : Bk w2.drew wr.heap.size 64 #[.int .i64 x, .int .i64 y, .int .i64 a, .int .i64 b] := ((Bx.be hbn1).be hbn2).dr
        have hown2d : w2.drew.ownsRow w.heap.size 3 1 (.slice A2 (addE (addE X x) (x + a)).length a2c) (addE (addE X x) (x + a)).length ((addE (addE X x) (x + a)).map iC) := (own_lower hown2 (Nat.le_trans hz (bl_step hbw hbn1).size)).drew
        have x1' : w2.cell? ⟨wr.heap.size, 1, none⟩ = some (.int .i64 y) := Bx2.cell 1
        have x3' : w2.cell? ⟨wr.heap.size, 3, none⟩ = some (.int .i64 b) := Bx2.cell 3
        have CY := Lib.hid (rfAdd_any YA yc Y y _ (by omega) ((hRY.be hbw2).more hbw2.size))
        clear q0 q2 p0 p2 CX
        go_wp2_with fail
        go_region_held3 (fun w' => w'.cell? ⟨wr.heap.size, 1, none⟩ = some (.int .i64 y) ∧ w'.cell? ⟨wr.heap.size, 3, none⟩ = some (.int .i64 b)) (first | (with_reducible exact ⟨s0, s2⟩) | (with_reducible exact ⟨t0, t2⟩) | go_keep)
          (first
            | ((with_reducible refine CY.out.mono ?_); rintro e w3 ⟨v3, rfl, hown3, hbn3⟩; obtain ⟨A3, a3c, rfl, _⟩ := own_form hown3; have s0 : w3.cell? ⟨wr.heap.size, 1, none⟩ = some (.int .i64 y) := (Bx2.be hbn3).cell 1; have s2 : w3.cell? ⟨wr.heap.size, 3, none⟩ = some (.int .i64 b) := (Bx2.be hbn3).cell 3)
            | ((with_reducible refine (rfAdd_any A3 a3c (addE Y y) (y + b) w3 (by omega) (Rds.own hown3)).mono ?_); rintro e w4 ⟨v4, rfl, hown4, hbn4⟩; obtain ⟨A4, a4c, rfl, _⟩ := own_form hown4; have t0 : w4.cell? ⟨wr.heap.size, 1, none⟩ = some (.int .i64 y) := ((Bx2.be hbn3).be hbn4).cell 1; have t2 : w4.cell? ⟨wr.heap.size, 3, none⟩ = some (.int .i64 b) := ((Bx2.be hbn3).be hbn4).cell 3))
        go_wp2_with fail
        go_roundg (gk - 1)
        case measure => omega
        case rel =>
          refine ⟨k + 1, _, _, by omega, by go_num, Lib.hid HS1.out.symm, Lib.hid HS2.out.symm, by omega, by omega, own_be (own_be hown2d hbn3) hbn4, own_lower hown4 (Nat.le_trans hz (Nat.le_trans hbw2.size hbn3.size)), bl_step hbr (bl_step (bl_step hbw2 hbn3) hbn4)⟩
      · have hlb : k - la.length < lb.length := by omega
        have hl0 : ¬ ((k : Int) < (la.length : Int)) := by omega
        obtain ⟨m, hm⟩ : ∃ m, k = la.length + m := ⟨k - la.length, by omega⟩
        have hlm : m < lb.length := by omega
        have hj0 : IntKind.i64.wrap ((k : Int) - (la.length : Int)) = (m : Int) := by rw [i64_in (by omega) (by omega)]; omega
        have hj1 : (0 : Int) ≤ (m : Int) := by omega
        have hj2 : (m : Int) < (lb.length : Int) := by omega
        have HM := Lib.hid hm
        obtain ⟨ad, rfl, hbl, c0, c1, c2, c3⟩ := Rds.rc hBr hlm
        have hg := hcb lb[m] (List.getElem_mem hlm)
        have hsn : (la ++ lb).take (k + 1) = (la ++ lb).take k ++ [lb[m]] := by
          rw [List.take_succ_eq_append_getElem (by simp; omega), List.getElem_append_right (by omega)]; simp only [hm, Nat.add_sub_cancel_left]
        have hXl := eX_len ((la ++ lb).take k)
        have hYl := eY_len ((la ++ lb).take k)
        have H1 : eX ((la ++ lb).take (k + 1)) = addE (addE X lb[m].x) (lb[m].x + lb[m].w) := by rw [hsn, eX_snoc, HX.out]
        have H2 : eY ((la ++ lb).take (k + 1)) = addE (addE Y lb[m].y) (lb[m].y + lb[m].h) := by rw [hsn, eY_snoc, HY.out]
        have H1l := eX_len ((la ++ lb).take (k + 1))
        have H2l := eY_len ((la ++ lb).take (k + 1))
        have htk : ((la ++ lb).take (k + 1)).length = k + 1 := by rw [List.length_take, List.length_append]; omega
        rw [htk] at H1l H2l
        rw [H1] at H1l
        rw [H2] at H2l
        have HS1 := Lib.hid H1
        have HS2 := Lib.hid H2
        clear hm hsn hAr hBr H1 H2 htk hXl hYl
        generalize lb[m] = r at *
        obtain ⟨x, y, a, b⟩ := r
        unfold chkR at hg
        simp only at c0 c1 c2 c3 hg H1l H2l
        obtain ⟨g1, g2, g3, g4, g5, g6⟩ := hg
        have hwx : IntKind.i64.wrap (x + a) = x + a := i64_in (by omega) (by omega)
        have hwy : IntKind.i64.wrap (y + b) = y + b := i64_in (by omega) (by omega)
        have hz := hbr.size
        have hb1 : (ad.add (m * 4)).block < wr.heap.size := by rw [add_blk]; omega
        have hb2 : ¬ ((ad.add (m * 4)).block = wr.heap.size) := by omega
        have hb3 : ¬ (wr.heap.size = (ad.add (m * 4)).block) := by omega
        have hRX := Rds.own hown
        have hRY := Rds.own hownY
        have aX := addE_len X x
        have aY := addE_len Y y
        go_wp2_with fail
        have hbw : Below wr.heap.size wr (wr.alloc (.cells #[.int .i64 x, .int .i64 y, .int .i64 a, .int .i64 b] 64)).drew := bl_drew (bl_alloc (Below.refl _ _) _)
        have Bx : Bk (wr.alloc (.cells #[.int .i64 x, .int .i64 y, .int .i64 a, .int .i64 b] 64)).drew wr.heap.size 64 #[.int .i64 x, .int .i64 y, .int .i64 a, .int .i64 b] := (Bk.new _ _ _).dr
        have CX := Lib.hid (rfAdd_any XA xc X x _ (by omega) ((hRX.be hbw).more hbw.size))
        go_region_held3 (fun w' => w'.cell? ⟨wr.heap.size, 0, none⟩ = some (.int .i64 x) ∧ w'.cell? ⟨wr.heap.size, 2, none⟩ = some (.int .i64 a)) (first | (with_reducible exact ⟨p0, p2⟩) | (with_reducible exact ⟨q0, q2⟩) | go_keep)
          (first
            | ((with_reducible refine CX.out.mono ?_); rintro e w1 ⟨v1, rfl, hown1, hbn1⟩; obtain ⟨A1, a1c, rfl, _⟩ := own_form hown1; have p0 : w1.cell? ⟨wr.heap.size, 0, none⟩ = some (.int .i64 x) := (Bx.be hbn1).cell 0; have p2 : w1.cell? ⟨wr.heap.size, 2, none⟩ = some (.int .i64 a) := (Bx.be hbn1).cell 2)
            | ((with_reducible refine (rfAdd_any A1 a1c (addE X x) (x + a) w1 (by omega) (Rds.own hown1)).mono ?_); rintro e w2 ⟨v2, rfl, hown2, hbn2⟩; obtain ⟨A2, a2c, rfl, _⟩ := own_form hown2; have q0 : w2.cell? ⟨wr.heap.size, 0, none⟩ = some (.int .i64 x) := ((Bx.be hbn1).be hbn2).cell 0; have q2 : w2.cell? ⟨wr.heap.size, 2, none⟩ = some (.int .i64 a) := ((Bx.be hbn1).be hbn2).cell 2))
        have hbw2 : Below wr.heap.size wr w2.drew := bl_drew (bl_step (bl_step hbw hbn1) hbn2)
        have Bx2 : Bk w2.drew wr.heap.size 64 #[.int .i64 x, .int .i64 y, .int .i64 a, .int .i64 b] := ((Bx.be hbn1).be hbn2).dr
        have hown2d : w2.drew.ownsRow w.heap.size 3 1 (.slice A2 (addE (addE X x) (x + a)).length a2c) (addE (addE X x) (x + a)).length ((addE (addE X x) (x + a)).map iC) := (own_lower hown2 (Nat.le_trans hz (bl_step hbw hbn1).size)).drew
        have x1' : w2.cell? ⟨wr.heap.size, 1, none⟩ = some (.int .i64 y) := Bx2.cell 1
        have x3' : w2.cell? ⟨wr.heap.size, 3, none⟩ = some (.int .i64 b) := Bx2.cell 3
        have CY := Lib.hid (rfAdd_any YA yc Y y _ (by omega) ((hRY.be hbw2).more hbw2.size))
        clear q0 q2 p0 p2 CX
        go_wp2_with fail
        go_region_held3 (fun w' => w'.cell? ⟨wr.heap.size, 1, none⟩ = some (.int .i64 y) ∧ w'.cell? ⟨wr.heap.size, 3, none⟩ = some (.int .i64 b)) (first | (with_reducible exact ⟨s0, s2⟩) | (with_reducible exact ⟨t0, t2⟩) | go_keep)
          (first
            | ((with_reducible refine CY.out.mono ?_); rintro e w3 ⟨v3, rfl, hown3, hbn3⟩; obtain ⟨A3, a3c, rfl, _⟩ := own_form hown3; have s0 : w3.cell? ⟨wr.heap.size, 1, none⟩ = some (.int .i64 y) := (Bx2.be hbn3).cell 1; have s2 : w3.cell? ⟨wr.heap.size, 3, none⟩ = some (.int .i64 b) := (Bx2.be hbn3).cell 3)
            | ((with_reducible refine (rfAdd_any A3 a3c (addE Y y) (y + b) w3 (by omega) (Rds.own hown3)).mono ?_); rintro e w4 ⟨v4, rfl, hown4, hbn4⟩; obtain ⟨A4, a4c, rfl, _⟩ := own_form hown4; have t0 : w4.cell? ⟨wr.heap.size, 1, none⟩ = some (.int .i64 y) := ((Bx2.be hbn3).be hbn4).cell 1; have t2 : w4.cell? ⟨wr.heap.size, 3, none⟩ = some (.int .i64 b) := ((Bx2.be hbn3).be hbn4).cell 3))
        go_wp2_with fail
        go_roundg (gk - 1)
        case measure => omega
        case rel =>
          refine ⟨k + 1, _, _, by omega, by go_num, Lib.hid HS1.out.symm, Lib.hid HS2.out.symm, by omega, by omega, own_be (own_be hown2d hbn3) hbn4, own_lower hown4 (Nat.le_trans hz (Nat.le_trans hbw2.size hbn3.size)), bl_step hbr (bl_step (bl_step hbw2 hbn3) hbn4)⟩
    · obtain rfl : k = la.length + lb.length := by omega
      rw [List.take_of_length_le (by simp)] at HX HY
      have h0 : ¬ (((la.length + lb.length : Nat) : Int) < (la.length : Int) + (lb.length : Int)) := by omega
      clear hcb hca
      go_wp2_with fail
      go_ret2
      exact ⟨_, _, rfl, by rw [← HX.out]; exact hown, by rw [← HY.out]; exact hownY, hbr⟩
end Go.Proofs.YtjjdgbhplechbaaGreatDoor.Wk
/- The reference's rectangles, and what is in lists of them. -/
namespace Go.Proofs.YtjjdgbhplechbaaGreatDoor.Wk
open Go.RowKit Go.Proofs.YtjjdgbhplechbaaGreatDoor.Kit Go.Proofs.YtjjdgbhplechbaaGreatDoor.Reg Go.Proofs.YtjjdgbhplechbaaGreatDoor.Rect
attribute [local go_sem high] bmax2 bmin2 bmax_2 bmin_2 bmax_3 bmin_3 bmax_4 bmin_4

set_option maxHeartbeats 1000000 in
theorem rfEmpty_any (x y a b : Int) (w : World) : Calls Tryz.prog 51 #[.agg #[.int .i64 x, .int .i64 y, .int .i64 a, .int .i64 b]] w fun e w' => e = .returned (.bool (emp ⟨x, y, a, b⟩)) ∧ Below w.heap.size w w' := by
  go_enter Tryz.func51, Tryz.ntmps51
  go_wp2
  all_goals
    go_ret
    refine ⟨ret_bool ?_, (Below.refl _ _).alloc (Nat.le_refl _) _⟩
    rw [Bool.eq_iff_iff]; simp only [emp_t]; simp; try omega

set_option maxHeartbeats 1000000 in
theorem rfWithin_any (x n p : Int) (w : World) (hx : -9223372036854775808 ≤ x) (_ : x ≤ 9223372036854775807) (_ : -9223372036854775808 ≤ p) (hp' : p ≤ 9223372036854775807) (hn : 1 ≤ n) (hn' : n ≤ 9223372036854775807) :
    Calls Tryz.prog 80 #[.int .i64 p, .int .i64 x, .int .i64 n] w fun e w' => e = .returned (.bool (decide (x ≤ p) && decide (p < x + n))) ∧ w = w' := by
  have hn0 : (0 : Int) < n := by omega
  by_cases h : x ≤ p
  · have q := Lib.hid (u64_sub h hx hp')
    go_enter Tryz.func80, Tryz.ntmps80
    go_wp2
    go_ret
    refine ⟨ret_bool ?_, rfl⟩
    show decide (IntKind.u64.wrap (IntKind.u64.wrap p - IntKind.u64.wrap x) < n) = _
    rw [q.out, Bool.eq_iff_iff]
    simp; omega
  · go_enter Tryz.func80, Tryz.ntmps80
    go_wp2
    go_ret
    refine ⟨ret_bool ?_, rfl⟩
    have h' : ¬ x ≤ p := by omega
    simp [h']

set_option maxHeartbeats 2000000 in
theorem rfHas7_any (x y a b p q : Int) (w : World) (hr : I64 ⟨x, y, a, b⟩) (hp : -9223372036854775808 ≤ p ∧ p ≤ 9223372036854775807) (hq : -9223372036854775808 ≤ q ∧ q ≤ 9223372036854775807) :
    Calls Tryz.prog 65 #[.agg #[.int .i64 x, .int .i64 y, .int .i64 a, .int .i64 b], .int .i64 p, .int .i64 q] w fun e w' => e = .returned (.bool (rHas ⟨x, y, a, b⟩ p q)) ∧ Below w.heap.size w w' := by
  obtain ⟨⟨x0, x1⟩, ⟨y0, y1⟩, ⟨a0, a1⟩, b0, b1⟩ := hr
  obtain ⟨p0, p1⟩ := hp
  obtain ⟨q0, q1⟩ := hq
  simp only at x0 x1 y0 y1 a0 a1 b0 b1
  by_cases he : emp ⟨x, y, a, b⟩ = true
  · have hf : rHas ⟨x, y, a, b⟩ p q = false := by
      have := inR_emp (p := p) (q := q) he
      simp [rHas, this]
    have HF := Lib.hid hf
    clear hf
    go_enter Tryz.func65, Tryz.ntmps65
    go_wp2_with fail
    refine (rfEmpty_any _ _ _ _ _).mono ?_
    rintro e w1 ⟨rfl, hb1⟩
    go_wp2_with fail
    go_ret
    refine ⟨ret_bool HF.out.symm, ?_⟩
    repeat (first | exact Below.refl _ _ | apply bl_alloc | apply bl_drew | apply bl_drewN | (refine bl_step ?_ (by assumption)))
  · have he : emp ⟨x, y, a, b⟩ = false := by simpa using he
    obtain ⟨ha, hb⟩ := emp_f.1 he
    simp only at ha hb
    go_enter Tryz.func65, Tryz.ntmps65
    go_wp2_with fail
    refine (rfEmpty_any _ _ _ _ _).mono ?_
    rintro e w1 ⟨rfl, hb1⟩
    obtain ⟨hc1, -⟩ := bcell hb1
    go_wp2_with fail
    refine (rfWithin_any _ _ _ _ (by omega) (by omega) (by omega) (by omega) (by omega) (by omega)).mono ?_
    rintro e w2 ⟨rfl, rfl⟩
    by_cases h1 : (decide (x ≤ p) && decide (p < x + a)) = true
    · go_wp2_with fail
      refine (rfWithin_any _ _ _ _ (by omega) (by omega) (by omega) (by omega) (by omega) (by omega)).mono ?_
      rintro e w2 ⟨rfl, rfl⟩
      go_wp2_with fail
      go_ret
      refine ⟨ret_bool ?_, ?_⟩
      · show (decide (y ≤ q) && decide (q < y + b)) = _
        rw [Bool.eq_iff_iff, has_iff]
        simp at h1
        simp [inR]; omega
      repeat (first | exact Below.refl _ _ | apply bl_alloc | apply bl_drew | apply bl_drewN | refine bl_set ?_ (by simp) _ | (refine bl_step ?_ (by assumption)))
    · have h1 : (decide (x ≤ p) && decide (p < x + a)) = false := by simpa using h1
      go_wp2_with fail
      go_ret
      refine ⟨ret_bool ?_, ?_⟩
      · symm
        rw [Bool.eq_false_iff, Ne, has_iff]
        simp at h1
        simp only [inR]; omega
      repeat (first | exact Below.refl _ _ | apply bl_alloc | apply bl_drew | apply bl_drewN | refine bl_set ?_ (by simp) _ | (refine bl_step ?_ (by assumption)))


theorem rfHas8_any (A : Option Addr) (c : Nat) (l : List R) (p q : Int) (w : World) (hn : l.length ≤ 1000000) (h64 : ∀ r ∈ l, I64 r) (hA : Rds w w.heap.size 4 A l.length (l.flatMap rC)) (hp : -9223372036854775808 ≤ p ∧ p ≤ 9223372036854775807) (hq : -9223372036854775808 ≤ q ∧ q ≤ 9223372036854775807) :
    Calls Tryz.prog 88 #[.slice A l.length c, .int .i64 p, .int .i64 q] w fun e w' => e = .returned (.bool (hasL l p q)) ∧ Below w.heap.size w w' := by
  go_enter Tryz.func88, Tryz.ntmps88
  go_wp2_with fail
  go_loopw [7] (fun i wr => ∃ k : Nat, k ≤ l.length ∧ i = .int .i64 k ∧ Hid (hasL l p q = hasL (l.drop k) p q) ∧ Below w.heap.size w wr) (fun i _ => l.length - (intOf i).toNat)
  case atStart => exact ⟨0, by omega, rfl, Lib.hid rfl, Below.refl _ _⟩
  case round =>
    obtain ⟨k, hk, rfl, HX, hbr⟩ := hrel
    by_cases hlt : k < l.length
    · obtain ⟨ad, rfl, hbl, c0, c1, c2, c3⟩ := Rds.rc (hA.be hbr) hlt
      have hr64 := h64 l[k] (List.getElem_mem hlt)
      have hd : hasL (l.drop k) p q = (rHas l[k] p q || hasL (l.drop (k + 1)) p q) := by
        rw [List.drop_eq_getElem_cons hlt]; rfl
      have HD := Lib.hid hd
      clear hd
      generalize l[k] = r at *
      obtain ⟨x, y, a, b⟩ := r
      simp only at c0 c1 c2 c3
      have HC := Lib.hid (rfHas7_any x y a b p q wr hr64 hp hq)
      clear hr64 h64 hp hq
      go_wp2_with fail
      refine HC.out.mono ?_
      rintro e w1 ⟨rfl, hb1⟩
      cases hh : rHas ⟨x, y, a, b⟩ p q with
      | true =>
        have HH := Lib.hid hh
        clear hh
        go_wp2_with fail
        go_ret
        exact ⟨by rw [HX.out, HD.out, HH.out]; rfl, bl_step hbr hb1⟩
      | false =>
        have HH := Lib.hid hh
        clear hh
        go_wp2_with fail
        go_roundw
        case measure => simp [intOf]; omega
        case rel => exact ⟨k + 1, by omega, by go_num, Lib.hid (by rw [HX.out, HD.out, HH.out, Bool.false_or]), bl_step hbr hb1⟩
    · obtain rfl : k = l.length := by omega
      go_wp2_with fail
      go_ret
      exact ⟨by rw [HX.out, List.drop_length]; rfl, hbr⟩
/-- the three ways, by their number -/
def opN (o : Int) : Bool → Bool → Bool := if o = 1 then subB else if o = 2 then andB else orB
theorem rfIn_any (A B : Option Addr) (c d : Nat) (la lb : List R) (p q o : Int) (w : World) (na : la.length ≤ 1000000) (nb : lb.length ≤ 1000000) (h64a : ∀ r ∈ la, I64 r) (h64b : ∀ r ∈ lb, I64 r) (hA : Rds w w.heap.size 4 A la.length (la.flatMap rC)) (hB : Rds w w.heap.size 4 B lb.length (lb.flatMap rC)) (hp : -9223372036854775808 ≤ p ∧ p ≤ 9223372036854775807) (hq : -9223372036854775808 ≤ q ∧ q ≤ 9223372036854775807) :
    Calls Tryz.prog 76 #[.slice A la.length c, .slice B lb.length d, .int .i64 p, .int .i64 q, .int .i64 o] w fun e w' => e = .returned (.bool (opN o (hasL la p q) (hasL lb p q))) ∧ Below w.heap.size w w' := by
  have H1 := Lib.hid (rfHas8_any A c la p q w na h64a hA hp hq)
  have H2 := Lib.hid (fun (w1 : World) (h : Below w.heap.size w w1) => rfHas8_any B d lb p q w1 nb h64b ((hB.be h).more h.size) hp hq)
  clear hp hq h64a h64b hA hB
  go_enter Tryz.func76, Tryz.ntmps76
  go_wp2_with fail
  refine H1.out.mono ?_
  rintro e w1 ⟨rfl, hb1⟩
  go_wp2_with fail
  refine (H2.out w1 hb1).mono ?_
  rintro e w2 ⟨rfl, hb2⟩
  have hb := bl_step hb1 hb2
  by_cases o1 : o = 1
  · subst o1
    cases hx : hasL la p q <;> cases hy : hasL lb p q <;> (have HX := Lib.hid hx; have HY := Lib.hid hy; clear hx hy; go_wp2_with fail; go_ret; exact ⟨by rw [HX.out, HY.out]; rfl, hb⟩)
  · by_cases o2 : o = 2
    · subst o2
      have HE := Lib.hid (show opN 2 = andB from rfl)
      cases hx : hasL la p q <;> cases hy : hasL lb p q <;> (have HX := Lib.hid hx; have HY := Lib.hid hy; clear hx hy; go_wp2_with fail; go_ret; exact ⟨by rw [HX.out, HY.out, HE.out]; rfl, hb⟩)
    · have e : opN o = orB := by unfold opN; rw [if_neg o1, if_neg o2]
      have HE := Lib.hid e
      clear e
      have e1 : ((o : Int) == 1) = false := by simpa using o1
      have e2 : ((o : Int) == 2) = false := by simpa using o2
      cases hx : hasL la p q <;> cases hy : hasL lb p q <;> (have HX := Lib.hid hx; have HY := Lib.hid hy; clear hx hy; go_wp2_with fail; go_ret; exact ⟨by rw [HX.out, HY.out, HE.out]; rfl, hb⟩)
end Go.Proofs.YtjjdgbhplechbaaGreatDoor.Wk
