/- The reference's alike. -/
import Derived.Test.YtclpppejabfbbaaRf4
import Derived.Deep.RegionLaw
set_option linter.unusedVariables false
set_option linter.unusedSimpArgs false
namespace Go.Proofs.Ytclpppejabfbbaa.Wk
open Go.RowKit Go.Proofs.Ytclpppejabfbbaa.Kit Go.Proofs.Ytclpppejabfbbaa.Reg Go.Proofs.Ytclpppejabfbbaa.Rect

def zipB (a b : List R) : Bool := (a.zip b).all fun p => p.1.x == p.2.x && p.1.w == p.2.w
def Sm35 (r : R) : Prop := (-34359738368 ≤ r.x ∧ r.x ≤ 34359738368) ∧ (-34359738368 ≤ r.y ∧ r.y ≤ 34359738368) ∧ (-34359738368 ≤ r.w ∧ r.w ≤ 34359738368) ∧ -36028797018963968 ≤ r.h ∧ r.h ≤ 36028797018963968
theorem zip_drop (a b : List R) (k : Nat) (h1 : k < a.length) (h2 : k < b.length) : zipB (a.drop k) (b.drop k) = ((a[k].x == b[k].x && a[k].w == b[k].w) && zipB (a.drop (k + 1)) (b.drop (k + 1))) := by
  rw [List.drop_eq_getElem_cons h1, List.drop_eq_getElem_cons h2]; rfl
set_option maxRecDepth 100000 in
set_option maxHeartbeats 4000000 in
theorem rfAlike_any (A B : Option Addr) (c d : Nat) (la lb : List R) (w : World) (na : la.length ≤ 1000000000000) (nb : lb.length ≤ 1000000000000) (hs : ∀ r ∈ la, Sm35 r) (hA : Rds w w.heap.size 4 A la.length (la.flatMap rC)) (hB : Rds w w.heap.size 4 B lb.length (lb.flatMap rC)) :
    Calls Try.prog 85 #[.slice A la.length c, .slice B lb.length d] w fun e w' => e = .returned (.bool (alikeF la lb)) ∧ Below w.heap.size w w' := by
  by_cases hl : la.length = lb.length
  · by_cases h0 : la.length = 0
    · have hf : alikeF la lb = false := by
        rw [List.length_eq_zero_iff.1 h0]; exact alike_nil_l lb
      have HF := Lib.hid hf
      have hn : (((la.length : Nat) : Int) != ((lb.length : Nat) : Int)) = false := by simp [hl]
      have hz : (((la.length : Nat) : Int) == 0) = true := by simp [h0]
      clear hf hl h0
      go_enter Try.func85, Try.ntmps85
      go_wp2_with fail
      go_quiet (fail)
      go_wp2_with fail
      go_ret
      exact ⟨by rw [HF.out]; rfl, by with_reducible repeat (first | exact Below.refl _ _ | apply bl_drew | apply bl_drewN)⟩
    · have hp : 0 < la.length := by omega
      have hpb : 0 < lb.length := by omega
      obtain ⟨ad, rfl, hbl, c0, c1, c2, c3⟩ := Rds.rc hA hp
      obtain ⟨bd, rfl, hbl2, d0, d1, d2, d3⟩ := Rds.rc hB hpb
      have hf : alikeF la lb = ((la[0].y + la[0].h == lb[0].y) && zipB la lb) := by
        cases la with
        | nil => simp at hp
        | cons x la =>
          cases lb with
          | nil => simp at hpb
          | cons y lb =>
            unfold alikeF zipB
            simp only [List.getElem_cons_zero]
            rw [show ((x :: la).length == (y :: lb).length) = true by simpa using hl, Bool.true_and]
      have HF := Lib.hid hf
      have hsm := hs la[0] (List.getElem_mem hp)
      obtain ⟨_, ⟨y0, y1⟩, _, z0, z1⟩ := hsm
      have hn : (((la.length : Nat) : Int) != ((lb.length : Nat) : Int)) = false := by simp [hl]
      have hz : (((la.length : Nat) : Int) == 0) = false := by simpa using h0
      have hwy : IntKind.i64.wrap (la[0].y + la[0].h) = la[0].y + la[0].h := i64_in (by omega) (by omega)
      have j0 : (0 : Int) < (la.length : Int) := by omega
      have j1 : (0 : Int) < (lb.length : Int) := by omega
      have HL := Lib.hid hl
      clear hf hl h0 c0 c2 d0 d2 d3
      generalize la[0].y = ay at *
      generalize la[0].h = ah at *
      generalize lb[0].y = yb at *
      rw [Nat.zero_mul] at c1 c3 d1
      have a0 : ad.add 0 = ad := by simp [Addr.add]
      have a1 : bd.add 0 = bd := by simp [Addr.add]
      rw [a0] at c1 c3
      rw [a1] at d1
      by_cases he : ay + ah = yb
      · have hen : ((ay + ah : Int) != yb) = false := by simp [he]
        have HE := Lib.hid he
        clear he
        go_enter Try.func85, Try.ntmps85
        go_wp2_with fail
        go_quiet (fail)
        go_wp2_with fail
        clear c1 c3 d1 a0 a1 hwy hen hn hz j0 j1
        have hA0 : Rds (w.drewN nq) w.heap.size 4 (some ad) la.length (la.flatMap rC) := hA
        have hB0 : Rds (w.drewN nq) w.heap.size 4 (some bd) lb.length (lb.flatMap rC) := hB
        go_loopg [5] la.length (fun gd i wr => ∃ k : Nat, k + gd = la.length ∧ i = .int .i64 k ∧ Hid (zipB la lb = zipB (la.drop k) (lb.drop k)) ∧ Below w.heap.size w wr)
        case atStart => exact ⟨0, by omega, rfl, Lib.hid rfl, bl_drewN (Below.refl _ _) _⟩
        case round =>
          obtain ⟨k, hk, rfl, HX, hbr⟩ := hrel
          by_cases hlt : k < la.length
          · have hltb : k < lb.length := by have := HL.out; omega
            obtain ⟨ad', hae, _, p0, _, p2, _⟩ := Rds.rc (hA.be hbr) hlt
            obtain ⟨bd', hbe, _, q0, _, q2, _⟩ := Rds.rc (hB.be hbr) hltb
            obtain rfl : ad' = ad := by simpa using hae.symm
            obtain rfl : bd' = bd := by simpa using hbe.symm
            have HD := Lib.hid (zip_drop la lb k hlt hltb)
            have i0 : (0 : Int) ≤ (k : Int) := by omega
            have i1 : (k : Int) < (la.length : Int) := by omega
            have i2 : (k : Int) < (lb.length : Int) := by omega
            clear hae hbe
            generalize la[k] = a at *
            generalize lb[k] = b at *
            obtain ⟨ax, ay', aw, ah'⟩ := a
            obtain ⟨bx, by', bw, bh⟩ := b
            simp only at p0 p2 q0 q2 HD
            by_cases hx : ax = bx
            · have hxe : ((ax : Int) != bx) = false := by simp [hx]
              have HXE := Lib.hid hx
              clear hx
              by_cases hw : aw = bw
              · have hwe : ((aw : Int) != bw) = false := by simp [hw]
                have HWE := Lib.hid hw
                clear hw
                go_wp2_with fail
                go_quiet (fail)
                go_wp2_with fail
                go_roundg (gk - 1)
                case measure => omega
                case rel =>
                  refine ⟨k + 1, by omega, by go_num, Lib.hid ?_, by with_reducible repeat (first | exact hbr | apply bl_drew | apply bl_drewN)⟩
                  rw [HX.out, HD.out, HXE.out, HWE.out]; simp
              · have hwe : ((aw : Int) != bw) = true := by simpa using hw
                have HWE := Lib.hid hw
                clear hw
                go_wp2_with fail
                go_quiet (fail)
                go_wp2_with fail
                go_ret
                refine ⟨?_, by with_reducible repeat (first | exact hbr | apply bl_drew | apply bl_drewN)⟩
                rw [HF.out, HX.out, HD.out, show ((aw : Int) == bw) = false by simpa using HWE.out]; simp
            · have hxe : ((ax : Int) != bx) = true := by simpa using hx
              have HXE := Lib.hid hx
              clear hx
              go_wp2_with fail
              go_quiet (fail)
              go_wp2_with fail
              go_ret
              refine ⟨?_, by with_reducible repeat (first | exact hbr | apply bl_drew | apply bl_drewN)⟩
              rw [HF.out, HX.out, HD.out, show ((ax : Int) == bx) = false by simpa using HXE.out]; simp
          · obtain rfl : k = la.length := by omega
            have HL2 := HL.out
            go_wp2_with fail
            go_ret
            refine ⟨?_, hbr⟩
            rw [HF.out, HX.out, List.drop_length, show ((ay + ah : Int) == yb) = true by simp [HE.out]]; rfl
      · have hen : ((ay + ah : Int) != yb) = true := by simpa using he
        have HE := Lib.hid he
        clear he
        go_enter Try.func85, Try.ntmps85
        go_wp2_with fail
        go_quiet (fail)
        go_wp2_with fail
        go_ret
        refine ⟨?_, by with_reducible repeat (first | exact Below.refl _ _ | apply bl_drew | apply bl_drewN)⟩
        rw [HF.out, show ((ay + ah : Int) == yb) = false by simpa using HE.out]; rfl
  · have hf : alikeF la lb = false := by
      unfold alikeF; rw [show (la.length == lb.length) = false by simpa using hl]; rfl
    have HF := Lib.hid hf
    have hn : (((la.length : Nat) : Int) != ((lb.length : Nat) : Int)) = true := by simp; omega
    clear hf hl
    go_enter Try.func85, Try.ntmps85
    go_wp2_with fail
    go_quiet (fail)
    go_wp2_with fail
    go_ret
    exact ⟨by rw [HF.out]; rfl, by with_reducible repeat (first | exact Below.refl _ _ | apply bl_drew | apply bl_drewN)⟩
end Go.Proofs.Ytclpppejabfbbaa.Wk
/- The reference's make1. -/
namespace Go.Proofs.Ytclpppejabfbbaa.Wk
open Go.RowKit Go.Proofs.Ytclpppejabfbbaa.Kit Go.Proofs.Ytclpppejabfbbaa.Reg Go.Proofs.Ytclpppejabfbbaa.Rect

/-- the first i grown -/
def grN (dd : Int) (i : Nat) (l : List R) : List R := growR dd (l.take i) ++ l.drop i
theorem grN_len (dd : Int) (i : Nat) (l : List R) : (grN dd i l).length = l.length := by
  unfold grN growR; rw [List.length_append, List.length_map, ← List.length_append, List.take_append_drop]
theorem grN_all (dd : Int) (l : List R) : grN dd l.length l = growR dd l := by unfold grN; simp
theorem grN_at (dd : Int) (i : Nat) (l : List R) (h : i < l.length) : (grN dd i l)[i]? = some l[i] := by
  unfold grN growR
  rw [List.getElem?_append_right (by rw [List.length_map, List.length_take]; omega), List.length_map, List.length_take, Nat.min_eq_left (Nat.le_of_lt h), Nat.sub_self, List.getElem?_drop, Nat.add_zero, List.getElem?_eq_getElem h]
theorem grN_set (dd : Int) (i : Nat) (l : List R) (h : i < l.length) : ((grN dd i l).flatMap rC).set (i * 4 + 3) (iC (l[i].h + dd)) = (grN dd (i + 1) l).flatMap rC := by
  have e1 : grN dd i l = growR dd (l.take i) ++ l[i] :: l.drop (i + 1) := by unfold grN; rw [List.drop_eq_getElem_cons h]
  have e2 : grN dd (i + 1) l = growR dd (l.take i) ++ ⟨l[i].x, l[i].y, l[i].w, l[i].h + dd⟩ :: l.drop (i + 1) := by
    unfold grN growR
    rw [List.take_succ_eq_append_getElem h, List.map_append, List.append_assoc]; rfl
  rw [e1, e2, List.flatMap_append, List.flatMap_append]
  have hl : ((growR dd (l.take i)).flatMap rC).length = i * 4 := by
    rw [flat_len rC 4 rC_len]; unfold growR; rw [List.length_map, List.length_take]; omega
  rw [List.set_append_right _ _ (by omega), hl, Nat.add_sub_cancel_left]
  rfl
def mkK (G : Int → List Sp) (es : List Int) (k : Nat) : List R × List R := mkAll G ((gaps es).take k) ([], [])
theorem mkK_succ (G : Int → List Sp) (es : List Int) (k : Nat) (h : k < (gaps es).length) : mkK G es (k + 1) = mkStep (mkK G es k) ((G (gaps es)[k].1).map (spR (gaps es)[k].1 (gaps es)[k].2)) (gaps es)[k].1 (gaps es)[k].2 := by
  unfold mkK mkAll
  rw [List.take_succ_eq_append_getElem h, List.foldl_append]; rfl
/-- what is known of the two rows -/
structure MkI (k : Nat) (a b : List R) : Prop where
  la : a.length + b.length ≤ k * 40000
  hb : ∀ r ∈ b, (-34359738368 ≤ r.x ∧ r.x ≤ 34359738368) ∧ (-34359738368 ≤ r.y ∧ r.y ≤ 34359738368) ∧ (-34359738368 ≤ r.w ∧ r.w ≤ 34359738368) ∧ -((k + 1 : Int) * 34359738368) ≤ r.h ∧ r.h ≤ (k + 1 : Int) * 34359738368
theorem growR_in {dd : Int} {l : List R} {r : R} (h : r ∈ growR dd l) : ∃ s ∈ l, r = ⟨s.x, s.y, s.w, s.h + dd⟩ := by
  unfold growR at h
  obtain ⟨s, hs, rfl⟩ := List.mem_map.1 h
  exact ⟨s, hs, rfl⟩
theorem mk_grow {k : Nat} {a b : List R} (h : MkI k a b) {dd : Int} (hd : -34359738368 ≤ dd ∧ dd ≤ 34359738368) : MkI (k + 1) a (growR dd b) := by
  have hl : (growR dd b).length = b.length := List.length_map _
  refine ⟨by have := h.la; omega, fun r hr => ?_⟩
  obtain ⟨s, hs, rfl⟩ := growR_in hr
  have := h.hb s hs
  simp only
  push_cast
  omega
theorem mk_next {k : Nat} {a b r : List R} (h : MkI k a b) (hl : r.length ≤ 40000) (hr : ∀ s ∈ r, (-34359738368 ≤ s.x ∧ s.x ≤ 34359738368) ∧ (-34359738368 ≤ s.y ∧ s.y ≤ 34359738368) ∧ (-34359738368 ≤ s.w ∧ s.w ≤ 34359738368) ∧ -34359738368 ≤ s.h ∧ s.h ≤ 34359738368) : MkI (k + 1) (a ++ b) r := by
  have hl2 : (a ++ b).length = a.length + b.length := List.length_append
  refine ⟨by have := h.la; omega, fun s hs => ?_⟩
  have := hr s hs
  push_cast
  omega
theorem spR_in {xs : List Int} (op : Bool → Bool → Bool) (la lb : List R) (y y1 : Int) (hx : ∀ x ∈ xs, -16777216 ≤ x ∧ x ≤ 16777216) (h0 : -16777216 ≤ y ∧ y ≤ 16777216) (h1 : -16777216 ≤ y1 ∧ y1 ≤ 16777216) :
    ∀ s ∈ (rowSp op la lb xs y).map (spR y y1), (-34359738368 ≤ s.x ∧ s.x ≤ 34359738368) ∧ (-34359738368 ≤ s.y ∧ s.y ≤ 34359738368) ∧ (-34359738368 ≤ s.w ∧ s.w ≤ 34359738368) ∧ -34359738368 ≤ s.h ∧ s.h ≤ 34359738368 := by
  intro s hs
  obtain ⟨t, ht, rfl⟩ := List.mem_map.1 hs
  unfold rowSp at ht
  rw [← accK_all] at ht
  obtain ⟨a1, a2⟩ := acc_in _ xs _ t ht
  have b1 := hx _ a1
  have b2 := hx _ a2
  unfold spR
  simp only
  omega
theorem row_len2 {xs : List Int} (op : Bool → Bool → Bool) (la lb : List R) (y y1 : Int) : ((rowSp op la lb xs y).map (spR y y1)).length ≤ xs.length := by
  unfold rowSp
  rw [List.length_map, ← accK_all]
  have := accK_len (fun x => if op (hasL la x y) (hasL lb x y) then some () else none) xs _ (Nat.le_refl _)
  have := gaps_len' xs
  omega
theorem eX_in {l : List R} (h : ∀ r ∈ l, chkR r) : ∀ x ∈ eX l, -16777216 ≤ x ∧ x ≤ 16777216 := by
  intro x hx
  obtain ⟨r, hr, h1⟩ := List.mem_flatMap.1 (mem_esort.1 hx)
  have := h r hr
  unfold chkR at this
  simp at h1
  omega
theorem eY_in {l : List R} (h : ∀ r ∈ l, chkR r) : ∀ x ∈ eY l, -16777216 ≤ x ∧ x ≤ 16777216 := by
  intro x hx
  obtain ⟨r, hr, h1⟩ := List.mem_flatMap.1 (mem_esort.1 hx)
  have := h r hr
  unfold chkR at this
  simp at h1
  omega
theorem chk64 {r : R} (h : chkR r) : I64 r := by
  unfold chkR at h
  unfold I64
  omega
end Go.Proofs.Ytclpppejabfbbaa.Wk
/- The walk of the reference's make1. -/
namespace Go.Proofs.Ytclpppejabfbbaa.Wk
open Go.RowKit Go.Proofs.Ytclpppejabfbbaa.Kit Go.Proofs.Ytclpppejabfbbaa.Reg Go.Proofs.Ytclpppejabfbbaa.Rect

def Sep (u v : Value) : Prop := ∀ g, u.ownBlock = some g → v.ownBlock ≠ some g
theorem own_sep {w w' : World} {base : Nat} {e : TypeId} {sz n : Nat} {u v : Value} {x : List Value} (h : w.ownsRow base e sz u n x) (hg : w.grownBy w' v.ownBlock) (hs : Sep u v) : w'.ownsRow base e sz u n x :=
  h.kept hg (by
    cases hu : u.ownBlock with
    | none => exact .inl rfl
    | some g => exact .inr (fun he => hs g hu he.symm))
theorem own_apart {w w' : World} {b1 b2 : Nat} {e e' : TypeId} {s s' n m : Nat} {u v : Value} {x y : List Value} (h : w.ownsRow b1 e s u n x) (k : w'.ownsRow b2 e' s' v m y) (hle : w.heap.size ≤ b2) : Sep u v ∧ Sep v u := by
  refine ⟨fun g hg he => ?_, fun g hg he => ?_⟩
  · have := (h.lt g hg).2
    have := (k.lt g he).1
    omega
  · have := (h.lt g he).2
    have := (k.lt g hg).1
    omega
set_option maxRecDepth 100000 in
set_option maxHeartbeats 8000000 in
theorem rfMake1_any (A B : Option Addr) (c d : Nat) (la lb : List R) (o : Int) (w : World) (na : la.length ≤ 10000) (nb : lb.length ≤ 10000) (hca : ∀ r ∈ la, chkR r) (hcb : ∀ r ∈ lb, chkR r) (hA : Rds w w.heap.size 4 A la.length (la.flatMap rC)) (hB : Rds w w.heap.size 4 B lb.length (lb.flatMap rC)) :
    Calls Try.prog 58 #[.slice A la.length c, .slice B lb.length d, .int .i64 o] w (RcP w (makeR (opN o) la lb)) := by
  obtain ⟨iR, hiR, zR0, zR1, zR2⟩ := info_parts infoR
  have hcc : ∀ r ∈ la ++ lb, chkR r := by
    intro r hr
    rcases List.mem_append.1 hr with h | h
    · exact hca r h
    · exact hcb r h
  have hmk : makeR (opN o) la lb = (mkK (rowSp (opN o) la lb (eX (la ++ lb))) (eY (la ++ lb)) (gaps (eY (la ++ lb))).length).1 ++ (mkK (rowSp (opN o) la lb (eX (la ++ lb))) (eY (la ++ lb)) (gaps (eY (la ++ lb))).length).2 := by
    unfold makeR mkK; rw [List.take_length]; rfl
  have hXI := eX_in hcc
  have hYI := eY_in hcc
  have hXl := eX_len (la ++ lb)
  have hYl := eY_len (la ++ lb)
  have h64a : ∀ r ∈ la, I64 r := fun r h => chk64 (hca r h)
  have h64b : ∀ r ∈ lb, I64 r := fun r h => chk64 (hcb r h)
  rw [List.length_append] at hXl hYl
  go_enter Try.func58, Try.ntmps58
  go_wp2_with fail
  refine (rfEdges_any A B c d la lb w (by omega) (by omega) hca hcb hA hB).mono ?_
  rintro e w1 ⟨vx, vy, rfl, hX, hY, hb1⟩
  obtain ⟨XA, xc, rfl, -⟩ := own_form hX
  obtain ⟨YA, yc, rfl, -⟩ := own_form hY
  have hXr := Rds.own hX
  have hYr := Rds.own hY
  have hA1 := (hA.be hb1).more hb1.size
  have hB1 := (hB.be hb1).more hb1.size
  have HMK := Lib.hid hmk
  clear hmk hX hY hA hB hca hcb hcc
  generalize eX (la ++ lb) = xs at *
  generalize eY (la ++ lb) = es at *
  have HROW := Lib.hid (fun (y y1 : Int) (h0 : -16777216 ≤ y ∧ y ≤ 16777216) (h1 : -16777216 ≤ y1 ∧ y1 ≤ 16777216) (W : World) (hW : Below w1.heap.size w1 W) =>
    rfRow_any A B XA c d xc la lb xs y y1 o W (by omega) (by omega) h64a h64b (by omega) (fun x hx => by have := hXI x hx; omega) (by omega) (by omega) ((hA1.be hW).more hW.size) ((hB1.be hW).more hW.size) ((hXr.be hW).more hW.size))
  have HSP := Lib.hid (fun (y y1 : Int) (h0 : -16777216 ≤ y ∧ y ≤ 16777216) (h1 : -16777216 ≤ y1 ∧ y1 ≤ 16777216) => spR_in (opN o) la lb y y1 hXI h0 h1)
  have HRL := Lib.hid (fun (y y1 : Int) => row_len2 (xs := xs) (opN o) la lb y y1)
  have HYI := Lib.hid hYI
  clear hA1 hB1 hXr h64a h64b hXI hYI
  generalize rowSp (opN o) la lb xs = G at *
  have hgl := gaps_len' es
  go_wp2_with fail
  go_loopg [9, 10, 11] (gaps es).length (fun gd out last i wr => ∃ (k : Nat) (a b : List R), k + gd = (gaps es).length ∧ i = .int .i64 k ∧ Hid (mkK G es k = (a, b)) ∧ Hid (MkI k a b) ∧ wr.ownsRow w1.heap.size 26 4 out a.length (a.flatMap rC) ∧ wr.ownsRow w1.heap.size 26 4 last b.length (b.flatMap rC) ∧ Hid (Sep out last) ∧ Below w1.heap.size w1 wr)
  case atStart => exact ⟨0, [], [], by omega, rfl, Lib.hid rfl, Lib.hid ⟨by simp, by simp⟩, World.ownsRow_nil _ _ _ _, World.ownsRow_nil _ _ _ _, Lib.hid (fun g h => by simp [Value.ownBlock] at h), Below.refl _ _⟩
  case round =>
    obtain ⟨k, a, b, hk, rfl, HM, HI, hown, hownL, HSE, hbr⟩ := hrel
    obtain ⟨OA, oc, rfl, -⟩ := own_form hown
    obtain ⟨LA, lc, rfl, -⟩ := own_form hownL
    have hIl := HI.out.la
    by_cases hlt : k < (gaps es).length
    · have hk1 : (k : Int) + 1 < (es.length : Int) := by omega
      have i0 : (0 : Int) ≤ (k : Int) := by omega
      have i1 : (k : Int) < (es.length : Int) := by omega
      have hw1 : IntKind.i64.wrap ((k : Int) + 1) = (k : Int) + 1 := i64_in (by omega) (by omega)
      have hw2 : (0 : Int) ≤ (k : Int) + 1 := by omega
      have hw3 : ((k : Int) + 1).toNat = k + 1 := by omega
      have hel : 0 < es.length := by omega
      have hk0 : k < es.length := by omega
      have hk2 : k + 1 < es.length := by omega
      obtain ⟨ad, rfl, hbl, hcell⟩ := (hYr.be hbr).2 hel
      have c0 : wr.drew.cell? (ad.add k) = some (iC (es[k]'hk0)) := hcell k _ (by rw [List.getElem?_map, List.getElem?_eq_getElem (by omega)]; rfl)
      have c1 : wr.drew.cell? ⟨ad.block, ad.off + (k + 1), none⟩ = some (iC (es[k + 1]'hk2)) := by
        rw [← add_nx]
        exact hcell (k + 1) _ (by rw [List.getElem?_map, List.getElem?_eq_getElem (by omega)]; rfl)
      have hgk := gaps_get es k hlt
      have HS := Lib.hid (mkK_succ G es k hlt)
      have hy0 := HYI.out (es[k]'hk0) (List.getElem_mem _)
      have hy1 := HYI.out (es[k + 1]'hk2) (List.getElem_mem _)
      have hE0 : ∀ W : World, Below w1.heap.size w1 W → W.cell? (ad.add k) = some (iC (es[k]'hk0)) := fun W hW => by
        obtain ⟨ad2, he2, _, hc2⟩ := (hYr.be hW).2 hel
        obtain rfl : ad = ad2 := by simpa using he2
        exact hc2 k _ (by rw [List.getElem?_map, List.getElem?_eq_getElem hk0]; rfl)
      have hE1 : ∀ W : World, Below w1.heap.size w1 W → W.cell? ⟨ad.block, ad.off + (k + 1), none⟩ = some (iC (es[k + 1]'hk2)) := fun W hW => by
        obtain ⟨ad2, he2, _, hc2⟩ := (hYr.be hW).2 hel
        obtain rfl : ad = ad2 := by simpa using he2
        rw [← add_nx]
        exact hc2 (k + 1) _ (by rw [List.getElem?_map, List.getElem?_eq_getElem hk2]; rfl)
      have HE0 := Lib.hid hE0
      have HE1 := Lib.hid hE1
      clear hcell hE0 hE1
      generalize (gaps es)[k] = gp at *
      generalize es[k]'hk0 = y at *
      generalize es[k + 1]'hk2 = y1 at *
      subst hgk
      simp only at HS
      have HR := Lib.hid (fun (W : World) (hW : Below wr.heap.size wr W) => HROW.out y y1 hy0 hy1 W (bl_step hbr hW))
      have HSr := Lib.hid (HSP.out y y1 hy0 hy1)
      have hrl := HRL.out y y1
      generalize (G y).map (spR y y1) = r at *
      have hadb1 : ad.block < wr.heap.size := Nat.lt_of_lt_of_le hbl hbr.size
      have hadb : (ad.add k).block < wr.heap.size := by rw [add_blk]; exact hadb1
      have hbw : Below wr.heap.size wr wr.drew := bl_drew (Below.refl _ _)
      have hs1 := hbr.size
      go_wp2_with fail
      go_region_held3 (fun w' => w'.cell? (ad.add k) = some (iC y) ∧ w'.cell? ⟨ad.block, ad.off + (k + 1), none⟩ = some (iC y1)) (first | (with_reducible exact ⟨c0n, c1n⟩) | (with_reducible exact ⟨c0, c1⟩) | go_keep)
        (((with_reducible refine (HR.out _ hbw).mono ?_); rintro e wn ⟨vr, rfl, hownr, hbn⟩; obtain ⟨RA, rc, rfl, _⟩ := own_form hownr; have c0n : wn.cell? (ad.add k) = some (iC y) := (hbn.cell (p := ad.add k) hadb).trans c0; have c1n : wn.cell? ⟨ad.block, ad.off + (k + 1), none⟩ = some (iC y1) := (hbn.cell (p := ⟨ad.block, ad.off + (k + 1), none⟩) hadb1).trans c1))
      have hbn2 : Below wr.heap.size wr wn := bl_step hbw hbn
      have hownN := own_be hown hbn2
      have hownLN := own_be hownL hbn2
      have hbc := bl_step hbr hbn2
      have hz := hbc.size
      go_wp2_with fail
      refine (rfAlike_any LA RA lc rc b r wn (by omega) (by omega) (fun s hs => by have := HI.out.hb s hs; unfold Sm35; omega) (Rds.own hownLN) (Rds.own hownr)).mono ?_
      rintro e w4 ⟨rfl, hb4⟩
      have hown4 := own_be hownN hb4
      have hownL4 := own_be hownLN hb4
      have hownr4 := own_be hownr hb4
      have hbc4 := bl_step hbc hb4
      have hz4 := hbc4.size
      have hap := own_apart hown hownr (Nat.le_refl _)
      have hrlt := hownr.lt
      have hz5 := hb4.size
      have hownr5 := own_lower hownr4 (show w1.heap.size ≤ wr.drew.heap.size from hs1)
      clear hownN hownLN hownr hbc hown hownr4 hbn hbn2 hbw c0n c1n c0 c1
      cases hal : alikeF b r with
      | false =>
        have HAL := Lib.hid hal
        clear hal
        go_wp2_with (at_builtin; go_must (refine wpList_app _ rfl (.tmp 70) (.tmp 71) _ rfl w1.heap.size 26 iR _ 4 32 Try.underlying22 hiR zR0 zR1 zR2 rfl (by omega) (.slice OA a.length oc) a.length (a.flatMap rC) rfl hown4 w4.heap.size LA b.length lc (b.flatMap rC) rfl (Rds.own hownL4) (by intro u hu; obtain ⟨q, _, hq⟩ := List.mem_flatMap.1 hu; simp [rC] at hq; rcases hq with rfl | rfl | rfl | rfl <;> rfl) (by simp only [maxLen]; omega) (by omega) (by omega) ?_); intro v5 w5 hown5 hg5 hat5)
        go_roundg (gk - 1)
        case measure => omega
        case rel =>
          refine ⟨k + 1, a ++ b, r, by omega, by go_num, Lib.hid (by rw [HS.out, HM.out]; unfold mkStep; rw [if_neg (by simp [HAL.out])]), Lib.hid (mk_next HI.out (by omega) HSr.out), by rw [List.length_append, List.flatMap_append]; exact hown5, own_sep hownr5 hg5 hap.2, Lib.hid (fun g hg he => ?_), Below.grown hbc4 hg5 hz4 (fun g hg => (hown4.lt g hg).1)⟩
          rcases hat5 with h5 | h5
          · exact hap.1 g (by rw [← h5]; exact hg) he
          · have := (hrlt g he).2
            rw [h5] at hg
            have : w4.heap.size = g := by simpa using hg
            omega
      | true =>
        have HAL := Lib.hid hal
        clear hal hownr5 hap hrlt
        have hI2 := mk_grow HI.out (dd := y1 - y) (by omega)
        have HI2 := Lib.hid hI2
        have HIB := Lib.hid HI.out.hb
        have hM2 : mkK G es (k + 1) = (a, growR (y1 - y) b) := by rw [HS.out, HM.out]; unfold mkStep; rw [if_pos HAL.out]
        have HM2 := Lib.hid hM2
        clear hM2 hI2 HM HS HI
        obtain ⟨w0, rfl⟩ : ∃ x : World, x = wr := ⟨_, rfl⟩
        obtain ⟨gg, rfl⟩ : ∃ x, x = gk := ⟨gk, rfl⟩
        have hYr0 := hYr
        go_wp2_with fail
        go_loopg [13] b.length (fun gd i wr => ∃ j : Nat, j + gd = b.length ∧ i = .int .i64 j ∧ wr.ownsRow w1.heap.size 26 4 (.slice LA b.length lc) b.length ((grN (y1 - y) j b).flatMap rC) ∧ wr.ownsRow w1.heap.size 26 4 (.slice OA a.length oc) a.length (a.flatMap rC) ∧ Below w1.heap.size w1 wr)
        case atStart => exact ⟨0, by omega, rfl, hownL4, hown4, hbc4⟩
        case round =>
          obtain ⟨j, hj, rfl, hoL, hoO, hbr'⟩ := hrel
          by_cases hlj : j < b.length
          · obtain ⟨LA', lc', hLe, hform⟩ := own_form hoL
            obtain ⟨g, rfl, hg1, hg2⟩ := hform (by omega)
            obtain ⟨rfl, rfl⟩ : LA = some ⟨g, 0, none⟩ ∧ lc = lc' := by simpa using hLe
            have ch : wr.cell? ⟨g, j * 4 + 3, none⟩ = some (iC b[j].h) := by
              have hgj : j < (grN (y1 - y) j b).length := by rw [grN_len]; exact hlj
              have he : (grN (y1 - y) j b)[j] = b[j] := by
                have := grN_at (y1 - y) j b hlj
                rw [List.getElem?_eq_getElem hgj] at this
                exact Option.some.inj this
              rw [hoL.cellAt (j * 4 + 3) (by omega), flat_at rC 4 rC_len _ j hgj 3 (by omega), he]
              simp [rC]
            have cf := hoL.frozenAt (j * 4 + 3)
            have hbj := HIB.out b[j] (List.getElem_mem hlj)
            have hst : ∀ W : World, W.ownsRow w1.heap.size 26 4 (.slice (some ⟨g, 0, none⟩) b.length lc) b.length ((grN (y1 - y) j b).flatMap rC) → (W.setCell ⟨g, j * 4 + 3, none⟩ (iC (b[j].h + y1 - y))).ownsRow w1.heap.size 26 4 (.slice (some ⟨g, 0, none⟩) b.length lc) b.length ((grN (y1 - y) (j + 1) b).flatMap rC) := by
              intro W hW
              have s1 := (World.ownsRow.stored (w := W) hW (j * 4 + 3) (iC (b[j].h + (y1 - y)))).1
              rw [grN_set _ _ _ hlj] at s1
              rw [show b[j].h + y1 - y = b[j].h + (y1 - y) by omega]
              exact s1
            have HST := Lib.hid hst
            have hso : ∀ (W : World) (u : Value), W.ownsRow w1.heap.size 26 4 (.slice OA a.length oc) a.length (a.flatMap rC) → (W.setCell ⟨g, j * 4 + 3, none⟩ u).ownsRow w1.heap.size 26 4 (.slice OA a.length oc) a.length (a.flatMap rC) := by
              intro W u hW
              exact own_sep (v := .slice (some ⟨g, 0, none⟩) b.length lc) hW (gb_set W g (j * 4 + 3) u) HSE.out
            have HSO := Lib.hid hso
            obtain ⟨ad', hae, hbl', hcell⟩ := (hYr.be hbr').2 hel
            obtain rfl : ad' = ad := by simpa using hae.symm
            have e0 : wr.cell? (ad'.add k) = some (iC y) := HE0.out wr hbr'
            have e1 : wr.cell? ⟨ad'.block, ad'.off + (k + 1), none⟩ = some (iC y1) := HE1.out wr hbr'
            clear hst hso hcell hae hLe hform
            generalize b[j].h = h at *
            have hwa : IntKind.i64.wrap (h + y1) = h + y1 := i64_in (by omega) (by omega)
            have hwb : IntKind.i64.wrap (h + y1 - y) = h + y1 - y := i64_in (by omega) (by omega)
            have j0 : (0 : Int) ≤ (j : Int) := by omega
            have j1 : (j : Int) < (b.length : Int) := by omega
            have hga : g ≠ ad'.block := by omega
            have hgb : ¬ (ad'.block = g) := by omega
            have hgc : g ≠ (ad'.add k).block := by rw [add_blk]; exact hga
            have hgd : ¬ ((ad'.add k).block = g) := fun h => hgc h.symm
            go_wp2_with fail
            go_region_law (fail)
            all_goals
              go_wp2
              go_roundg (gk - 1)
              case measure => omega
              case rel => exact ⟨j + 1, by omega, by go_num, HST.out _ (by with_reducible repeat (first | exact hoL | apply World.ownsRow.drew | apply own_drN)), HSO.out _ _ (by with_reducible repeat (first | exact hoO | apply World.ownsRow.drew | apply own_drN)), (by with_reducible repeat (first | exact hbr' | apply bl_drew | apply bl_drewN | refine bl_set ?_ (by show w1.heap.size ≤ g; exact hg1) _))⟩
          · obtain rfl : j = b.length := by omega
            rw [grN_all] at hoL
            have hgl2 : (growR (y1 - y) b).length = b.length := List.length_map _
            go_wp2_with fail
            go_roundg (gg - 1)
            case measure => omega
            case rel => exact ⟨k + 1, a, growR (y1 - y) b, by omega, by go_num, HM2, HI2, hoO, by rw [hgl2]; exact hoL, Lib.hid (by have := HSE.out; exact fun g hg => this g hg), hbr'⟩
    · have hkg : k = (gaps es).length := by omega
      have HK := Lib.hid hkg
      have hd : ¬ ((k : Int) + 1 < (es.length : Int)) := by omega
      have hw : IntKind.i64.wrap ((k : Int) + 1) = (k : Int) + 1 := i64_in (by omega) (by omega)
      clear hkg
      go_wp2_with (at_builtin; go_must (refine wpList_app _ rfl (.tmp 74) (.tmp 75) _ rfl w1.heap.size 26 iR _ 4 32 Try.underlying22 hiR zR0 zR1 zR2 rfl (by omega) (.slice OA a.length oc) a.length (a.flatMap rC) rfl hown wr.heap.size LA b.length lc (b.flatMap rC) rfl (Rds.own hownL) (by intro u hu; obtain ⟨q, _, hq⟩ := List.mem_flatMap.1 hu; simp [rC] at hq; rcases hq with rfl | rfl | rfl | rfl <;> rfl) (by simp only [maxLen]; omega) (by omega) (by have := hbr.size; omega) ?_); intro v5 w5 hown5 hg5 hat5)
      go_ret
      refine ⟨v5, rfl, ?_, bl_step hb1 (Below.grown hbr hg5 hbr.size (fun g hg => (hown.lt g hg).1))⟩
      rw [HMK.out, ← HK.out, HM.out, List.length_append, List.flatMap_append]
      exact own_lower hown5 hb1.size
end Go.Proofs.Ytclpppejabfbbaa.Wk
/- Plain: how long what is made can be, and where its edges lie. -/
namespace Go.Proofs.Ytclpppejabfbbaa.Wk
open Go.RowKit Go.Proofs.Ytclpppejabfbbaa.Kit Go.Proofs.Ytclpppejabfbbaa.Reg Go.Proofs.Ytclpppejabfbbaa.Rect

theorem make_form (op : Bool → Bool → Bool) (a b : List R) : makeR op a b = flat (mrg (cut (fun q => if rowSp op a b (xsF (a ++ b)) q = [] then none else some (rowSp op a b (xsF (a ++ b)) q)) (ysF (a ++ b)))) := by
  unfold makeR mrg
  have hinc : Inc (ysF (a ++ b)) := inc_esort _
  cases hy : ysF (a ++ b) with
  | nil => rfl
  | cons y r =>
    rw [hy] at hinc
    exact mk_fold _ r y [] ([], []) hinc (Int.le_refl _) (by simp) rfl (by simp) (by simp)
theorem push1_v {P : List Sp → Prop} {out : List Bd} {s : Bd} (h : ∀ b ∈ out, P b.v) (hs : P s.v) : ∀ b ∈ push1 out s, P b.v := by
  intro b hb
  unfold push1 at hb
  split at hb
  · rename_i c hc
    split at hb
    · rcases List.mem_append.1 hb with h1 | h1
      · exact h b (List.dropLast_subset _ h1)
      · obtain rfl : b = _ := by simpa using h1
        exact h c (List.mem_of_getLast? hc)
    · rcases List.mem_append.1 hb with h1 | h1
      · exact h b h1
      · obtain rfl : b = _ := by simpa using h1
        exact hs
  · rcases List.mem_append.1 hb with h1 | h1
    · exact h b h1
    · obtain rfl : b = _ := by simpa using h1
      exact hs
theorem foldl_v {P : List Sp → Prop} : ∀ (l out : List Bd), (∀ s ∈ l, P s.v) → (∀ b ∈ out, P b.v) → ∀ b ∈ l.foldl push1 out, P b.v
  | [], out, _, h => h
  | s :: l, out, hl, h => foldl_v l (push1 out s) (fun x hx => hl x (List.mem_cons_of_mem _ hx)) (push1_v h (hl s (List.mem_cons_self ..)))
/-- The edges of what is made are edges of what it is made of. -/
theorem make_edges (op : Bool → Bool → Bool) (a b : List R) : ∀ r ∈ makeR op a b, (r.x ∈ xsF (a ++ b) ∧ r.x + r.w ∈ xsF (a ++ b)) ∧ r.y ∈ ysF (a ++ b) ∧ r.y + r.h ∈ ysF (a ++ b) := by
  intro r hr
  rw [make_form] at hr
  obtain ⟨c, hc, hr⟩ := List.mem_flatMap.1 hr
  obtain ⟨s, hs, rfl⟩ := List.mem_map.1 hr
  have hcut : ∀ s ∈ cut (fun q => if rowSp op a b (xsF (a ++ b)) q = [] then none else some (rowSp op a b (xsF (a ++ b)) q)) (ysF (a ++ b)), (s.f ∈ ysF (a ++ b) ∧ s.t ∈ ysF (a ++ b)) ∧ ∀ t ∈ s.v, t.f ∈ xsF (a ++ b) ∧ t.t ∈ xsF (a ++ b) := by
    intro s hs
    unfold cut at hs
    obtain ⟨p, hp, he⟩ := List.mem_filterMap.1 hs
    obtain ⟨v, hv, rfl⟩ := Option.map_eq_some_iff.1 he
    refine ⟨gaps_in _ p hp, fun t ht => ?_⟩
    simp only at hv
    split at hv
    · cases hv
    · obtain rfl := Option.some.inj hv
      unfold rowSp at ht
      rw [← accK_all] at ht
      exact acc_in (fun x => if op (hasL a x p.1) (hasL b x p.1) then some () else none) _ _ t ht
  have h1 := foldl_in (P := fun x => x ∈ ysF (a ++ b)) (Q := fun x => x ∈ ysF (a ++ b)) _ [] (fun s hs => (hcut s hs).1) (by simp) c hc
  have h2 := foldl_v (P := fun v => ∀ t ∈ v, t.f ∈ xsF (a ++ b) ∧ t.t ∈ xsF (a ++ b)) _ [] (fun s hs => (hcut s hs).2) (by simp) c hc s hs
  unfold spR
  simp only
  rw [show s.f + (s.t - s.f) = s.t by omega, show c.f + (c.t - c.f) = c.t by omega]
  exact ⟨h2, h1⟩
theorem make_len (op : Bool → Bool → Bool) (a b : List R) : (makeR op a b).length ≤ (ysF (a ++ b)).length * (xsF (a ++ b)).length := by
  rw [make_form]
  refine Nat.le_trans (flat_mrg_len _ _) ?_
  have hr : ∀ q, (rowSp op a b (xsF (a ++ b)) q).length ≤ (xsF (a ++ b)).length := by
    intro q
    have := row_len2 (xs := xsF (a ++ b)) op a b q q
    rwa [List.length_map] at this
  refine Nat.le_trans (sum_le _ (xsF (a ++ b)).length _ fun c _ => hr c.1) ?_
  exact Nat.mul_le_mul_right _ (by have := gaps_len' (ysF (a ++ b)); omega)
/-- All edges lie in X and Y. -/
def InXY (X Y : List Int) (l : List R) : Prop := ∀ r ∈ l, (r.x ∈ X ∧ r.x + r.w ∈ X) ∧ r.y ∈ Y ∧ r.y + r.h ∈ Y
theorem InXY.xs {X Y : List Int} {l : List R} (h : InXY X Y l) : (∀ e ∈ xsF l, e ∈ X) ∧ ∀ e ∈ ysF l, e ∈ Y := by
  refine ⟨fun e he => ?_, fun e he => ?_⟩
  · obtain ⟨r, hr, h1⟩ := mem_xs.1 he
    have := h r hr
    rcases h1 with rfl | rfl
    · exact this.1.1
    · exact this.1.2
  · obtain ⟨r, hr, h1⟩ := mem_ys.1 he
    have := h r hr
    rcases h1 with rfl | rfl
    · exact this.2.1
    · exact this.2.2
theorem make_xy (op : Bool → Bool → Bool) {X Y : List Int} {a b : List R} (h : InXY X Y (a ++ b)) : InXY X Y (makeF op a b) ∧ (makeF op a b).length ≤ Y.length * X.length := by
  unfold makeF
  split
  · obtain ⟨h1, h2⟩ := h.xs
    refine ⟨fun r hr => ?_, ?_⟩
    · have := make_edges op a b r hr
      exact ⟨⟨h1 _ this.1.1, h1 _ this.1.2⟩, h2 _ this.2.1, h2 _ this.2.2⟩
    · exact Nat.le_trans (make_len op a b) (Nat.mul_le_mul (len_sub (inc_nodup (inc_esort _)) h2) (len_sub (inc_nodup (inc_esort _)) h1))
  · exact ⟨by intro r hr; simp at hr, by simp⟩
end Go.Proofs.Ytclpppejabfbbaa.Wk
