/- PaintLater, walked. Printed by gen_later.py. -/
import Derived.Test.YtjjdgbhplechbaaDoorCvFol
set_option linter.unusedVariables false
set_option linter.unusedSimpArgs false
namespace Go.Proofs.YtjjdgbhplechbaaDoor.Cv
open Go.RowKit Go.Proofs.YtjjdgbhplechbaaDoor.Kit Go.Proofs.YtjjdgbhplechbaaDoor.Rect Go.Proofs.YtjjdgbhplechbaaDoor.Pix
theorem infoV : (Tryd.prog.info? 60).map (fun i => (i.zero, i.size, i.bytes)) = some (some (.agg #[.int .i64 0, .int .i64 0, .int .i64 0, .int .i64 0, .int .i64 0, .int .i64 0]), 6, 48) := by kernel_rfl
theorem vwC_one (l : List Vw) : ∀ u ∈ l.flatMap vwC, u.oneCell' = true := by
  intro u hu
  obtain ⟨a, _, ha⟩ := List.mem_flatMap.1 hu
  simp only [vwC, List.mem_cons, List.not_mem_nil, or_false] at ha
  rcases ha with rfl | rfl | rfl | rfl | rfl | rfl <;> rfl
theorem drawn_clip {W H : Nat} {c1 c2 : List R} {f : Nat → Nat → Int → Int} {L : List Int} (hW : 0 < W) (hL : L.length = W * H) (h : ∀ x y : Nat, x < W → y < H → inn c1 (x : Int) (y : Int) = inn c2 (x : Int) (y : Int)) : drawn W H c1 f L = drawn W H c2 f L := by
  unfold drawn
  apply List.ext_getElem (by rw [pnt_len, pnt_len])
  intro i h1 h2
  have hi : i < L.length := by rw [pnt_len] at h1; exact h1
  rw [pnt_get hi, pnt_get hi]
  have hx : i % W < W := Nat.mod_lt _ hW
  have hy : i / W < H := Nat.div_lt_of_lt_mul (by rw [← hL]; exact hi)
  rw [h _ _ hx hy]
theorem paintV_clip {W H : Nat} {c1 c2 : List R} {m : List Im} {L : List Int} {v : Vw} (hW : 0 < W) (hL : L.length = W * H) (h : ∀ x y : Nat, x < W → y < H → inn c1 (x : Int) (y : Int) = inn c2 (x : Int) (y : Int)) : paintV W H c1 m L v = paintV W H c2 m L v := by
  unfold paintV
  split
  · rfl
  · unfold drawO
    rw [drawn_clip hW hL h]
theorem foldP_clip {W H : Nat} {c1 c2 : List R} {m : List Im} (hW : 0 < W) (h : ∀ x y : Nat, x < W → y < H → inn c1 (x : Int) (y : Int) = inn c2 (x : Int) (y : Int)) :
    ∀ (l : List Vw) (L : List Int), L.length = W * H → l.foldl (paintV W H c1 m) L = l.foldl (paintV W H c2 m) L
  | [], _, _ => rfl
  | v :: l, L, hL => by
    rw [List.foldl_cons, List.foldl_cons, paintV_clip hW hL h]
    exact foldP_clip hW h l _ (by rw [paintV_len]; exact hL)
def evR : R := ⟨-16777216, -16777216, 33554432, 33554432⟩
theorem inn_ev {x y : Nat} (hx : x < 48) (hy : y < 48) : inn [evR] (x : Int) (y : Int) = true := by
  simp only [inn, evR, List.any_cons, List.any_nil, Bool.or_false]
  rw [has_iff, inR_bound]
  unfold inR
  simp only
  omega
theorem later (back : Int) (a b : List Vw) (m : List Im) : allL 9 7 back (a ++ b) m (List.replicate (9 * 7) 0) = b.foldl (paintV 9 7 [evR] m) (allL 9 7 back a m (List.replicate (9 * 7) 0)) := by
  unfold allL
  rw [List.foldl_append]
  refine foldP_clip (by omega) (fun x y hx hy => ?_) b _ ?_
  · rw [inn_ev (by omega) (by omega)]
    exact inn_field (W := 9) (H := 7) (by omega) (by omega) hx hy
  · have : ∀ (l : List Vw) (L : List Int), L.length = 63 → (l.foldl (paintV 9 7 [⟨0, 0, ((9 : Nat) : Int), ((7 : Nat) : Int)⟩] m) L).length = 63 := by
      intro l
      induction l with
      | nil => intro L h; exact h
      | cons v l ih => intro L h; rw [List.foldl_cons]; exact ih _ (by rw [paintV_len]; exact h)
    exact this a _ (by unfold drawn; rw [pnt_len]; simp)
theorem ev_any (w : World) : Calls Tryd.prog 32 #[] w fun e w' => ∃ g, e = .returned (.slice (some ⟨g, 0, none⟩) 1 1) ∧ Bk w' g 32 (rV evR) ∧ w.heap.size ≤ g ∧ Below w.heap.size w w' := by
  go_enter Tryd.func32, Tryd.ntmps32
  go_wp2_with fail
  go_ret
  exact ⟨_, rfl, Bk.new _ _ _, Nat.le_refl _, bl_alloc (Below.refl _ _) _⟩
theorem rd1 {w : World} {B : Nat} {A : Option Addr} {L : List Int} (h : Rds w B 1 A L.length (L.map (Value.int .u32))) {i : Nat} (hi : i < L.length) : ∃ ad, A = some ad ∧ ad.block < B ∧ w.cell? (ad.add i) = some (.int .u32 L[i]) := by
  obtain ⟨ad, e, hb, hc⟩ := h.2 (by omega)
  exact ⟨ad, e, hb, hc i _ (by simp [hi])⟩
set_option maxHeartbeats 4000000 in
theorem same_words (A B : Option Addr) (c d : Nat) (L : List Int) (w : World) (hn : L.length ≤ 1000000) (hA : Rds w w.heap.size 1 A L.length (L.map (Value.int .u32))) (hB : Rds w w.heap.size 1 B L.length (L.map (Value.int .u32))) :
    Calls Tryd.prog 33 #[.slice A L.length c, .slice B L.length d] w fun e w' => e = .returned (.bool true) ∧ Below w.heap.size w w' := by
  go_enter Tryd.func33, Tryd.ntmps33
  go_wp2_with fail
  go_loopw [5] (fun i wr => ∃ k : Nat, k ≤ L.length ∧ i = .int .i64 (k : Int) ∧ Below w.heap.size w wr) (fun i _ => L.length - (intOf i).toNat)
  case atStart => exact ⟨0, by omega, rfl, Below.refl _ _⟩
  case round =>
    obtain ⟨k, hk, rfl, hbr⟩ := hrel
    by_cases hlt : k < L.length
    · obtain ⟨a1, rfl, hb1, hc1⟩ := rd1 (hA.be hbr) hlt
      obtain ⟨a2, rfl, hb2, hc2⟩ := rd1 (hB.be hbr) hlt
      have i0 : (0 : Int) ≤ (k : Int) := by omega
      have i1 : (k : Int) < (L.length : Int) := by omega
      obtain ⟨v, hv⟩ : ∃ v, L[k] = v := ⟨_, rfl⟩
      rw [hv] at hc1 hc2
      clear hv
      go_wp2_with fail
      go_quiet (fail)
      go_wp2_with fail
      go_roundw
      case rel => exact ⟨k + 1, by omega, by go_num, bl_drewN hbr _⟩
      case measure => simp [intOf]; omega
    · obtain rfl : k = L.length := by omega
      go_wp2_with fail
      go_ret
      exact ⟨rfl, hbr⟩
set_option maxRecDepth 100000 in
set_option maxHeartbeats 32000000 in
theorem later_law (back : Int) (A : Option Addr) (lc : Nat) (a : List Vw) (B : Option Addr) (bc : Nat) (b : List Vw) (A' : Option Addr) (lc' : Nat) (im : List Im) (w : World) (hback : 0 ≤ back ∧ back < 4294967296)
    (ha : Rds w w.heap.size 6 A a.length (a.flatMap vwC)) (hb : Rds w w.heap.size 6 B b.length (b.flatMap vwC)) (hr : RdI w w.heap.size A' im) :
    Calls Tryd.prog 9 #[.int .u32 back, .slice A a.length lc, .slice B b.length bc, .slice A' im.length lc'] w fun e w' => e = .returned (.bool true) ∧ Below w.heap.size w w' := by
  obtain ⟨iV, hiV, zV0, zV1, zV2⟩ := info_parts infoV
  have hback := Lib.hid hback
  go_enter Tryd.func9, Tryd.ntmps9
  go_wp2_with fail
  refine (images_any A' lc' im w hr).mono ?_
  rintro e w1 ⟨hb1, hcase⟩
  rcases hcase with ⟨hbad, rfl⟩ | ⟨hok, A1, c1, m, rfl, hmp, hown, hownI⟩
  · go_wp2_with fail
    refine (new_any 9 7 w1 (by omega) (by omega) (by omega) (by omega)).mono ?_
    rintro e w2 ⟨c, p, rfl, hc, hc0, hp0, hb2⟩
    go_wp2_with fail
    refine (new_any 9 7 w2 (by omega) (by omega) (by omega) (by omega)).mono ?_
    rintro e w3 ⟨d, q, rfl, hd, hd0, hq0, hb3⟩
    have hw2 := bl_step hb1 hb2
    have hw3 := bl_step hw2 hb3
    have hc3 := hc.be hb3
    go_wp2_with fail
    refine (awake23_any w3).mono ?_
    rintro e w4 ⟨rfl, hb4⟩
    go_wp2_with fail
    go_ret
    exact ⟨rfl, bl_step hw3 hb4⟩
  have hi8 : im.length ≤ 8 := by
    unfold okI at hok
    rw [Bool.and_eq_true] at hok
    simpa using hok.1
  have hml : m.length ≤ 1000000 := by have := congrArg List.length hmp; simp at this; omega
  have hm1 : RdI w1 w1.heap.size A1 m := ⟨Rds.own hown, fun g hg => Rds.own (hownI g hg), u32_pl hmp hr.u32⟩
  have hoff : ∀ p, w1.heap.size ≤ p → Off p A1 m := fun p hp => ⟨fun ad e => by subst e; have := (hown.lt ad.block rfl).2; omega, fun g hg ad e => by have := ((hownI g hg).lt ad.block (by rw [e]; rfl)).2; omega⟩
  have hoff := Lib.hid hoff
  have hm1 := Lib.hid hm1
  clear hown hownI hmp hok
  go_wp2_with fail
  refine (new_any 9 7 w1 (by omega) (by omega) (by omega) (by omega)).mono ?_
  rintro e w2 ⟨c, p, rfl, hc, hc0, hp0, hb2⟩
  go_wp2_with fail
  refine (new_any 9 7 w2 (by omega) (by omega) (by omega) (by omega)).mono ?_
  rintro e w3 ⟨d, q, rfl, hd, hd0, hq0, hb3⟩
  have hw2 := bl_step hb1 hb2
  have hw3 := bl_step hw2 hb3
  have hc3 := hc.be hb3
  by_cases h8a : 8 < a.length
  · have d8 : decide ((8 : Int) < (a.length : Int)) = true := by simp; omega
    go_wp2_with fail
    refine (awake23_any w3).mono ?_
    rintro e w4 ⟨rfl, hb4⟩
    go_wp2_with fail
    go_ret
    exact ⟨rfl, bl_step hw3 hb4⟩
  by_cases h8b : 8 < b.length
  · have d8 : decide ((8 : Int) < (b.length : Int)) = true := by simp; omega
    have d8a : decide ((8 : Int) < (a.length : Int)) = false := by simp; omega
    go_wp2_with fail
    refine (awake23_any w3).mono ?_
    rintro e w4 ⟨rfl, hb4⟩
    go_wp2_with fail
    go_ret
    exact ⟨rfl, bl_step hw3 hb4⟩
  have d8a : decide ((8 : Int) < (a.length : Int)) = false := by simp; omega
  have d8b : decide ((8 : Int) < (b.length : Int)) = false := by simp; omega
  have hs1 := hb1.size
  have hs2 := hb2.size
  have hs3 := hb3.size
  have hcl := hc.hd.lt
  have hpl := hc.px.lt
  have ha3 := (ha.be hw3).more hw3.size
  have hb3' := (hb.be hw3).more hw3.size
  go_wp2_with (first
    | (at_builtin; (refine wpList_app _ rfl (.const (.slice none 0 0)) (.tmp 62) _ rfl w3.heap.size 60 iV _ 6 48 Tryd.underlying53 hiV zV0 zV1 zV2 rfl (by omega) (.slice none 0 0) 0 [] rfl (World.ownsRow_nil _ _ _ _) w3.heap.size A a.length lc (a.flatMap vwC) rfl ha3 (vwC_one a) (by simp only [maxLen]; omega) (by omega) (Nat.le_refl _) ?_); intro v4 w4 own4 hg4 hat4; rw [Nat.zero_add, List.nil_append] at own4; have hb4 : Below w3.heap.size w3 w4 := (Below.refl _ _).grown hg4 (Nat.le_refl _) (by simp [Value.ownBlock]); have hbb4 := (hb3'.be hb4).more hb4.size; obtain ⟨A4, c4, rfl, _⟩ := own_form own4; have hs4 := hb4.size)
    | (at_builtin; (refine wpList_app _ rfl (.tmp 63) (.tmp 64) _ rfl w3.heap.size 60 iV _ 6 48 Tryd.underlying53 hiV zV0 zV1 zV2 rfl (by omega) (.slice A4 a.length c4) a.length (a.flatMap vwC) rfl own4 w4.heap.size B b.length bc (b.flatMap vwC) rfl hbb4 (vwC_one b) (by simp only [maxLen]; omega) (by omega) hs4 ?_); intro v5 w5 own5 hg5 hat5; have hb5 : Below w3.heap.size w3 w5 := hb4.grown hg5 hs4 (fun g hg => (own4.lt g hg).1); obtain ⟨A5, c5, rfl, _⟩ := own_form own5))
  have el : a.length + b.length = (a ++ b).length := by simp
  have ef : a.flatMap vwC ++ b.flatMap vwC = (a ++ b).flatMap vwC := by simp
  rw [el, ef] at own5
  rw [el]
  have hln : (a ++ b).length ≤ 1000000 := by rw [← el]; omega
  clear el ef
  have hp5 : p < w3.heap.size := by omega
  refine (all_any c p 9 7 _ back A5 c5 (a ++ b) A1 c1 m w5 (hc3.be hb5) hback.out (Rds.own own5) (fun _ ad e => by subst e; have := (own5.lt ad.block rfl).1; omega) hln ((hm1.out.be (bl_step (bl_step hb2 hb3) hb5)).more (bl_step (bl_step hb2 hb3) hb5).size) (hoff.out p hp0) hml).mono ?_
  rintro e w6 ⟨rfl, hs6, hc6⟩
  have hw5 := bl_step hw3 hb5
  have hs5 := hb5.size
  have hw6 : Below w.heap.size w w6 := hs6.below hw5 (by omega) hw5.size
  have h16 : Below w1.heap.size w1 w6 := hs6.below (bl_step (bl_step hb2 hb3) hb5) hp0 (by omega)
  have hd6 : Cv w6 d q 9 7 _ := (hd.be hb5).sav hs6 (by omega) (by omega)
  have hs6s := hs6.size
  clear own4 own5 hbb4 hb4
  go_wp2_with fail
  refine (all_any d q 9 7 _ back A lc a A1 c1 m w6 hd6 hback.out ((ha.be hw6).more hw6.size) (Rds.off ha (by omega)) (by omega) ((hm1.out.be h16).more h16.size) (hoff.out q (by omega)) hml).mono ?_
  rintro e w7 ⟨rfl, hs7, hd7⟩
  have hc7 : Cv w7 c p 9 7 _ := hc6.sav hs7 (by have := hc.hd.lt; omega) (by omega)
  have hw7 : Below w.heap.size w w7 := hs7.below hw6 (by omega) hw6.size
  have h17 : Below w1.heap.size w1 w7 := hs7.below h16 (by omega) h16.size
  have hLab := later back a b m
  obtain ⟨L7, hL7⟩ : ∃ L7, allL 9 7 back a m (List.replicate (9 * 7) 0) = L7 := ⟨_, rfl⟩
  rw [hLab] at hc7
  rw [hL7] at hd7 hc7
  have hcq : c ≠ q := by omega
  have hpq : p ≠ q := by omega
  have hq1 : w1.heap.size ≤ q := by omega
  have hqw : w.heap.size ≤ q := by omega
  have hc7 := Lib.hid hc7
  have hd7 := Lib.hid hd7
  clear hLab hL7 hc6 hd6 hs6 hs7 hc hd hc3 hp5 ha3 hb3' hcl hpl hc0 hp0 hd0 hq0 hs1 hs2 hs3 hs5 hs6s hb5 hb2 hb3 hw2 hw3 hw5 hw6 h16 hg4 hg5
  go_wp2_with fail
  go_loopw [15, 16, 17] (fun s15 _ _ wr => ∃ k : Nat, k ≤ b.length ∧ s15 = .int .i64 (k : Int) ∧ Sav q w7 wr ∧ Hid (Cv wr d q 9 7 ((b.take k).foldl (paintV 9 7 [evR] m) L7))) (fun s15 _ _ _ => b.length - (intOf s15).toNat)
  case atStart => exact ⟨0, by omega, rfl, Sav.refl _ _, hd7⟩
  case round =>
    obtain ⟨k, hk, rfl, hsr, hdr⟩ := hrel
    have hwr : Below w.heap.size w wr := hsr.below hw7 hqw hw7.size
    have h1r : Below w1.heap.size w1 wr := hsr.below h17 hq1 h17.size
    by_cases hlt : k < b.length
    · have hd : decide ((k : Int) < (b.length : Int)) = true := by simp; omega
      have i0 : (0 : Int) ≤ (k : Int) := by omega
      have i1 : (k : Int) < (b.length : Int) := by omega
      obtain ⟨ad, rfl, hbl, u0, u1, u2, u3, u4, u5⟩ := at6 (hb.be hwr) hlt
      have hmr := Lib.hid ((hm1.out.be h1r).more h1r.size)
      have hstep := Lib.hid (foldl_take (paintV 9 7 [evR] m) L7 b hlt)
      obtain ⟨Lk, hLk⟩ : ∃ Lk, (b.take k).foldl (paintV 9 7 [evR] m) L7 = Lk := ⟨_, rfl⟩
      rw [hLk] at hdr hstep
      generalize hs : b[k] = v at *
      have hs := Lib.hid hs
      have hlt := Lib.hid hlt
      go_wp2_with fail
      refine (find_any A1 c1 m v.b wr hml hmr.out.row).mono ?_
      rintro e wb ⟨rfl, hbb⟩
      have hmb := Lib.hid ((hmr.out.be hbb).more hbb.size)
      have hdb := Lib.hid (hdr.out.be hbb)
      have hsb := hsr.step hbb
      cases hf : findI m v.b with
      | none =>
        have e1 : (imC (opI (none : Option Im))).toArray = #[.int .i64 0, .int .i64 0, .int .i64 0, .slice none 0 0] := rfl
        have e2 : (none : Option Im).isSome = false := rfl
        rw [e1, e2]
        have hpv : paintV 9 7 [evR] m Lk v = Lk := by unfold paintV; rw [hf]
        have hpv := Lib.hid hpv
        have hsb2 := hsb.al (.cells #[.int .i64 0, .int .i64 0, .int .i64 0, .slice none 0 0] 73)
        have hdb2 := Lib.hid (hdb.out.be (bl_alloc (Below.refl _ _) (.cells #[.int .i64 0, .int .i64 0, .int .i64 0, .slice none 0 0] 73)))
        clear hf
        go_wp2_with fail
        go_roundw
        case rel => exact ⟨k + 1, hlt.out, by go_num, hsb2, by rw [hstep.out, hpv.out]; exact hdb2⟩
        case measure => have := hlt.out; simp [intOf]; omega
      | some g =>
        have e1 : (imC (opI (some g))).toArray = #[.int .i64 g.b, .int .i64 g.w, .int .i64 g.h, .slice g.A g.P.length g.c] := rfl
        have e2 : (some g).isSome = true := rfl
        rw [e1, e2]
        have hpv : paintV 9 7 [evR] m Lk v = drawO 9 7 [evR] v.x v.y g.w g.h g.P Lk := by unfold paintV; rw [hf]
        have hpv := Lib.hid hpv
        have hgm := Lib.hid (show g ∈ m from List.mem_of_find?_eq_some hf)
        clear hf
        go_upto_region 13 with fail
        generalize hwv : World.alloc _ _ = wc
        have Bi : Bk wc wb.heap.size 73 #[.int .i64 g.b, .int .i64 g.w, .int .i64 g.h, .slice g.A g.P.length g.c] := hwv ▸ Bk.new _ _ _
        have hbc : Below wb.heap.size wb wc := hwv ▸ bl_alloc (Below.refl _ _) _
        obtain ⟨gi, hgi⟩ : ∃ gi, wb.heap.size = gi := ⟨_, rfl⟩
        have hgiq : gi ≠ q := by have := hdb.out.px.lt; omega
        rw [hgi] at Bi ⊢
        have hdc := Lib.hid (hdb.out.be hbc)
        have hmc := Lib.hid ((hmb.out.be hbc).more hbc.size)
        have hsc := hsb.step hbc
        have hwc : Below w.heap.size w wc := hsc.below hw7 hqw hw7.size
        have h64 : ∀ r ∈ [evR], I64 r := by intro r hr; obtain rfl := List.mem_singleton.1 hr; unfold I64 evR; simp only; omega
        have h64 := Lib.hid h64
        have hblq : (ad.add (k * 6)).block < w.heap.size := by rw [add_blk]; exact hbl
        obtain ⟨ad', ead, _, y0, y1, y2, y3, y4, y5⟩ := at6 (hb.be hwc) hlt.out
        obtain rfl : ad = ad' := Option.some.inj ead
        rw [hs.out] at y2 y3
        clear hwv hgi hbc y0 y1 y4 y5 ead u0 u1 u2 u3 u4 u5 hmb hdb hsb
        have hS : ∀ w' : World, Sav q wc w' → (Sav q wc w' ∧ w'.cell? ⟨(ad.add (k * 6)).block, (ad.add (k * 6)).off + 2, none⟩ = some (.int .i64 v.x) ∧ w'.cell? ⟨(ad.add (k * 6)).block, (ad.add (k * 6)).off + 3, none⟩ = some (.int .i64 v.y) ∧ w'.cell? ⟨gi, 0, none⟩ = some (.int .i64 g.b) ∧ w'.cell? ⟨gi, 1, none⟩ = some (.int .i64 g.w) ∧ w'.cell? ⟨gi, 2, none⟩ = some (.int .i64 g.h) ∧ w'.cell? ⟨gi, 3, none⟩ = some (.slice g.A g.P.length g.c)) := fun w' hs => ⟨hs, (World.cell?_of_block (w := wc) (a := ⟨(ad.add (k * 6)).block, (ad.add (k * 6)).off + 2, none⟩) (hs.block _ (Nat.lt_of_lt_of_le hblq hwc.size) (Nat.ne_of_lt (Nat.lt_of_lt_of_le hblq hqw)))).trans y2, (World.cell?_of_block (w := wc) (a := ⟨(ad.add (k * 6)).block, (ad.add (k * 6)).off + 3, none⟩) (hs.block _ (Nat.lt_of_lt_of_le hblq hwc.size) (Nat.ne_of_lt (Nat.lt_of_lt_of_le hblq hqw)))).trans y3, (hs.bk Bi hgiq).c4⟩
        have hS := Lib.hid hS
        refine wp_region_held_drew (S := fun w' : World => Sav q wc w' ∧ w'.cell? ⟨(ad.add (k * 6)).block, (ad.add (k * 6)).off + 2, none⟩ = some (.int .i64 v.x) ∧ w'.cell? ⟨(ad.add (k * 6)).block, (ad.add (k * 6)).off + 3, none⟩ = some (.int .i64 v.y) ∧ w'.cell? ⟨gi, 0, none⟩ = some (.int .i64 g.b) ∧ w'.cell? ⟨gi, 1, none⟩ = some (.int .i64 g.w) ∧ w'.cell? ⟨gi, 2, none⟩ = some (.int .i64 g.h) ∧ w'.cell? ⟨gi, 3, none⟩ = some (.slice g.A g.P.length g.c)) (by kernel_rfl) (by (try dsimp only); exact hS.out _ (by first | exact Sav.refl _ _ | exact (Sav.refl _ _).dr)) (fun hHeld => ?_)
        refine wpAnyH_take (i := 0) (v := ?_) rfl (by kernel_rfl) (by kernel_rfl) (by kernel_rfl) (fun _ _ _ h => h) (Or.inl ⟨by rfl, ?_⟩) (by assumption) ?_
        rotate_left
        · (intro w hSw; (try dsimp only at hSw); go_simp; try (with_reducible rfl))
        (try simp only [Act.put, List.setIfInBounds_toArray, List.set_cons_zero, List.set_cons_succ])
        refine wpAnyH_take (i := 1) (v := ?_) rfl (by kernel_rfl) (by kernel_rfl) (by kernel_rfl) (fun _ _ _ h => h) (Or.inl ⟨by rfl, ?_⟩) (by assumption) ?_
        rotate_left
        · (intro w hSw; (try dsimp only at hSw); go_simp; try (with_reducible rfl))
        (try simp only [Act.put, List.setIfInBounds_toArray, List.set_cons_zero, List.set_cons_succ])
        refine wpAnyH_take (i := 2) (v := ?_) rfl (by kernel_rfl) (by kernel_rfl) (by kernel_rfl) (fun _ _ _ h => h) (Or.inl ⟨by rfl, ?_⟩) (by assumption) ?_
        rotate_left
        · (intro w hSw; (try dsimp only at hSw); go_simp; try (with_reducible rfl))
        (try simp only [Act.put, List.setIfInBounds_toArray, List.set_cons_zero, List.set_cons_succ])
        refine wpAnyH_take (i := 3) (v := ?_) rfl (by kernel_rfl) (by kernel_rfl) (by kernel_rfl) (fun _ _ _ h => h) (Or.inl ⟨by rfl, ?_⟩) (by assumption) ?_
        rotate_left
        · (intro w hSw; (try dsimp only at hSw); go_simp; try (with_reducible rfl))
        (try simp only [Act.put, List.setIfInBounds_toArray, List.set_cons_zero, List.set_cons_succ])
        refine wpAnyH_take (i := 4) (v := ?_) rfl (by kernel_rfl) (by kernel_rfl) (by kernel_rfl) (fun _ _ _ h => h) (Or.inl ⟨by rfl, ?_⟩) (by assumption) ?_
        rotate_left
        · (intro w hSw; (try dsimp only at hSw); go_simp; try (with_reducible rfl))
        (try simp only [Act.put, List.setIfInBounds_toArray, List.set_cons_zero, List.set_cons_succ])
        refine wpAnyH_take (i := 5) (v := ?_) rfl (by kernel_rfl) (by kernel_rfl) (by kernel_rfl) (fun _ _ _ h => h) (Or.inl ⟨by rfl, ?_⟩) (by assumption) ?_
        rotate_left
        · (intro w hSw; (try dsimp only at hSw); go_simp; try (with_reducible rfl))
        (try simp only [Act.put, List.setIfInBounds_toArray, List.set_cons_zero, List.set_cons_succ])
        refine wpAnyH_take (i := 6) (v := ?_) rfl (by kernel_rfl) (by kernel_rfl) (by kernel_rfl) (fun _ _ _ h => h) (Or.inl ⟨by rfl, ?_⟩) (by assumption) ?_
        rotate_left
        · (intro w hSw; (try dsimp only at hSw); go_simp; try (with_reducible rfl))
        (try simp only [Act.put, List.setIfInBounds_toArray, List.set_cons_zero, List.set_cons_succ])
        refine wpAnyH_take (i := 7) (v := ?_) rfl (by kernel_rfl) (by kernel_rfl) (by kernel_rfl) (fun _ _ _ h => h) (Or.inl ⟨by rfl, ?_⟩) (by assumption) ?_
        rotate_left
        · (intro w hSw; (try dsimp only at hSw); go_simp; try (with_reducible rfl))
        (try simp only [Act.put, List.setIfInBounds_toArray, List.set_cons_zero, List.set_cons_succ])
        refine wpAnyH_take (i := 8) (v := ?_) rfl (by kernel_rfl) (by kernel_rfl) (by kernel_rfl) (fun _ _ _ h => h) (Or.inl ⟨by rfl, ?_⟩) (by assumption) ?_
        rotate_left
        · (intro w hSw; (try dsimp only at hSw); go_simp; try (with_reducible rfl))
        (try simp only [Act.put, List.setIfInBounds_toArray, List.set_cons_zero, List.set_cons_succ])
        refine wpAnyH_take (i := 9) (v := ?_) rfl (by kernel_rfl) (by kernel_rfl) (by kernel_rfl) (fun _ _ _ h => h) (Or.inl ⟨by rfl, ?_⟩) (by assumption) ?_
        rotate_left
        · (intro w hSw; (try dsimp only at hSw); go_simp; try (with_reducible rfl))
        (try simp only [Act.put, List.setIfInBounds_toArray, List.set_cons_zero, List.set_cons_succ])
        refine wpAnyH_take (i := 10) (v := ?_) rfl (by kernel_rfl) (by kernel_rfl) (by kernel_rfl) (fun _ _ _ h => h) (Or.inl ⟨by rfl, ?_⟩) (by assumption) ?_
        rotate_left
        · (intro w hSw; (try dsimp only at hSw); go_simp; try (with_reducible rfl))
        (try simp only [Act.put, List.setIfInBounds_toArray, List.set_cons_zero, List.set_cons_succ])
        refine wpAnyH_take (i := 11) (v := ?_) rfl (by kernel_rfl) (by kernel_rfl) (by kernel_rfl) (fun _ _ _ h => h) (Or.inl ⟨by rfl, ?_⟩) (by assumption) ?_
        rotate_left
        · (intro w hSw; (try dsimp only at hSw); go_simp; try (with_reducible rfl))
        (try simp only [Act.put, List.setIfInBounds_toArray, List.set_cons_zero, List.set_cons_succ])
        refine wpAnyH_take (i := 12) (v := ?_) rfl (by kernel_rfl) (by kernel_rfl) (by kernel_rfl) (fun _ _ _ h => h) (Or.inl ⟨by rfl, ?_⟩) (by assumption) ?_
        rotate_left
        · (intro w hSw; (try dsimp only at hSw); go_simp; try (with_reducible rfl))
        (try simp only [Act.put, List.setIfInBounds_toArray, List.set_cons_zero, List.set_cons_succ])
        refine wpAnyH_take (i := 13) (v := ?_) rfl (by kernel_rfl) (by kernel_rfl) (by kernel_rfl) (fun _ _ _ h => h) (Or.inl ⟨by rfl, ?_⟩) (by assumption) ?_
        rotate_left
        · (intro w hSw; (try dsimp only at hSw); go_simp; try (with_reducible rfl))
        (try simp only [Act.put, List.setIfInBounds_toArray, List.set_cons_zero, List.set_cons_succ])
        refine wpAnyH_take (i := 14) (v := ?_) rfl (by kernel_rfl) (by kernel_rfl) (by kernel_rfl) (fun _ _ _ h => h) (Or.inl ⟨by rfl, ?_⟩) (by assumption) ?_
        rotate_left
        · (intro w hSw; (try dsimp only at hSw); go_simp; try (with_reducible rfl))
        (try simp only [Act.put, List.setIfInBounds_toArray, List.set_cons_zero, List.set_cons_succ])
        refine wpAnyH_take (i := 15) (v := ?_) rfl (by kernel_rfl) (by kernel_rfl) (by kernel_rfl) (fun _ _ _ h => h) (Or.inl ⟨by rfl, ?_⟩) (by assumption) ?_
        rotate_left
        · (intro w hSw; (try dsimp only at hSw); go_simp; try (with_reducible rfl))
        (try simp only [Act.put, List.setIfInBounds_toArray, List.set_cons_zero, List.set_cons_succ])
        refine wpAnyH_take (i := 16) (v := ?_) rfl (by kernel_rfl) (by kernel_rfl) (by kernel_rfl) (fun _ _ _ h => h) (Or.inl ⟨by rfl, ?_⟩) (by assumption) ?_
        rotate_left
        · (intro w hSw; (try dsimp only at hSw); go_simp; try (with_reducible rfl))
        (try simp only [Act.put, List.setIfInBounds_toArray, List.set_cons_zero, List.set_cons_succ])
        refine wpAnyH_ready (rs := [17]) (by kernel_rfl) (by simp) ?_
        refine AllReadyH.cons (i := 17) rfl (fun K hK => ?_) AllReadyH.nil
        go_simp
        go_at_call 32
        refine (ev_any _).mono ?_
        rintro e we ⟨ge, rfl, Be, hge, hbe⟩
        have hbe' : Below wc.heap.size wc we := (by first | exact hbe | exact bl_step (bl_drew (Below.refl _ _)) hbe)
        have hgeq : ge ≠ q := (by have := hdc.out.px.lt; have := hbe'.size; first | omega | (have := hge; simp at this; omega))
        try (go_wp2_with fail)
        refine hK.out _ _ (by (try dsimp only); exact hS.out _ (Sav.of hbe')) (fun hHeld2 => ?_)
        clear hHeld
        rename _ => hHeld
        clear hK K
        (try simp only [Act.put, List.setIfInBounds_toArray, List.set_cons_zero, List.set_cons_succ])
        refine wpAnyH_ready (rs := [18]) (by kernel_rfl) (by simp) ?_
        refine AllReadyH.cons (i := 18) rfl (fun K hK => ?_) AllReadyH.nil
        go_simp
        go_at_call 21
        refine (draw_all d q 9 7 Lk v.x v.y g.w g.h g.A g.P.length g.c g.P (some ⟨ge, 0, none⟩) 1 [evR] we (hdc.out.be hbe') rfl (((hmc.out.each g hgm.out).be hbe').more hbe'.size) (hmc.out.u32 g hgm.out) ((hoff.out q hq1).2 g hgm.out) (one_rds Be) (by intro ad e; injection e with e; subst e; exact hgeq) h64.out (by simp)).mono ?_
        rintro e wd ⟨rfl, hsd, hdd⟩
        have hsd' := (Sav.of hbe').trans hsd
        have hdd := Lib.hid hdd
        try (go_wp2_with fail)
        refine hK.out _ _ (by (try dsimp only); exact hS.out _ hsd') (fun hHeld2 => ?_)
        clear hHeld
        rename _ => hHeld
        clear hK K
        (try simp only [Act.put, List.setIfInBounds_toArray, List.set_cons_zero, List.set_cons_succ])
        refine wpAnyH_done (by kernel_rfl) ?_ _
        clear hHeld
        go_wp2_with fail
        have hsx := hsc.trans hsd'
        clear hS
        go_roundw
        case rel => exact ⟨k + 1, hlt.out, by go_num, hsx, by rw [hstep.out, hpv.out]; exact hdd⟩
        case measure => have := hlt.out; simp [intOf]; omega
    · obtain rfl : k = b.length := by omega
      have hd : decide ((b.length : Int) < (b.length : Int)) = false := by simp
      rw [List.take_length] at hdr
      obtain ⟨LL, hLL⟩ : ∃ LL, b.foldl (paintV 9 7 [evR] m) L7 = LL := ⟨_, rfl⟩
      have hcr := hc7.out.sav hsr hcq hpq
      rw [hLL] at hdr hcr
      have hcr := Lib.hid hcr
      have hLn : LL.length = 63 := hcr.out.len
      go_wp2_with fail
      refine (pixels_any c p 9 7 LL wr hcr.out).mono ?_
      rintro e w8 ⟨r1, rfl, Br1, hr1, hb8⟩
      go_wp2_with fail
      refine (pixels_any d q 9 7 LL w8 (hdr.out.be hb8)).mono ?_
      rintro e w9 ⟨r2, rfl, Br2, hr2, hb9⟩
      have Br1' := Br1.be hb9
      have hR1 : Rds w9 w9.heap.size 1 (some ⟨r1, 0, none⟩) LL.length (LL.map (Value.int .u32)) := by
        have := Rds.block (n := LL.length) (sz := 1) Br1' (by rw [px_size, Nat.mul_one]) Br1'.lt
        simpa [pxV] using this
      have hR2 : Rds w9 w9.heap.size 1 (some ⟨r2, 0, none⟩) LL.length (LL.map (Value.int .u32)) := by
        have := Rds.block (n := LL.length) (sz := 1) Br2 (by rw [px_size, Nat.mul_one]) Br2.lt
        simpa [pxV] using this
      have hw9 := bl_step (bl_step hwr hb8) hb9
      have hsame := same_words (some ⟨r1, 0, none⟩) (some ⟨r2, 0, none⟩) (9 * 7) (9 * 7) LL w9 (by omega) hR1 hR2
      rw [show LL.length = 9 * 7 from hLn] at hsame
      have hsame := Lib.hid hsame
      clear hR1 hR2 Br1 Br2 Br1' hLn hLL
      go_wp2_with fail
      refine hsame.out.mono ?_
      rintro e w10 ⟨rfl, hb10⟩
      have hw10 := bl_step hw9 hb10
      go_wp2_with fail
      refine (awake23_any w10).mono ?_
      rintro e w11 ⟨rfl, hb11⟩
      go_wp2_with fail
      go_ret
      exact ⟨rfl, bl_step hw10 hb11⟩
theorem PaintLater_walk (back : Int) (wk : (Lit.int .u32 back).wf = true) (A : Option Addr) (lc : Nat) (a : List Vw) (B : Option Addr) (bc : Nat) (b : List Vw) (A' : Option Addr) (lc' : Nat) (im : List Im) (w : World)
    (hl : a.length ≤ lc) (rd : Rds w w.heap.size 6 A a.length (a.flatMap vwC)) (mx : a.length ≤ 9223372036854775807) (hl2 : b.length ≤ bc) (rd2 : Rds w w.heap.size 6 B b.length (b.flatMap vwC)) (mx2 : b.length ≤ 9223372036854775807) (hl' : im.length ≤ lc') (rd' : RdI w w.heap.size A' im) (mx' : im.length ≤ 9223372036854775807) :
    Calls Tryd.prog 9 #[.int .u32 back, .slice A a.length lc, .slice B b.length bc, .slice A' im.length lc'] w fun e w' => e = .returned (.bool true) ∧ Below w.heap.size w w' :=
  later_law back A lc a B bc b A' lc' im w (by have := bounds_u32 wk; omega) rd rd2 rd'
end Go.Proofs.YtjjdgbhplechbaaDoor.Cv
