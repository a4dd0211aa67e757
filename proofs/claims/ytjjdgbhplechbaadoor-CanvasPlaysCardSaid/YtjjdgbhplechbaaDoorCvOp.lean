/- Calls on a canvas: tableaulaw14.play. Printed by gen_op.py. -/
import Derived.Test.YtjjdgbhplechbaaDoorCvPla
set_option linter.unusedVariables false
set_option linter.unusedSimpArgs false
namespace Go.Proofs.YtjjdgbhplechbaaDoor.Cv
open Go.RowKit Go.Proofs.YtjjdgbhplechbaaDoor.Kit Go.Proofs.YtjjdgbhplechbaaDoor.Rect Go.Proofs.YtjjdgbhplechbaaDoor.Pix
/-- a call -/
structure Op where
  k : Int
  x : Int
  y : Int
  w : Int
  h : Int
  col : Int
  P : List Int
  PA : Option Addr
  pc : Nat
  cl : List R
  CA : Option Addr
  cc : Nat
def opC (o : Op) : List Value := [.int .i64 o.k, .int .i64 o.x, .int .i64 o.y, .int .i64 o.w, .int .i64 o.h, .int .u32 o.col, .slice o.PA o.P.length o.pc, .slice o.CA o.cl.length o.cc]
theorem opC_len (o : Op) : (opC o).length = 8 := rfl
/-- what hangs on a call lies below block B -/
structure OpOk (w : World) (B : Nat) (o : Op) : Prop where
  p : Rds w B 1 o.PA o.P.length (o.P.map (Value.int .u32))
  c : Rds w B 4 o.CA o.cl.length (o.cl.flatMap rC)
  u32 : ∀ v ∈ o.P, 0 ≤ v ∧ v < 4294967296
  col : 0 ≤ o.col ∧ o.col < 4294967296
  i64 : ∀ r ∈ o.cl, I64 r
theorem OpOk.be {w w' : World} {B : Nat} {o : Op} (h : OpOk w B o) (hb : Below B w w') : OpOk w' B o := ⟨h.p.be hb, h.c.be hb, h.u32, h.col, h.i64⟩
structure RdO (w : World) (B : Nat) (A : Option Addr) (l : List Op) : Prop where
  row : Rds w B 8 A l.length (l.flatMap opC)
  each : ∀ o ∈ l, OpOk w B o
theorem RdO.be {w w' : World} {B : Nat} {A : Option Addr} {l : List Op} (h : RdO w B A l) (hb : Below B w w') : RdO w' B A l := ⟨h.row.be hb, fun o ho => (h.each o ho).be hb⟩
theorem at8 {w : World} {B : Nat} {A : Option Addr} {l : List Op} (h : Rds w B 8 A l.length (l.flatMap opC)) {i : Nat} (hi : i < l.length) :
    ∃ ad, A = some ad ∧ ad.block < B ∧ w.cell? (ad.add (i * 8)) = some (.int .i64 l[i].k) ∧ w.cell? ⟨(ad.add (i * 8)).block, (ad.add (i * 8)).off + 1, none⟩ = some (.int .i64 l[i].x) ∧ w.cell? ⟨(ad.add (i * 8)).block, (ad.add (i * 8)).off + 2, none⟩ = some (.int .i64 l[i].y) ∧ w.cell? ⟨(ad.add (i * 8)).block, (ad.add (i * 8)).off + 3, none⟩ = some (.int .i64 l[i].w) ∧ w.cell? ⟨(ad.add (i * 8)).block, (ad.add (i * 8)).off + 4, none⟩ = some (.int .i64 l[i].h) ∧ w.cell? ⟨(ad.add (i * 8)).block, (ad.add (i * 8)).off + 5, none⟩ = some (.int .u32 l[i].col) ∧ w.cell? ⟨(ad.add (i * 8)).block, (ad.add (i * 8)).off + 6, none⟩ = some (.slice l[i].PA l[i].P.length l[i].pc) ∧ w.cell? ⟨(ad.add (i * 8)).block, (ad.add (i * 8)).off + 7, none⟩ = some (.slice l[i].CA l[i].cl.length l[i].cc) := by
  obtain ⟨ad, e, hb, hc⟩ := Rds.elem opC 8 opC_len h hi
  exact ⟨ad, e, hb, hc 0 _ (by omega) rfl, by rw [add_at ad (i * 8) 0]; exact hc 1 _ (by omega) rfl, by rw [add_at ad (i * 8) 1]; exact hc 2 _ (by omega) rfl, by rw [add_at ad (i * 8) 2]; exact hc 3 _ (by omega) rfl, by rw [add_at ad (i * 8) 3]; exact hc 4 _ (by omega) rfl, by rw [add_at ad (i * 8) 4]; exact hc 5 _ (by omega) rfl, by rw [add_at ad (i * 8) 5]; exact hc 6 _ (by omega) rfl, by rw [add_at ad (i * 8) 6]; exact hc 7 _ (by omega) rfl⟩
theorem Bk.c8 {w : World} {g : Nat} {t : TypeId} {a b c d e f k l : Value} (h : Bk w g t #[a, b, c, d, e, f, k, l]) :
    w.cell? ⟨g, 0, none⟩ = some a ∧ w.cell? ⟨g, 1, none⟩ = some b ∧ w.cell? ⟨g, 2, none⟩ = some c ∧ w.cell? ⟨g, 3, none⟩ = some d ∧ w.cell? ⟨g, 4, none⟩ = some e ∧ w.cell? ⟨g, 5, none⟩ = some f ∧ w.cell? ⟨g, 6, none⟩ = some k ∧ w.cell? ⟨g, 7, none⟩ = some l := ⟨h.cell 0, h.cell 1, h.cell 2, h.cell 3, h.cell 4, h.cell 5, h.cell 6, h.cell 7⟩
theorem rects_any (A : Option Addr) (c : Nat) (l : List R) (w : World) (hn : l.length ≤ 1000000) (hr : Rds w w.heap.size 4 A l.length (l.flatMap rC)) :
    Calls Tryd.prog 56 #[.slice A l.length c] w fun e w' => ∃ A' c', e = .returned (.slice A' l.length c') ∧ w'.ownsRow w.heap.size 32 4 (.slice A' l.length c') l.length (l.flatMap rC) ∧ Below w.heap.size w w' := by
  obtain ⟨iR, hiR, zR0, zR1, zR2⟩ := info_parts infoR
  go_enter Tryd.func56, Tryd.ntmps56
  go_wp2_with (at_builtin; go_must (refine wpList_app _ rfl (.const (.slice none 0 0)) (.tmp 3) _ rfl w.heap.size 32 iR _ 4 32 Tryd.underlying33 hiR zR0 zR1 zR2 rfl (by omega) (.slice none 0 0) 0 [] rfl (World.ownsRow_nil _ _ _ _) w.heap.size A l.length c (l.flatMap rC) rfl hr (rC_one l) (by simp only [maxLen]; omega) (by omega) (Nat.le_refl _) ?_); intro v1 w1 hown1 hg1 hat1)
  go_ret
  rw [Nat.zero_add, List.nil_append] at hown1
  obtain ⟨A', c', rfl, _⟩ := own_form hown1
  exact ⟨A', c', rfl, hown1, (Below.refl _ _).grown hg1 (Nat.le_refl _) (by simp [Value.ownBlock])⟩

set_option maxRecDepth 100000 in
set_option maxHeartbeats 32000000 in
theorem play_any (c p d q W H B : Nat) (L : List Int) (A : Option Addr) (lc : Nat) (l : List Op) (w : World) (hc : Cv w c p W H L) (hd : Cr w d q W H L) (hcq : c ≠ q) (hpq : p ≠ q) (hdp : d ≠ p) (hBp : B ≤ p) (hBq : B ≤ q) (hB : B ≤ w.heap.size)
    (hl : RdO w B A l) :
    Calls Tryd.prog 25 #[.pointer (some ⟨c, 0, none⟩), .pointer (some ⟨d, 0, none⟩), .slice A l.length lc] w fun e w' => e = .returned (.bool true) ∧ Below B w w' ∧ ∃ L', Cv w' c p W H L' := by
  have h20 := Lib.hid (wh_le hc.w2 hc.h2)
  have hcw := Lib.hid hc
  have hdw := Lib.hid hd
  clear hc hd
  go_enter Tryd.func25, Tryd.ntmps25
  go_wp2_with fail
  go_loopw [7, 8] (fun s7 _ wr => ∃ k : Nat, k ≤ l.length ∧ s7 = .int .i64 (k : Int) ∧ Below B w wr ∧ ∃ Lk, Hid (Cv wr c p W H Lk) ∧ Hid (Cr wr d q W H Lk)) (fun s7 _ _ => l.length - (intOf s7).toNat)
  case atStart => exact ⟨0, by omega, rfl, Below.refl _ _, L, hcw, hdw⟩
  case round =>
    obtain ⟨k, hk, rfl, hbr, Lk, hcr, hdr⟩ := hrel
    have hszr : B ≤ wr.heap.size := Nat.le_trans hB hbr.size
    by_cases hlt : k < l.length
    · have hd : decide ((k : Int) < (l.length : Int)) = true := dec_t (lt_cast hlt)
      by_cases h15 : k < 15
      · have d15 : decide ((k : Int) < 15) = true := dec_t (lt_cast h15)
        have i0 : (0 : Int) ≤ (k : Int) := cast_nn k
        have i1 : (k : Int) < (l.length : Int) := lt_cast hlt
        have hor := (hl.be hbr).each l[k] (List.getElem_mem hlt)
        obtain ⟨ad, rfl, hbl, c0, c1, c2, c3, c4, c5, c6, c7⟩ := at8 (hl.be hbr).row hlt
        generalize hs : l[k] = o at *
        have hor := Lib.hid hor
        have hs := Lib.hid hs
        have hlt := Lib.hid hlt
        have hpr : p < wr.heap.size := hcr.out.px.lt
        have hbo : Below wr.heap.size wr (wr.alloc (.cells #[.int .i64 o.k, .int .i64 o.x, .int .i64 o.y, .int .i64 o.w, .int .i64 o.h, .int .u32 o.col, .slice o.PA o.P.length o.pc, .slice o.CA o.cl.length o.cc] 50)) := bl_alloc (Below.refl _ _) _
        by_cases bp : 400 < o.P.length
        · have b1 : decide ((400 : Int) < (o.P.length : Int)) = true := dec_t (lt_cast bp)
          go_wp2_with fail
          go_roundw
          case rel => exact ⟨k + 1, hlt.out, by go_num, hbr.trans (hbo.mono hszr), Lk, Lib.hid (hcr.out.be hbo), Lib.hid (hdr.out.be hbo)⟩
          case measure => have h9 := sub_dec hlt.out; simpa [intOf] using h9
        have b1 : decide ((400 : Int) < (o.P.length : Int)) = false := dec_f (nlt_cast bp)
        by_cases bc : 6 < o.cl.length
        · have b2 : decide ((6 : Int) < (o.cl.length : Int)) = true := dec_t (lt_cast bc)
          go_wp2_with fail
          go_roundw
          case rel => exact ⟨k + 1, hlt.out, by go_num, hbr.trans (hbo.mono hszr), Lk, Lib.hid (hcr.out.be hbo), Lib.hid (hdr.out.be hbo)⟩
          case measure => have h9 := sub_dec hlt.out; simpa [intOf] using h9
        have b2 : decide ((6 : Int) < (o.cl.length : Int)) = false := dec_f (nlt_cast bc)
        have hnp : o.P.length ≤ 1000000 := by omega
        have hnc : o.cl.length ≤ 1000000 := by omega
        clear hbo
        go_wp2_with fail
        generalize hwv : World.alloc _ _ = wa
        have Bo : Bk wa wr.heap.size 50 #[.int .i64 o.k, .int .i64 o.x, .int .i64 o.y, .int .i64 o.w, .int .i64 o.h, .int .u32 o.col, .slice o.PA o.P.length o.pc, .slice o.CA o.cl.length o.cc] := hwv ▸ Bk.new _ _ _
        have hba : Below wr.heap.size wr wa := hwv ▸ bl_alloc (Below.refl _ _) _
        obtain ⟨go, hgo⟩ : ∃ go, wr.heap.size = go := ⟨_, rfl⟩
        have hgp : go ≠ p := by omega
        have hgq : go ≠ q := by have := hdr.out.px.lt; omega
        have hca := Lib.hid (hcr.out.be hba)
        have hda := Lib.hid (hdr.out.be hba)
        have hbB : Below B w wa := hbr.trans (hba.mono hszr)
        have hsza : B ≤ wa.heap.size := Nat.le_trans hB hbB.size
        have hoa := Lib.hid (hor.out.be (hba.mono hszr))
        rw [hgo] at Bo ⊢
        clear hwv hba hgo hcr hdr hor c0 c1 c2 c3 c4 c5 c6 c7 hpr hszr hbr
        obtain ⟨y0, y1, y2, y3, y4, y5, y6, y7⟩ := Bk.c8 Bo
        refine (place_any o.k 3 wa (by omega) (by omega)).mono ?_
        rintro e _ ⟨rfl, rfl⟩
        by_cases hk3 : o.k % 3 = 0
        · have e3 : (o.k % 3 == 0) = true := by rw [beq_iff_eq]; exact hk3
          go_upto_region 7 with fail
          have hS : ∀ w' : World, Sav p wa w' → (Sav p wa w' ∧ w'.cell? ⟨go, 1, none⟩ = some (.int .i64 o.x) ∧ w'.cell? ⟨go, 2, none⟩ = some (.int .i64 o.y) ∧ w'.cell? ⟨go, 3, none⟩ = some (.int .i64 o.w) ∧ w'.cell? ⟨go, 4, none⟩ = some (.int .i64 o.h) ∧ w'.cell? ⟨go, 5, none⟩ = some (.int .u32 o.col) ∧ w'.cell? ⟨go, 6, none⟩ = some (.slice o.PA o.P.length o.pc) ∧ w'.cell? ⟨go, 7, none⟩ = some (.slice o.CA o.cl.length o.cc)) := fun w' hs => ⟨hs, (hs.bk Bo hgp).cell 1, (hs.bk Bo hgp).cell 2, (hs.bk Bo hgp).cell 3, (hs.bk Bo hgp).cell 4, (hs.bk Bo hgp).cell 5, (hs.bk Bo hgp).cell 6, (hs.bk Bo hgp).cell 7⟩
          have hS := Lib.hid hS
          refine wp_region_held_drew (S := fun w' : World => Sav p wa w' ∧ w'.cell? ⟨go, 1, none⟩ = some (.int .i64 o.x) ∧ w'.cell? ⟨go, 2, none⟩ = some (.int .i64 o.y) ∧ w'.cell? ⟨go, 3, none⟩ = some (.int .i64 o.w) ∧ w'.cell? ⟨go, 4, none⟩ = some (.int .i64 o.h) ∧ w'.cell? ⟨go, 5, none⟩ = some (.int .u32 o.col) ∧ w'.cell? ⟨go, 6, none⟩ = some (.slice o.PA o.P.length o.pc) ∧ w'.cell? ⟨go, 7, none⟩ = some (.slice o.CA o.cl.length o.cc)) (by kernel_rfl) (by (try dsimp only); exact hS.out _ (by first | exact Sav.refl _ _ | exact (Sav.refl _ _).dr | assumption | exact Sav.of (by assumption))) (fun hHeld => ?_)
          refine wpAnyH_take (i := 0) (v := ?_) rfl (by kernel_rfl) (by kernel_rfl) (by kernel_rfl) (fun _ _ _ h => h) (Or.inl ⟨by rfl, ?_⟩) (by assumption) ?_
          rotate_left
          · (intro w hSw; (try dsimp only at hSw); go_simp; try (with_reducible rfl))
          (try simp only [Act.put, List.setIfInBounds_toArray, List.set_cons_zero, List.set_cons_succ])
          refine wpAnyH_take (i := 1) (v := ?_) rfl (by kernel_rfl) (by kernel_rfl) (by kernel_rfl) (fun _ _ _ h => h) (Or.inl ⟨by rfl, ?_⟩) (by assumption) ?_
          rotate_left
          · (intro w hSw; (try dsimp only at hSw); go_simp; try (with_reducible rfl))
          (try simp only [Act.put, List.setIfInBounds_toArray, List.set_cons_zero, List.set_cons_succ])
          refine wpAnyH_take (i := 2) (v := ?_) rfl (by kernel_rfl) (by kernel_rfl) (by kernel_rfl) (fun _ _ _ h => h) (Or.inl ⟨by rfl, ?_⟩) (by assumption) ?_
          rotate_left
          · (intro w hSw; (try dsimp only at hSw); go_simp; try (with_reducible rfl))
          (try simp only [Act.put, List.setIfInBounds_toArray, List.set_cons_zero, List.set_cons_succ])
          refine wpAnyH_take (i := 3) (v := ?_) rfl (by kernel_rfl) (by kernel_rfl) (by kernel_rfl) (fun _ _ _ h => h) (Or.inl ⟨by rfl, ?_⟩) (by assumption) ?_
          rotate_left
          · (intro w hSw; (try dsimp only at hSw); go_simp; try (with_reducible rfl))
          (try simp only [Act.put, List.setIfInBounds_toArray, List.set_cons_zero, List.set_cons_succ])
          refine wpAnyH_take (i := 4) (v := ?_) rfl (by kernel_rfl) (by kernel_rfl) (by kernel_rfl) (fun _ _ _ h => h) (Or.inl ⟨by rfl, ?_⟩) (by assumption) ?_
          rotate_left
          · (intro w hSw; (try dsimp only at hSw); go_simp; try (with_reducible rfl))
          (try simp only [Act.put, List.setIfInBounds_toArray, List.set_cons_zero, List.set_cons_succ])
          refine wpAnyH_ready (rs := [5]) (by kernel_rfl) (by simp) ?_
          refine AllReadyH.cons (i := 5) rfl (fun K hK => ?_) AllReadyH.nil
          go_simp
          go_at_call 56
          have hbe : Below wa.heap.size wa wa.drew := bl_drew (Below.refl _ _)
          refine (rects_any o.CA o.cc o.cl _ hnc ((hoa.out.c.be (hbe.mono hsza)).more (Nat.le_trans hsza hbe.size))).mono ?_
          rintro e w2 ⟨A2, c2, rfl, own2, hb2⟩
          have hb2' : Below wa.heap.size wa w2 := bl_step hbe hb2
          try (go_wp2_with fail)
          refine hK.out _ _ (by (try dsimp only); exact hS.out _ (by first | exact Sav.refl _ _ | exact (Sav.refl _ _).dr | assumption | exact Sav.of (by assumption))) (fun hHeld2 => ?_)
          clear hHeld
          rename _ => hHeld
          clear hK K
          (try simp only [Act.put, List.setIfInBounds_toArray, List.set_cons_zero, List.set_cons_succ])
          refine wpAnyH_ready (rs := [6]) (by kernel_rfl) (by simp) ?_
          refine AllReadyH.cons (i := 6) rfl (fun K hK => ?_) AllReadyH.nil
          go_simp
          go_at_call 17
          refine (fill_any2 c p W H Lk o.col A2 c2 o.cl w2 (hca.out.be hb2') hoa.out.col (Rds.own own2) hoa.out.i64 hnc).mono ?_
          rintro e wf ⟨rfl, hsf, hcf⟩
          have hsf := (Sav.of hb2').trans hsf
          have hcf := Lib.hid hcf
          try (go_wp2_with fail)
          refine hK.out _ _ (by (try dsimp only); exact hS.out _ (by first | exact Sav.refl _ _ | exact (Sav.refl _ _).dr | assumption | exact Sav.of (by assumption))) (fun hHeld2 => ?_)
          clear hHeld
          rename _ => hHeld
          clear hK K
          (try simp only [Act.put, List.setIfInBounds_toArray, List.set_cons_zero, List.set_cons_succ])
          refine wpAnyH_done (by kernel_rfl) ?_ _
          clear hHeld hS
          go_wp2_with fail
          have hbf : Below B w wf := hsf.below hbB hBp hsza
          have hdf := hda.out.sav hsf hdp hpq.symm
          obtain ⟨z0, z1, z2, z3, z4, z5, z6, z7⟩ := Bk.c8 (hsf.bk Bo hgp)
          have hof := Lib.hid (hoa.out.be (hsf.below (Below.refl _ _) hBp hsza))
          have hszf : B ≤ wf.heap.size := Nat.le_trans hB hbf.size
          go_wp2_with fail
          refine (rfill_any d q W H Lk o.col o.CA o.cc o.cl wf hdf hof.out.col (hof.out.c.more hszf) (Rds.off hof.out.c hBq) hof.out.i64 hnc).mono ?_
          rintro e wg ⟨rfl, hsg, hdg⟩
          have hcg := Lib.hid (hcf.out.sav hsg hcq hpq)
          have hdg := Lib.hid hdg
          have hbg := hsg.below hbf hBq hszf
          go_wp2_with fail
          go_roundw
          case rel => exact ⟨k + 1, hlt.out, by go_num, hbg, _, hcg, hdg⟩
          case measure => have h9 := sub_dec hlt.out; simpa [intOf] using h9
        · have e3 : (o.k % 3 == 0) = false := by rw [beq_eq_false_iff_ne]; exact hk3
          go_upto_region 9 with fail
          have hS : ∀ w' : World, Sav p wa w' → (Sav p wa w' ∧ w'.cell? ⟨go, 1, none⟩ = some (.int .i64 o.x) ∧ w'.cell? ⟨go, 2, none⟩ = some (.int .i64 o.y) ∧ w'.cell? ⟨go, 3, none⟩ = some (.int .i64 o.w) ∧ w'.cell? ⟨go, 4, none⟩ = some (.int .i64 o.h) ∧ w'.cell? ⟨go, 5, none⟩ = some (.int .u32 o.col) ∧ w'.cell? ⟨go, 6, none⟩ = some (.slice o.PA o.P.length o.pc) ∧ w'.cell? ⟨go, 7, none⟩ = some (.slice o.CA o.cl.length o.cc)) := fun w' hs => ⟨hs, (hs.bk Bo hgp).cell 1, (hs.bk Bo hgp).cell 2, (hs.bk Bo hgp).cell 3, (hs.bk Bo hgp).cell 4, (hs.bk Bo hgp).cell 5, (hs.bk Bo hgp).cell 6, (hs.bk Bo hgp).cell 7⟩
          have hS := Lib.hid hS
          refine wp_region_held_drew (S := fun w' : World => Sav p wa w' ∧ w'.cell? ⟨go, 1, none⟩ = some (.int .i64 o.x) ∧ w'.cell? ⟨go, 2, none⟩ = some (.int .i64 o.y) ∧ w'.cell? ⟨go, 3, none⟩ = some (.int .i64 o.w) ∧ w'.cell? ⟨go, 4, none⟩ = some (.int .i64 o.h) ∧ w'.cell? ⟨go, 5, none⟩ = some (.int .u32 o.col) ∧ w'.cell? ⟨go, 6, none⟩ = some (.slice o.PA o.P.length o.pc) ∧ w'.cell? ⟨go, 7, none⟩ = some (.slice o.CA o.cl.length o.cc)) (by kernel_rfl) (by (try dsimp only); exact hS.out _ (by first | exact Sav.refl _ _ | exact (Sav.refl _ _).dr | assumption | exact Sav.of (by assumption))) (fun hHeld => ?_)
          refine wpAnyH_take (i := 0) (v := ?_) rfl (by kernel_rfl) (by kernel_rfl) (by kernel_rfl) (fun _ _ _ h => h) (Or.inl ⟨by rfl, ?_⟩) (by assumption) ?_
          rotate_left
          · (intro w hSw; (try dsimp only at hSw); go_simp; try (with_reducible rfl))
          (try simp only [Act.put, List.setIfInBounds_toArray, List.set_cons_zero, List.set_cons_succ])
          refine wpAnyH_take (i := 1) (v := ?_) rfl (by kernel_rfl) (by kernel_rfl) (by kernel_rfl) (fun _ _ _ h => h) (Or.inl ⟨by rfl, ?_⟩) (by assumption) ?_
          rotate_left
          · (intro w hSw; (try dsimp only at hSw); go_simp; try (with_reducible rfl))
          (try simp only [Act.put, List.setIfInBounds_toArray, List.set_cons_zero, List.set_cons_succ])
          refine wpAnyH_take (i := 2) (v := ?_) rfl (by kernel_rfl) (by kernel_rfl) (by kernel_rfl) (fun _ _ _ h => h) (Or.inl ⟨by rfl, ?_⟩) (by assumption) ?_
          rotate_left
          · (intro w hSw; (try dsimp only at hSw); go_simp; try (with_reducible rfl))
          (try simp only [Act.put, List.setIfInBounds_toArray, List.set_cons_zero, List.set_cons_succ])
          refine wpAnyH_take (i := 3) (v := ?_) rfl (by kernel_rfl) (by kernel_rfl) (by kernel_rfl) (fun _ _ _ h => h) (Or.inl ⟨by rfl, ?_⟩) (by assumption) ?_
          rotate_left
          · (intro w hSw; (try dsimp only at hSw); go_simp; try (with_reducible rfl))
          (try simp only [Act.put, List.setIfInBounds_toArray, List.set_cons_zero, List.set_cons_succ])
          refine wpAnyH_take (i := 4) (v := ?_) rfl (by kernel_rfl) (by kernel_rfl) (by kernel_rfl) (fun _ _ _ h => h) (Or.inl ⟨by rfl, ?_⟩) (by assumption) ?_
          rotate_left
          · (intro w hSw; (try dsimp only at hSw); go_simp; try (with_reducible rfl))
          (try simp only [Act.put, List.setIfInBounds_toArray, List.set_cons_zero, List.set_cons_succ])
          refine wpAnyH_take (i := 5) (v := ?_) rfl (by kernel_rfl) (by kernel_rfl) (by kernel_rfl) (fun _ _ _ h => h) (Or.inl ⟨by rfl, ?_⟩) (by assumption) ?_
          rotate_left
          · (intro w hSw; (try dsimp only at hSw); go_simp; try (with_reducible rfl))
          (try simp only [Act.put, List.setIfInBounds_toArray, List.set_cons_zero, List.set_cons_succ])
          refine wpAnyH_take (i := 6) (v := ?_) rfl (by kernel_rfl) (by kernel_rfl) (by kernel_rfl) (fun _ _ _ h => h) (Or.inl ⟨by rfl, ?_⟩) (by assumption) ?_
          rotate_left
          · (intro w hSw; (try dsimp only at hSw); go_simp; try (with_reducible rfl))
          (try simp only [Act.put, List.setIfInBounds_toArray, List.set_cons_zero, List.set_cons_succ])
          refine wpAnyH_take (i := 7) (v := ?_) rfl (by kernel_rfl) (by kernel_rfl) (by kernel_rfl) (fun _ _ _ h => h) (Or.inl ⟨by rfl, ?_⟩) (by assumption) ?_
          rotate_left
          · (intro w hSw; (try dsimp only at hSw); go_simp; try (with_reducible rfl))
          (try simp only [Act.put, List.setIfInBounds_toArray, List.set_cons_zero, List.set_cons_succ])
          refine wpAnyH_take (i := 8) (v := ?_) rfl (by kernel_rfl) (by kernel_rfl) (by kernel_rfl) (fun _ _ _ h => h) (Or.inl ⟨by rfl, ?_⟩) (by assumption) ?_
          rotate_left
          · (intro w hSw; (try dsimp only at hSw); go_simp; try (with_reducible rfl))
          (try simp only [Act.put, List.setIfInBounds_toArray, List.set_cons_zero, List.set_cons_succ])
          refine wpAnyH_take (i := 9) (v := ?_) rfl (by kernel_rfl) (by kernel_rfl) (by kernel_rfl) (fun _ _ _ h => h) (Or.inl ⟨by rfl, ?_⟩) (by assumption) ?_
          rotate_left
          · (intro w hSw; (try dsimp only at hSw); go_simp; try (with_reducible rfl))
          (try simp only [Act.put, List.setIfInBounds_toArray, List.set_cons_zero, List.set_cons_succ])
          refine wpAnyH_take (i := 10) (v := ?_) rfl (by kernel_rfl) (by kernel_rfl) (by kernel_rfl) (fun _ _ _ h => h) (Or.inl ⟨by rfl, ?_⟩) (by assumption) ?_
          rotate_left
          · (intro w hSw; (try dsimp only at hSw); go_simp; try (with_reducible rfl))
          (try simp only [Act.put, List.setIfInBounds_toArray, List.set_cons_zero, List.set_cons_succ])
          refine wpAnyH_take (i := 12) (v := ?_) rfl (by kernel_rfl) (by kernel_rfl) (by kernel_rfl) (fun _ _ _ h => h) (Or.inl ⟨by rfl, ?_⟩) (by assumption) ?_
          rotate_left
          · (intro w hSw; (try dsimp only at hSw); go_simp; try (with_reducible rfl))
          (try simp only [Act.put, List.setIfInBounds_toArray, List.set_cons_zero, List.set_cons_succ])
          refine wpAnyH_take (i := 13) (v := ?_) rfl (by kernel_rfl) (by kernel_rfl) (by kernel_rfl) (fun _ _ _ h => h) (Or.inl ⟨by rfl, ?_⟩) (by assumption) ?_
          rotate_left
          · (intro w hSw; (try dsimp only at hSw); go_simp; try (with_reducible rfl))
          (try simp only [Act.put, List.setIfInBounds_toArray, List.set_cons_zero, List.set_cons_succ])
          refine wpAnyH_ready (rs := [11]) (by kernel_rfl) (by simp) ?_
          refine AllReadyH.cons (i := 11) rfl (fun K hK => ?_) AllReadyH.nil
          go_simp
          go_at_call 44
          have hbe : Below wa.heap.size wa wa.drew := bl_drew (Below.refl _ _)
          refine (words_any o.PA o.pc o.P _ hnp ((hoa.out.p.be (hbe.mono hsza)).more (Nat.le_trans hsza hbe.size))).mono ?_
          rintro e w1 ⟨A1, c1, rfl, own1, hb1⟩
          have hb1' : Below wa.heap.size wa w1 := bl_step hbe hb1
          try (go_wp2_with fail)
          refine hK.out _ _ (by (try dsimp only); exact hS.out _ (by first | exact Sav.refl _ _ | exact (Sav.refl _ _).dr | assumption | exact Sav.of (by assumption))) (fun hHeld2 => ?_)
          clear hHeld
          rename _ => hHeld
          clear hK K
          (try simp only [Act.put, List.setIfInBounds_toArray, List.set_cons_zero, List.set_cons_succ])
          refine wpAnyH_ready (rs := [14]) (by kernel_rfl) (by simp) ?_
          refine AllReadyH.cons (i := 14) rfl (fun K hK => ?_) AllReadyH.nil
          go_simp
          go_at_call 56
          refine (rects_any o.CA o.cc o.cl _ hnc ((hoa.out.c.be (hb1'.mono hsza)).more (Nat.le_trans hsza hb1'.size))).mono ?_
          rintro e w2 ⟨A2, c2, rfl, own2, hb2⟩
          have hb2' : Below wa.heap.size wa w2 := bl_step hb1' hb2
          try (go_wp2_with fail)
          refine hK.out _ _ (by (try dsimp only); exact hS.out _ (by first | exact Sav.refl _ _ | exact (Sav.refl _ _).dr | assumption | exact Sav.of (by assumption))) (fun hHeld2 => ?_)
          clear hHeld
          rename _ => hHeld
          clear hK K
          (try simp only [Act.put, List.setIfInBounds_toArray, List.set_cons_zero, List.set_cons_succ])
          refine wpAnyH_ready (rs := [15]) (by kernel_rfl) (by simp) ?_
          refine AllReadyH.cons (i := 15) rfl (fun K hK => ?_) AllReadyH.nil
          go_simp
          go_at_call 21
          refine (draw_all2 c p W H Lk o.x o.y o.w o.h A1 o.P.length c1 o.P A2 c2 o.cl w2 (hca.out.be hb2') rfl (((Rds.own own1).be hb2).more hb2.size) hoa.out.u32 (fun _ ad e => by subst e; have := (own1.lt ad.block rfl).1; have := hca.out.px.lt; have h8 : wa.drew.heap.size = wa.heap.size := rfl; omega) (Rds.own own2) hoa.out.i64 hnc).mono ?_
          rintro e wf ⟨rfl, hsf, hcf⟩
          have hsf := (Sav.of hb2').trans hsf
          have hcf := Lib.hid hcf
          try (go_wp2_with fail)
          refine hK.out _ _ (by (try dsimp only); exact hS.out _ (by first | exact Sav.refl _ _ | exact (Sav.refl _ _).dr | assumption | exact Sav.of (by assumption))) (fun hHeld2 => ?_)
          clear hHeld
          rename _ => hHeld
          clear hK K
          (try simp only [Act.put, List.setIfInBounds_toArray, List.set_cons_zero, List.set_cons_succ])
          refine wpAnyH_done (by kernel_rfl) ?_ _
          clear hHeld hS
          go_wp2_with fail
          have hbf : Below B w wf := hsf.below hbB hBp hsza
          have hdf := hda.out.sav hsf hdp hpq.symm
          obtain ⟨z0, z1, z2, z3, z4, z5, z6, z7⟩ := Bk.c8 (hsf.bk Bo hgp)
          have hof := Lib.hid (hoa.out.be (hsf.below (Below.refl _ _) hBp hsza))
          have hszf : B ≤ wf.heap.size := Nat.le_trans hB hbf.size
          go_wp2_with fail
          refine (rdraw_any d q W H Lk o.x o.y o.w o.h o.PA o.P.length o.pc o.P o.CA o.cc o.cl wf hdf rfl (hof.out.p.more hszf) hof.out.u32 (Rds.off hof.out.p hBq) (hof.out.c.more hszf) (Rds.off hof.out.c hBq) hof.out.i64 hnc).mono ?_
          rintro e wg ⟨rfl, hsg, hdg⟩
          have hcg := Lib.hid (hcf.out.sav hsg hcq hpq)
          have hdg := Lib.hid hdg
          have hbg := hsg.below hbf hBq hszf
          go_wp2_with fail
          go_roundw
          case rel => exact ⟨k + 1, hlt.out, by go_num, hbg, _, hcg, hdg⟩
          case measure => have h9 := sub_dec hlt.out; simpa [intOf] using h9
      · have d15 : decide ((k : Int) < 15) = false := dec_f (nlt_cast h15)
        have hcr := Lib.hid hcr.out
        obtain ⟨hd8⟩ : Nonempty (Bk wr d 70 #[.int .i64 (W : Int), .int .i64 (H : Int), .slice (some ⟨q, 0, none⟩) (W * H) (W * H)]) := ⟨hdr.out.hd⟩
        go_upto_region 11 with fail
        have hS : ∀ w' : World, Below wr.heap.size wr w' → (Below wr.heap.size wr w' ∧ w'.cell? ⟨d, 2, none⟩ = some (.slice (some ⟨q, 0, none⟩) (W * H) (W * H))) := fun w' hb => ⟨hb, (hd8.be hb).cell 2⟩
        have hS := Lib.hid hS
        refine wp_region_held_drew (S := fun w' : World => Below wr.heap.size wr w' ∧ w'.cell? ⟨d, 2, none⟩ = some (.slice (some ⟨q, 0, none⟩) (W * H) (W * H))) (by kernel_rfl) (by (try dsimp only); exact hS.out _ (by repeat (first | (with_reducible exact Below.refl _ _) | (with_reducible assumption) | (with_reducible apply bl_drew)))) (fun hHeld => ?_)
        refine wpAnyH_take (i := 0) (v := ?_) rfl (by kernel_rfl) (by kernel_rfl) (by kernel_rfl) (fun _ _ _ h => h) (Or.inl ⟨by rfl, ?_⟩) (by assumption) ?_
        rotate_left
        · (intro w hSw; (try dsimp only at hSw); go_simp; try (with_reducible rfl))
        (try simp only [Act.put, List.setIfInBounds_toArray, List.set_cons_zero, List.set_cons_succ])
        refine wpAnyH_take (i := 2) (v := ?_) rfl (by kernel_rfl) (by kernel_rfl) (by kernel_rfl) (fun _ _ _ h => h) (Or.inl ⟨by rfl, ?_⟩) (by assumption) ?_
        rotate_left
        · (intro w hSw; (try dsimp only at hSw); go_simp; try (with_reducible rfl))
        (try simp only [Act.put, List.setIfInBounds_toArray, List.set_cons_zero, List.set_cons_succ])
        refine wpAnyH_take (i := 3) (v := ?_) rfl (by kernel_rfl) (by kernel_rfl) (by kernel_rfl) (fun _ _ _ h => h) (Or.inl ⟨by rfl, ?_⟩) (by assumption) ?_
        rotate_left
        · (intro w hSw; (try dsimp only at hSw); go_simp; try (with_reducible rfl))
        (try simp only [Act.put, List.setIfInBounds_toArray, List.set_cons_zero, List.set_cons_succ])
        refine wpAnyH_take (i := 4) (v := ?_) rfl (by kernel_rfl) (by kernel_rfl) (by kernel_rfl) (fun _ _ _ h => h) (Or.inl ⟨by rfl, ?_⟩) (by assumption) ?_
        rotate_left
        · (intro w hSw; (try dsimp only at hSw); go_simp; try (with_reducible rfl))
        (try simp only [Act.put, List.setIfInBounds_toArray, List.set_cons_zero, List.set_cons_succ])
        refine wpAnyH_take (i := 5) (v := ?_) rfl (by kernel_rfl) (by kernel_rfl) (by kernel_rfl) (fun _ _ _ h => h) (Or.inl ⟨by rfl, ?_⟩) (by assumption) ?_
        rotate_left
        · (intro w hSw; (try dsimp only at hSw); go_simp; try (with_reducible rfl))
        (try simp only [Act.put, List.setIfInBounds_toArray, List.set_cons_zero, List.set_cons_succ])
        refine wpAnyH_ready (rs := [1]) (by kernel_rfl) (by simp) ?_
        refine AllReadyH.cons (i := 1) rfl (fun K hK => ?_) AllReadyH.nil
        go_simp
        go_at_call 18
        have hbe : Below wr.heap.size wr wr.drew := bl_drew (Below.refl _ _)
        refine (pixels_any c p W H Lk _ (hcr.out.be hbe)).mono ?_
        rintro e w9 ⟨r1, rfl, Br1, hr1, hb9⟩
        have hb9' : Below wr.heap.size wr w9 := bl_step hbe hb9
        try (go_wp2_with fail)
        refine hK.out _ _ (by (try dsimp only); exact hS.out _ (by repeat (first | (with_reducible exact Below.refl _ _) | (with_reducible assumption) | (with_reducible apply bl_drew)))) (fun hHeld2 => ?_)
        clear hHeld
        rename _ => hHeld
        clear hK K
        (try simp only [Act.put, List.setIfInBounds_toArray, List.set_cons_zero, List.set_cons_succ])
        refine wpAnyH_ready (rs := [6]) (by kernel_rfl) (by simp) ?_
        refine AllReadyH.cons (i := 6) rfl (fun K hK => ?_) AllReadyH.nil
        go_simp
        go_at_call 33
        refine (same_wn (some ⟨r1, 0, none⟩) (some ⟨q, 0, none⟩) (W * H) Lk w9 hdr.out.len (Nat.le_trans h20.out (by omega)) (px_rds Br1 hdr.out.len) (px_rds ((hdr.out.be hb9').px) hdr.out.len)).mono ?_
        rintro e w10 ⟨rfl, hb10⟩
        have hb10' : Below wr.heap.size wr w10 := bl_step hb9' hb10
        try (go_wp2_with fail)
        refine hK.out _ _ (by (try dsimp only); exact hS.out _ (by repeat (first | (with_reducible exact Below.refl _ _) | (with_reducible assumption) | (with_reducible apply bl_drew)))) (fun hHeld2 => ?_)
        clear hHeld
        rename _ => hHeld
        clear hK K
        (try simp only [Act.put, List.setIfInBounds_toArray, List.set_cons_zero, List.set_cons_succ])
        refine wpAnyH_ready (rs := [7]) (by kernel_rfl) (by simp) ?_
        refine AllReadyH.cons (i := 7) rfl (fun K hK => ?_) AllReadyH.nil
        go_simp
        refine hK.out _ _ hHeld (fun hHeld2 => ?_)
        clear hHeld2 hK K
        (try simp only [Act.put, List.setIfInBounds_toArray, List.set_cons_zero, List.set_cons_succ])
        refine wpAnyH_done (by kernel_rfl) ?_ _
        clear hHeld
        go_wp2_with fail
        go_ret
        exact ⟨rfl, hbr.trans (hb10'.mono hszr), Lk, hcr.out.be hb10'⟩
    · have hd : decide ((k : Int) < (l.length : Int)) = false := dec_f (nlt_cast hlt)
      have hcr := Lib.hid hcr.out
      obtain ⟨hd8⟩ : Nonempty (Bk wr d 70 #[.int .i64 (W : Int), .int .i64 (H : Int), .slice (some ⟨q, 0, none⟩) (W * H) (W * H)]) := ⟨hdr.out.hd⟩
      go_upto_region 11 with fail
      have hS : ∀ w' : World, Below wr.heap.size wr w' → (Below wr.heap.size wr w' ∧ w'.cell? ⟨d, 2, none⟩ = some (.slice (some ⟨q, 0, none⟩) (W * H) (W * H))) := fun w' hb => ⟨hb, (hd8.be hb).cell 2⟩
      have hS := Lib.hid hS
      refine wp_region_held_drew (S := fun w' : World => Below wr.heap.size wr w' ∧ w'.cell? ⟨d, 2, none⟩ = some (.slice (some ⟨q, 0, none⟩) (W * H) (W * H))) (by kernel_rfl) (by (try dsimp only); exact hS.out _ (by repeat (first | (with_reducible exact Below.refl _ _) | (with_reducible assumption) | (with_reducible apply bl_drew)))) (fun hHeld => ?_)
      refine wpAnyH_take (i := 0) (v := ?_) rfl (by kernel_rfl) (by kernel_rfl) (by kernel_rfl) (fun _ _ _ h => h) (Or.inl ⟨by rfl, ?_⟩) (by assumption) ?_
      rotate_left
      · (intro w hSw; (try dsimp only at hSw); go_simp; try (with_reducible rfl))
      (try simp only [Act.put, List.setIfInBounds_toArray, List.set_cons_zero, List.set_cons_succ])
      refine wpAnyH_take (i := 2) (v := ?_) rfl (by kernel_rfl) (by kernel_rfl) (by kernel_rfl) (fun _ _ _ h => h) (Or.inl ⟨by rfl, ?_⟩) (by assumption) ?_
      rotate_left
      · (intro w hSw; (try dsimp only at hSw); go_simp; try (with_reducible rfl))
      (try simp only [Act.put, List.setIfInBounds_toArray, List.set_cons_zero, List.set_cons_succ])
      refine wpAnyH_take (i := 3) (v := ?_) rfl (by kernel_rfl) (by kernel_rfl) (by kernel_rfl) (fun _ _ _ h => h) (Or.inl ⟨by rfl, ?_⟩) (by assumption) ?_
      rotate_left
      · (intro w hSw; (try dsimp only at hSw); go_simp; try (with_reducible rfl))
      (try simp only [Act.put, List.setIfInBounds_toArray, List.set_cons_zero, List.set_cons_succ])
      refine wpAnyH_take (i := 4) (v := ?_) rfl (by kernel_rfl) (by kernel_rfl) (by kernel_rfl) (fun _ _ _ h => h) (Or.inl ⟨by rfl, ?_⟩) (by assumption) ?_
      rotate_left
      · (intro w hSw; (try dsimp only at hSw); go_simp; try (with_reducible rfl))
      (try simp only [Act.put, List.setIfInBounds_toArray, List.set_cons_zero, List.set_cons_succ])
      refine wpAnyH_take (i := 5) (v := ?_) rfl (by kernel_rfl) (by kernel_rfl) (by kernel_rfl) (fun _ _ _ h => h) (Or.inl ⟨by rfl, ?_⟩) (by assumption) ?_
      rotate_left
      · (intro w hSw; (try dsimp only at hSw); go_simp; try (with_reducible rfl))
      (try simp only [Act.put, List.setIfInBounds_toArray, List.set_cons_zero, List.set_cons_succ])
      refine wpAnyH_ready (rs := [1]) (by kernel_rfl) (by simp) ?_
      refine AllReadyH.cons (i := 1) rfl (fun K hK => ?_) AllReadyH.nil
      go_simp
      go_at_call 18
      have hbe : Below wr.heap.size wr wr.drew := bl_drew (Below.refl _ _)
      refine (pixels_any c p W H Lk _ (hcr.out.be hbe)).mono ?_
      rintro e w9 ⟨r1, rfl, Br1, hr1, hb9⟩
      have hb9' : Below wr.heap.size wr w9 := bl_step hbe hb9
      try (go_wp2_with fail)
      refine hK.out _ _ (by (try dsimp only); exact hS.out _ (by repeat (first | (with_reducible exact Below.refl _ _) | (with_reducible assumption) | (with_reducible apply bl_drew)))) (fun hHeld2 => ?_)
      clear hHeld
      rename _ => hHeld
      clear hK K
      (try simp only [Act.put, List.setIfInBounds_toArray, List.set_cons_zero, List.set_cons_succ])
      refine wpAnyH_ready (rs := [6]) (by kernel_rfl) (by simp) ?_
      refine AllReadyH.cons (i := 6) rfl (fun K hK => ?_) AllReadyH.nil
      go_simp
      go_at_call 33
      refine (same_wn (some ⟨r1, 0, none⟩) (some ⟨q, 0, none⟩) (W * H) Lk w9 hdr.out.len (Nat.le_trans h20.out (by omega)) (px_rds Br1 hdr.out.len) (px_rds ((hdr.out.be hb9').px) hdr.out.len)).mono ?_
      rintro e w10 ⟨rfl, hb10⟩
      have hb10' : Below wr.heap.size wr w10 := bl_step hb9' hb10
      try (go_wp2_with fail)
      refine hK.out _ _ (by (try dsimp only); exact hS.out _ (by repeat (first | (with_reducible exact Below.refl _ _) | (with_reducible assumption) | (with_reducible apply bl_drew)))) (fun hHeld2 => ?_)
      clear hHeld
      rename _ => hHeld
      clear hK K
      (try simp only [Act.put, List.setIfInBounds_toArray, List.set_cons_zero, List.set_cons_succ])
      refine wpAnyH_ready (rs := [7]) (by kernel_rfl) (by simp) ?_
      refine AllReadyH.cons (i := 7) rfl (fun K hK => ?_) AllReadyH.nil
      go_simp
      refine hK.out _ _ hHeld (fun hHeld2 => ?_)
      clear hHeld2 hK K
      (try simp only [Act.put, List.setIfInBounds_toArray, List.set_cons_zero, List.set_cons_succ])
      refine wpAnyH_done (by kernel_rfl) ?_ _
      clear hHeld
      go_wp2_with fail
      go_ret
      exact ⟨rfl, hbr.trans (hb10'.mono hszr), Lk, hcr.out.be hb10'⟩
end Go.Proofs.YtjjdgbhplechbaaDoor.Cv
