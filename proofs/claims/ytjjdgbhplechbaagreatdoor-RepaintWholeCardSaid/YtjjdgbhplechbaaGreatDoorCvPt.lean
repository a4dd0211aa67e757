/- repaint.Part and tableauref23.Part, any clip. Printed by gen_part.py. -/
import Derived.Test.YtjjdgbhplechbaaGreatDoorCvRd
set_option linter.unusedVariables false
set_option linter.unusedSimpArgs false
namespace Go.Proofs.YtjjdgbhplechbaaGreatDoor.Cv
open Go.RowKit Go.Proofs.YtjjdgbhplechbaaGreatDoor.Kit Go.Proofs.YtjjdgbhplechbaaGreatDoor.Rect Go.Proofs.YtjjdgbhplechbaaGreatDoor.Pix
/-- nothing of it that is read lies in block p -/
def OffW (p : Nat) (A : Option Addr) (m : List Im) : Prop := (0 < m.length → ∀ ad, A = some ad → ad.block ≠ p) ∧ ∀ g ∈ m, 0 < g.P.length → ∀ ad, g.A = some ad → ad.block ≠ p
theorem OffW.of {p : Nat} {A : Option Addr} {m : List Im} (h : Off p A m) : OffW p A m := ⟨fun _ => h.1, fun g hg _ => h.2 g hg⟩
theorem RdI.sw {w w' : World} {p B : Nat} {A : Option Addr} {m : List Im} (h : RdI w B A m) (s : Sav p w w') (hB : B ≤ w.heap.size) (ho : OffW p A m) : RdI w' B A m :=
  ⟨s.rds' h.row hB ho.1, fun g hg => s.rds' (h.each g hg) hB (ho.2 g hg), h.u32⟩
theorem RdI.off {w : World} {p B : Nat} {A : Option Addr} {m : List Im} (h : RdI w B A m) (hB : B ≤ p) : OffW p A m := ⟨Rds.off h.row hB, fun g hg => Rds.off (h.each g hg) hB⟩
def partL (W H : Nat) (back : Int) (l : List Vw) (m : List Im) (clip : List R) (L : List Int) : List Int := l.foldl (paintV W H clip m) (drawn W H clip (fun _ _ _ => back) L)
theorem fold_stop {W H : Nat} {clip : List R} {m : List Im} {l : List Vw} {L : List Int} : (l.take l.length).foldl (paintV W H clip m) L = l.foldl (paintV W H clip m) L := by rw [List.take_length]
theorem cast_nn (k : Nat) : (0 : Int) ≤ (k : Int) := Int.natCast_nonneg _
theorem sub_dec {k n : Nat} (h : k < n) : n - (k + 1) < n - k := Nat.sub_lt_sub_left h (Nat.lt_succ_self k)

set_option maxRecDepth 100000 in
set_option maxHeartbeats 16000000 in
theorem part_any (c p W H : Nat) (L : List Int) (back : Int) (A : Option Addr) (lc : Nat) (l : List Vw) (A' : Option Addr) (lc' : Nat) (m : List Im) (A2 : Option Addr) (lc2 : Nat) (clip : List R) (w : World) (hc : Cv w c p W H L) (hback : 0 ≤ back ∧ back < 4294967296)
    (hl : Rds w w.heap.size 6 A l.length (l.flatMap vwC)) (hlp : 0 < l.length → ∀ ad, A = some ad → ad.block ≠ p) (hln : l.length ≤ 1000000) (hm : RdI w w.heap.size A' m) (hmp : OffW p A' m) (hmn : m.length ≤ 1000000)
    (hk : Rds w w.heap.size 4 A2 clip.length (clip.flatMap rC)) (hkp : 0 < clip.length → ∀ ad, A2 = some ad → ad.block ≠ p) (h64 : ∀ r ∈ clip, I64 r) (hkn : clip.length ≤ 1000000) :
    Calls Tryz.prog 12 #[.pointer (some ⟨c, 0, none⟩), .int .u32 back, .slice A l.length lc, .slice A' m.length lc', .slice A2 clip.length lc2] w fun e w' => e = .returned (.tuple #[]) ∧ Sav p w w' ∧ Cv w' c p W H (partL W H back l m clip L) := by
  have hback := Lib.hid hback
  have hlp := Lib.hid hlp
  have hmp := Lib.hid hmp
  have hkp := Lib.hid hkp
  have h64 := Lib.hid h64
  have hcw := Lib.hid hc
  go_enter Tryz.func12, Tryz.ntmps12
  go_wp2_with fail
  refine (fill_any2 c p W H _ back A2 lc2 clip w hc hback.out hk h64.out hkn).mono ?_
  rintro e w3 ⟨rfl, hs3, hc3⟩
  have hl3 := (hs3.rds' hl (Nat.le_refl _) hlp.out).more hs3.size
  have hm3 := (hm.sw hs3 (Nat.le_refl _) hmp.out).more hs3.size
  have hk3 := (hs3.rds' hk (Nat.le_refl _) hkp.out).more hs3.size
  obtain ⟨L3, hL3⟩ : ∃ L3, drawn W H clip (fun _ _ _ => back) L = L3 := ⟨_, rfl⟩
  rw [hL3] at hc3
  have hL3 := Lib.hid hL3
  clear hc hl hm hk
  have hm3 := Lib.hid hm3
  have hk3 := Lib.hid hk3
  have hc3 := Lib.hid hc3
  have hs3 := Lib.hid hs3
  go_wp2_with fail

  go_loopw [11, 12, 13, 20] (fun _ _ _ s20 wr => ∃ k : Nat, k ≤ l.length ∧ s20 = .int .i64 (k : Int) ∧ Sav p w3 wr ∧ Hid (Cv wr c p W H ((l.take k).foldl (paintV W H clip m) L3))) (fun _ _ _ s20 _ => l.length - (intOf s20).toNat)
  case atStart => exact ⟨0, by omega, rfl, Sav.refl _ _, hc3⟩
  case round =>
    obtain ⟨k, hk, rfl, hsr, hcr⟩ := hrel
    by_cases hlt : k < l.length
    · have hlr := hsr.rds' hl3 (Nat.le_refl _) hlp.out
      have hmr := Lib.hid ((hm3.out.sw hsr (Nat.le_refl _) hmp.out).more hsr.size)
      have hkr := Lib.hid ((hsr.rds' hk3.out (Nat.le_refl _) hkp.out).more hsr.size)
      obtain ⟨ad, rfl, hbl, c0, c1, c2, c3, c4, c5⟩ := at6 hlr hlt
      have hstep := Lib.hid (foldl_take (paintV W H clip m) L3 l hlt)
      obtain ⟨Lk, hLk⟩ : ∃ Lk, (l.take k).foldl (paintV W H clip m) L3 = Lk := ⟨_, rfl⟩
      rw [hLk] at hcr hstep
      generalize hs : l[k] = v at *
      have hs := Lib.hid hs
      have hlt := Lib.hid hlt
      have i0 : (0 : Int) ≤ (k : Int) := by omega
      have i1 : (k : Int) < (l.length : Int) := by have := hlt.out; omega
      go_wp2_with fail
      generalize hwv : World.alloc _ _ = wa
      have Bv : Bk wa wr.heap.size 62 #[.int .i64 v.s, .int .i64 v.b, .int .i64 v.x, .int .i64 v.y, .int .i64 v.w, .int .i64 v.h] := hwv ▸ Bk.new _ _ _
      have hba : Below wr.heap.size wr wa := hwv ▸ bl_alloc (Below.refl _ _) _
      clear hwv c0 c1 c2 c3 c4 c5
      refine (find_any A' lc' m v.b wa hmn ((hmr.out.row.be hba).more hba.size)).mono ?_
      rintro e wb ⟨rfl, hbb⟩
      have hbrb := bl_step hba hbb
      have Bvb := Bv.be hbb
      have hcb := Lib.hid (hcr.out.be hbrb)
      have hmb := Lib.hid ((hmr.out.be hbrb).more hbrb.size)
      have hkb := Lib.hid ((hkr.out.be hbrb).more hbrb.size)
      obtain ⟨gv, hgv⟩ : ∃ gv, wr.heap.size = gv := ⟨_, rfl⟩
      rw [hgv] at Bvb ⊢
      clear Bv hmr hkr hgv hba hbb
      obtain ⟨q0, q1, q2, q3, q4, q5⟩ := Bk.c6 Bvb
      have hgvl := Bvb.lt
      have hgvn : ¬ (gv = wb.heap.size) := by omega
      have hgvn' : ¬ (wb.heap.size = gv) := by omega
      cases hf : findI m v.b with
      | none =>
        have e1 : (imC (opI (none : Option Im))).toArray = #[.int .i64 0, .int .i64 0, .int .i64 0, .slice none 0 0] := rfl
        have e2 : (none : Option Im).isSome = false := rfl
        rw [e1, e2]
        have hpv : paintV W H clip m Lk v = Lk := by unfold paintV; rw [hf]
        have hpv := Lib.hid hpv
        have hsr2 := hsr.step (bl_alloc hbrb (.cells #[.int .i64 0, .int .i64 0, .int .i64 0, .slice none 0 0] 58))
        have hcb2 := Lib.hid (hcb.out.be (bl_alloc (Below.refl _ _) (.cells #[.int .i64 0, .int .i64 0, .int .i64 0, .slice none 0 0] 58)))
        clear hf
        go_wp2_with fail
        go_roundw
        case rel => exact ⟨k + 1, hlt.out, by go_num, hsr2, by rw [hstep.out, hpv.out]; exact hcb2⟩
        case measure => have := hlt.out; simp [intOf]; omega
      | some g =>
        have e1 : (imC (opI (some g))).toArray = #[.int .i64 g.b, .int .i64 g.w, .int .i64 g.h, .slice g.A g.P.length g.c] := rfl
        have e2 : (some g).isSome = true := rfl
        rw [e1, e2]
        have hpv : paintV W H clip m Lk v = drawO W H clip v.x v.y g.w g.h g.P Lk := by unfold paintV; rw [hf]
        have hpv := Lib.hid hpv
        have hgm : g ∈ m := List.mem_of_find?_eq_some hf
        have hgm := Lib.hid hgm
        clear hf
        go_wp2_with fail
        have hbc : Below wb.heap.size wb (wb.alloc (.cells #[.int .i64 g.b, .int .i64 g.w, .int .i64 g.h, .slice g.A g.P.length g.c] 58)) := bl_alloc (Below.refl _ _) _
        refine (draw_all2 c p W H Lk v.x v.y g.w g.h g.A g.P.length g.c g.P A2 lc2 clip _ (hcb.out.be hbc) rfl (((hmb.out.each g hgm.out).be hbc).more hbc.size) (hmb.out.u32 g hgm.out) (hmp.out.2 g hgm.out) ((hkb.out.be hbc).more hbc.size) h64.out hkn).mono ?_
        rintro e wd ⟨rfl, hsd, hcd⟩
        have hsr2 := (hsr.step (bl_step hbrb hbc)).trans hsd
        have hcd := Lib.hid hcd
        go_wp2_with fail
        go_roundw
        case rel => exact ⟨k + 1, hlt.out, by go_num, hsr2, by rw [hstep.out, hpv.out]; exact hcd⟩
        case measure => have := hlt.out; simp [intOf]; omega
    · obtain rfl : k = l.length := by omega
      go_wp2_with fail
      go_end0
      have h2 := hcr.out
      rw [fold_stop, ← hL3.out] at h2
      exact ⟨rfl, hs3.out.trans hsr, h2⟩
set_option maxRecDepth 100000 in
set_option maxHeartbeats 16000000 in
theorem rpart_any (c p W H : Nat) (L : List Int) (back : Int) (A : Option Addr) (lc : Nat) (l : List Vw) (A' : Option Addr) (lc' : Nat) (m : List Im) (A2 : Option Addr) (lc2 : Nat) (clip : List R) (w : World) (hc : Cr w c p W H L) (hback : 0 ≤ back ∧ back < 4294967296)
    (hl : Rds w w.heap.size 6 A l.length (l.flatMap vwC)) (hlp : 0 < l.length → ∀ ad, A = some ad → ad.block ≠ p) (hln : l.length ≤ 1000000) (hm : RdI w w.heap.size A' m) (hmp : OffW p A' m) (hmn : m.length ≤ 1000000)
    (hk : Rds w w.heap.size 4 A2 clip.length (clip.flatMap rC)) (hkp : 0 < clip.length → ∀ ad, A2 = some ad → ad.block ≠ p) (h64 : ∀ r ∈ clip, I64 r) (hkn : clip.length ≤ 1000000) :
    Calls Tryz.prog 10 #[.pointer (some ⟨c, 0, none⟩), .int .u32 back, .slice A l.length lc, .slice A' m.length lc', .slice A2 clip.length lc2] w fun e w' => e = .returned (.tuple #[]) ∧ Sav p w w' ∧ Cr w' c p W H (partL W H back l m clip L) := by
  have hback := Lib.hid hback
  have hlp := Lib.hid hlp
  have hmp := Lib.hid hmp
  have hkp := Lib.hid hkp
  have h64 := Lib.hid h64
  have hcw := Lib.hid hc
  go_enter Tryz.func10, Tryz.ntmps10
  go_wp2_with fail
  refine (rfill_any c p W H _ back A2 lc2 clip w hc hback.out hk hkp.out h64.out hkn).mono ?_
  rintro e w3 ⟨rfl, hs3, hc3⟩
  have hl3 := (hs3.rds' hl (Nat.le_refl _) hlp.out).more hs3.size
  have hm3 := (hm.sw hs3 (Nat.le_refl _) hmp.out).more hs3.size
  have hk3 := (hs3.rds' hk (Nat.le_refl _) hkp.out).more hs3.size
  obtain ⟨L3, hL3⟩ : ∃ L3, drawn W H clip (fun _ _ _ => back) L = L3 := ⟨_, rfl⟩
  rw [hL3] at hc3
  have hL3 := Lib.hid hL3
  clear hc hl hm hk
  have hm3 := Lib.hid hm3
  have hk3 := Lib.hid hk3
  have hc3 := Lib.hid hc3
  have hs3 := Lib.hid hs3
  go_wp2_with fail

  go_loopw [10, 11, 12] (fun s10 _ _ wr => ∃ k : Nat, k ≤ l.length ∧ s10 = .int .i64 (k : Int) ∧ Sav p w3 wr ∧ Hid (Cr wr c p W H ((l.take k).foldl (paintV W H clip m) L3))) (fun s10 _ _ _ => l.length - (intOf s10).toNat)
  case atStart => exact ⟨0, by omega, rfl, Sav.refl _ _, hc3⟩
  case round =>
    obtain ⟨k, hk, rfl, hsr, hcr⟩ := hrel
    by_cases hlt : k < l.length
    · have hlr := hsr.rds' hl3 (Nat.le_refl _) hlp.out
      have hmr := Lib.hid ((hm3.out.sw hsr (Nat.le_refl _) hmp.out).more hsr.size)
      have hkr := Lib.hid ((hsr.rds' hk3.out (Nat.le_refl _) hkp.out).more hsr.size)
      obtain ⟨ad, rfl, hbl, c0, c1, c2, c3, c4, c5⟩ := at6 hlr hlt
      have hstep := Lib.hid (foldl_take (paintV W H clip m) L3 l hlt)
      obtain ⟨Lk, hLk⟩ : ∃ Lk, (l.take k).foldl (paintV W H clip m) L3 = Lk := ⟨_, rfl⟩
      rw [hLk] at hcr hstep
      generalize hs : l[k] = v at *
      have hs := Lib.hid hs
      have hlt := Lib.hid hlt
      have hd : decide ((k : Int) < (l.length : Int)) = true := dec_t (lt_cast hlt.out)
      have i0 : (0 : Int) ≤ (k : Int) := cast_nn k
      have i1 : (k : Int) < (l.length : Int) := lt_cast hlt.out
      have hblw : ad.block < wr.heap.size := Nat.lt_of_lt_of_le hbl hsr.size
      have hbnp : ad.block ≠ p := hlp.out (Nat.zero_lt_of_lt hlt.out) ad rfl
      go_wp2_with fail
      refine (rfind_any A' lc' m v.b wr hmn hmr.out.row).mono ?_
      rintro e wb ⟨rfl, hbb⟩
      have hcb := Lib.hid (hcr.out.be hbb)
      have hmb := Lib.hid ((hmr.out.be hbb).more hbb.size)
      have hkb := Lib.hid ((hkr.out.be hbb).more hbb.size)
      have hsb := hsr.step hbb
      cases hf : findI m v.b with
      | none =>
        have e1 : (imC (opI (none : Option Im))).toArray = #[.int .i64 0, .int .i64 0, .int .i64 0, .slice none 0 0] := rfl
        have e2 : (none : Option Im).isSome = false := rfl
        rw [e1, e2]
        have hpv := Lib.hid (show paintV W H clip m Lk v = Lk from by unfold paintV; rw [hf])
        have hsb2 := hsb.al (.cells #[.int .i64 0, .int .i64 0, .int .i64 0, .slice none 0 0] 55)
        have hcb2 := Lib.hid (hcb.out.be (bl_alloc (Below.refl _ _) (.cells #[.int .i64 0, .int .i64 0, .int .i64 0, .slice none 0 0] 55)))
        clear hf
        go_wp2_with fail
        go_roundw
        case rel => exact ⟨k + 1, hlt.out, by go_num, hsb2, by rw [hstep.out, hpv.out]; exact hcb2⟩
        case measure => have h9 := sub_dec hlt.out; simpa [intOf] using h9
      | some g =>
        have e1 : (imC (opI (some g))).toArray = #[.int .i64 g.b, .int .i64 g.w, .int .i64 g.h, .slice g.A g.P.length g.c] := rfl
        have e2 : (some g).isSome = true := rfl
        rw [e1, e2]
        have hpv := Lib.hid (show paintV W H clip m Lk v = drawO W H clip v.x v.y g.w g.h g.P Lk from by unfold paintV; rw [hf])
        have hgm := Lib.hid (show g ∈ m from List.mem_of_find?_eq_some hf)
        clear hf
        go_upto_region 6 with fail
        generalize hwv : World.alloc _ _ = wc
        have Bi : Bk wc wb.heap.size 55 #[.int .i64 g.b, .int .i64 g.w, .int .i64 g.h, .slice g.A g.P.length g.c] := hwv ▸ Bk.new _ _ _
        have hbc : Below wb.heap.size wb wc := hwv ▸ bl_alloc (Below.refl _ _) _
        obtain ⟨gi, hgi⟩ : ∃ gi, wb.heap.size = gi := ⟨_, rfl⟩
        have hgiq : gi ≠ p := by have := hcb.out.px.lt; omega
        rw [hgi] at Bi ⊢
        have hcc := Lib.hid (hcb.out.be hbc)
        have hmc := Lib.hid ((hmb.out.be hbc).more hbc.size)
        have hkc := Lib.hid ((hkb.out.be hbc).more hbc.size)
        have hrc : Below wr.heap.size wr wc := bl_step hbb hbc
        have hsc := hsb.step hbc
        have hblc : (ad.add (k * 6)).block < wc.heap.size := by rw [add_blk]; exact Nat.lt_of_lt_of_le hblw hrc.size
        have hblp : (ad.add (k * 6)).block ≠ p := by rw [add_blk]; exact hbnp
        have y2 : wc.cell? ⟨(ad.add (k * 6)).block, (ad.add (k * 6)).off + 2, none⟩ = some (.int .i64 v.x) := (hrc.cell (p := ⟨(ad.add (k * 6)).block, (ad.add (k * 6)).off + 2, none⟩) (by show (ad.add (k * 6)).block < _; rw [add_blk]; exact hblw)).trans c2
        have y3 : wc.cell? ⟨(ad.add (k * 6)).block, (ad.add (k * 6)).off + 3, none⟩ = some (.int .i64 v.y) := (hrc.cell (p := ⟨(ad.add (k * 6)).block, (ad.add (k * 6)).off + 3, none⟩) (by show (ad.add (k * 6)).block < _; rw [add_blk]; exact hblw)).trans c3
        clear hwv hgi hbc hmb hcb hkb hsb c0 c1 c2 c3 c4 c5
        have hS : ∀ w' : World, Sav p wc w' → (Sav p wc w' ∧ w'.cell? ⟨(ad.add (k * 6)).block, (ad.add (k * 6)).off + 2, none⟩ = some (.int .i64 v.x) ∧ w'.cell? ⟨(ad.add (k * 6)).block, (ad.add (k * 6)).off + 3, none⟩ = some (.int .i64 v.y) ∧ w'.cell? ⟨gi, 0, none⟩ = some (.int .i64 g.b) ∧ w'.cell? ⟨gi, 1, none⟩ = some (.int .i64 g.w) ∧ w'.cell? ⟨gi, 2, none⟩ = some (.int .i64 g.h) ∧ w'.cell? ⟨gi, 3, none⟩ = some (.slice g.A g.P.length g.c)) := fun w' hs => ⟨hs, (World.cell?_of_block (w := wc) (a := ⟨(ad.add (k * 6)).block, (ad.add (k * 6)).off + 2, none⟩) (hs.block _ hblc hblp)).trans y2, (World.cell?_of_block (w := wc) (a := ⟨(ad.add (k * 6)).block, (ad.add (k * 6)).off + 3, none⟩) (hs.block _ hblc hblp)).trans y3, (hs.bk Bi hgiq).cell 0, (hs.bk Bi hgiq).cell 1, (hs.bk Bi hgiq).cell 2, (hs.bk Bi hgiq).cell 3⟩
        have hS := Lib.hid hS
        refine wp_region_held_drew (S := fun w' : World => Sav p wc w' ∧ w'.cell? ⟨(ad.add (k * 6)).block, (ad.add (k * 6)).off + 2, none⟩ = some (.int .i64 v.x) ∧ w'.cell? ⟨(ad.add (k * 6)).block, (ad.add (k * 6)).off + 3, none⟩ = some (.int .i64 v.y) ∧ w'.cell? ⟨gi, 0, none⟩ = some (.int .i64 g.b) ∧ w'.cell? ⟨gi, 1, none⟩ = some (.int .i64 g.w) ∧ w'.cell? ⟨gi, 2, none⟩ = some (.int .i64 g.h) ∧ w'.cell? ⟨gi, 3, none⟩ = some (.slice g.A g.P.length g.c)) (by kernel_rfl) (by (try dsimp only); exact hS.out _ (by first | exact Sav.refl _ _ | exact (Sav.refl _ _).dr)) (fun hHeld => ?_)
        refine wpAnyH_take (i := 0) (v := ?_) rfl (by kernel_rfl) (by kernel_rfl) (by kernel_rfl) (fun _ _ _ h => h) (Or.inl ⟨by rfl, ?_⟩) (by assumption) ?_
        rotate_left
        · (intro w hSw; (try dsimp only at hSw); go_simp; try (with_reducible rfl))
        (try simp only [Act.put, List.setIfInBounds_toArray, List.set_cons_zero, List.set_cons_succ])
        refine wpAnyH_take (i := 1) (v := ?_) rfl (by kernel_rfl) (by kernel_rfl) (by kernel_rfl) (fun _ _ _ h => h) (Or.inl ⟨by rfl, ?_⟩) (by assumption) ?_
        rotate_left
        · (intro w hSw; (try dsimp only at hSw); go_simp; try (with_reducible rfl))
        (try simp only [Act.put, List.setIfInBounds_toArray, List.set_cons_zero, List.set_cons_succ])
        refine wpAnyH_take (i := 2) (v := ?_) rfl (by kernel_rfl) (by kernel_rfl) (by kernel_rfl) (fun _ _ _ h => h) (Or.inl ⟨by rfl, ?_⟩) (by assumption) ?_
        rotate_left
        · (intro w hSw; (try dsimp only at hSw); go_simp; try (with_reducible rfl))
        (try simp only [Act.put, List.setIfInBounds_toArray, List.set_cons_zero, List.set_cons_succ])
        refine wpAnyH_take (i := 3) (v := ?_) rfl (by kernel_rfl) (by kernel_rfl) (by kernel_rfl) (fun _ _ _ h => h) (Or.inl ⟨by rfl, ?_⟩) (by assumption) ?_
        rotate_left
        · (intro w hSw; (try dsimp only at hSw); go_simp; try (with_reducible rfl))
        (try simp only [Act.put, List.setIfInBounds_toArray, List.set_cons_zero, List.set_cons_succ])
        refine wpAnyH_take (i := 4) (v := ?_) rfl (by kernel_rfl) (by kernel_rfl) (by kernel_rfl) (fun _ _ _ h => h) (Or.inl ⟨by rfl, ?_⟩) (by assumption) ?_
        rotate_left
        · (intro w hSw; (try dsimp only at hSw); go_simp; try (with_reducible rfl))
        (try simp only [Act.put, List.setIfInBounds_toArray, List.set_cons_zero, List.set_cons_succ])
        refine wpAnyH_take (i := 5) (v := ?_) rfl (by kernel_rfl) (by kernel_rfl) (by kernel_rfl) (fun _ _ _ h => h) (Or.inl ⟨by rfl, ?_⟩) (by assumption) ?_
        rotate_left
        · (intro w hSw; (try dsimp only at hSw); go_simp; try (with_reducible rfl))
        (try simp only [Act.put, List.setIfInBounds_toArray, List.set_cons_zero, List.set_cons_succ])
        refine wpAnyH_take (i := 6) (v := ?_) rfl (by kernel_rfl) (by kernel_rfl) (by kernel_rfl) (fun _ _ _ h => h) (Or.inl ⟨by rfl, ?_⟩) (by assumption) ?_
        rotate_left
        · (intro w hSw; (try dsimp only at hSw); go_simp; try (with_reducible rfl))
        (try simp only [Act.put, List.setIfInBounds_toArray, List.set_cons_zero, List.set_cons_succ])
        refine wpAnyH_take (i := 7) (v := ?_) rfl (by kernel_rfl) (by kernel_rfl) (by kernel_rfl) (fun _ _ _ h => h) (Or.inl ⟨by rfl, ?_⟩) (by assumption) ?_
        rotate_left
        · (intro w hSw; (try dsimp only at hSw); go_simp; try (with_reducible rfl))
        (try simp only [Act.put, List.setIfInBounds_toArray, List.set_cons_zero, List.set_cons_succ])
        refine wpAnyH_take (i := 8) (v := ?_) rfl (by kernel_rfl) (by kernel_rfl) (by kernel_rfl) (fun _ _ _ h => h) (Or.inl ⟨by rfl, ?_⟩) (by assumption) ?_
        rotate_left
        · (intro w hSw; (try dsimp only at hSw); go_simp; try (with_reducible rfl))
        (try simp only [Act.put, List.setIfInBounds_toArray, List.set_cons_zero, List.set_cons_succ])
        refine wpAnyH_take (i := 9) (v := ?_) rfl (by kernel_rfl) (by kernel_rfl) (by kernel_rfl) (fun _ _ _ h => h) (Or.inl ⟨by rfl, ?_⟩) (by assumption) ?_
        rotate_left
        · (intro w hSw; (try dsimp only at hSw); go_simp; try (with_reducible rfl))
        (try simp only [Act.put, List.setIfInBounds_toArray, List.set_cons_zero, List.set_cons_succ])
        refine wpAnyH_take (i := 10) (v := ?_) rfl (by kernel_rfl) (by kernel_rfl) (by kernel_rfl) (fun _ _ _ h => h) (Or.inl ⟨by rfl, ?_⟩) (by assumption) ?_
        rotate_left
        · (intro w hSw; (try dsimp only at hSw); go_simp; try (with_reducible rfl))
        (try simp only [Act.put, List.setIfInBounds_toArray, List.set_cons_zero, List.set_cons_succ])
        refine wpAnyH_take (i := 11) (v := ?_) rfl (by kernel_rfl) (by kernel_rfl) (by kernel_rfl) (fun _ _ _ h => h) (Or.inl ⟨by rfl, ?_⟩) (by assumption) ?_
        rotate_left
        · (intro w hSw; (try dsimp only at hSw); go_simp; try (with_reducible rfl))
        (try simp only [Act.put, List.setIfInBounds_toArray, List.set_cons_zero, List.set_cons_succ])
        refine wpAnyH_take (i := 12) (v := ?_) rfl (by kernel_rfl) (by kernel_rfl) (by kernel_rfl) (fun _ _ _ h => h) (Or.inl ⟨by rfl, ?_⟩) (by assumption) ?_
        rotate_left
        · (intro w hSw; (try dsimp only at hSw); go_simp; try (with_reducible rfl))
        (try simp only [Act.put, List.setIfInBounds_toArray, List.set_cons_zero, List.set_cons_succ])
        refine wpAnyH_take (i := 13) (v := ?_) rfl (by kernel_rfl) (by kernel_rfl) (by kernel_rfl) (fun _ _ _ h => h) (Or.inl ⟨by rfl, ?_⟩) (by assumption) ?_
        rotate_left
        · (intro w hSw; (try dsimp only at hSw); go_simp; try (with_reducible rfl))
        (try simp only [Act.put, List.setIfInBounds_toArray, List.set_cons_zero, List.set_cons_succ])
        refine wpAnyH_take (i := 14) (v := ?_) rfl (by kernel_rfl) (by kernel_rfl) (by kernel_rfl) (fun _ _ _ h => h) (Or.inl ⟨by rfl, ?_⟩) (by assumption) ?_
        rotate_left
        · (intro w hSw; (try dsimp only at hSw); go_simp; try (with_reducible rfl))
        (try simp only [Act.put, List.setIfInBounds_toArray, List.set_cons_zero, List.set_cons_succ])
        refine wpAnyH_take (i := 15) (v := ?_) rfl (by kernel_rfl) (by kernel_rfl) (by kernel_rfl) (fun _ _ _ h => h) (Or.inl ⟨by rfl, ?_⟩) (by assumption) ?_
        rotate_left
        · (intro w hSw; (try dsimp only at hSw); go_simp; try (with_reducible rfl))
        (try simp only [Act.put, List.setIfInBounds_toArray, List.set_cons_zero, List.set_cons_succ])
        refine wpAnyH_take (i := 16) (v := ?_) rfl (by kernel_rfl) (by kernel_rfl) (by kernel_rfl) (fun _ _ _ h => h) (Or.inl ⟨by rfl, ?_⟩) (by assumption) ?_
        rotate_left
        · (intro w hSw; (try dsimp only at hSw); go_simp; try (with_reducible rfl))
        (try simp only [Act.put, List.setIfInBounds_toArray, List.set_cons_zero, List.set_cons_succ])
        refine wpAnyH_take (i := 17) (v := ?_) rfl (by kernel_rfl) (by kernel_rfl) (by kernel_rfl) (fun _ _ _ h => h) (Or.inl ⟨by rfl, ?_⟩) (by assumption) ?_
        rotate_left
        · (intro w hSw; (try dsimp only at hSw); go_simp; try (with_reducible rfl))
        (try simp only [Act.put, List.setIfInBounds_toArray, List.set_cons_zero, List.set_cons_succ])
        refine wpAnyH_ready (rs := [18]) (by kernel_rfl) (by simp) ?_
        refine AllReadyH.cons (i := 18) rfl (fun K hK => ?_) AllReadyH.nil
        go_simp
        go_at_call 28
        have hbe : Below wc.heap.size wc wc.drew := bl_drew (Below.refl _ _)
        refine (rdraw_any c p W H Lk v.x v.y g.w g.h g.A g.P.length g.c g.P A2 lc2 clip _ (hcc.out.be hbe) rfl (((hmc.out.each g hgm.out).be hbe).more hbe.size) (hmc.out.u32 g hgm.out) (hmp.out.2 g hgm.out) ((hkc.out.be hbe).more hbe.size) hkp.out h64.out hkn).mono ?_
        rintro e wd ⟨rfl, hsd, hcd⟩
        have hsd' := (Sav.of hbe).trans hsd
        have hcd := Lib.hid hcd
        try (go_wp2_with fail)
        refine hK.out _ _ (by (try dsimp only); exact hS.out _ hsd') (fun hHeld2 => ?_)
        clear hHeld
        rename _ => hHeld
        clear hK K
        (try simp only [Act.put, List.setIfInBounds_toArray, List.set_cons_zero, List.set_cons_succ])
        refine wpAnyH_done (by kernel_rfl) ?_ _
        clear hHeld
        go_wp2_with fail
        have hsx := hsc.trans hsd'
        clear hS
        go_roundw
        case rel => exact ⟨k + 1, hlt.out, by go_num, hsx, by rw [hstep.out, hpv.out]; exact hcd⟩
        case measure => have h9 := sub_dec hlt.out; simpa [intOf] using h9
    · obtain rfl : k = l.length := by omega
      have hd : decide ((l.length : Int) < (l.length : Int)) = false := by simp
      go_wp2_with fail
      go_end0
      have h2 := hcr.out
      rw [fold_stop, ← hL3.out] at h2
      exact ⟨rfl, hs3.out.trans hsr, h2⟩
end Go.Proofs.YtjjdgbhplechbaaGreatDoor.Cv
