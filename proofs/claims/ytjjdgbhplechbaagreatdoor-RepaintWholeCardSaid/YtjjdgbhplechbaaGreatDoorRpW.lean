/- RepaintWhole, walked. Printed by gen_whole.py. -/
import Derived.Test.YtjjdgbhplechbaaGreatDoorRpS
import Derived.Test.YtjjdgbhplechbaaGreatDoorRpK
set_option linter.unusedVariables false
set_option linter.unusedSimpArgs false
namespace Go.Proofs.YtjjdgbhplechbaaGreatDoor.Cv
open Go.RowKit Go.Proofs.YtjjdgbhplechbaaGreatDoor.Kit Go.Proofs.YtjjdgbhplechbaaGreatDoor.Rect Go.Proofs.YtjjdgbhplechbaaGreatDoor.Pix
set_option maxRecDepth 100000 in
set_option maxHeartbeats 32000000 in
theorem rwhole_law (back : Int) (A : Option Addr) (la : Nat) (a : List Vw) (B : Option Addr) (lb : Nat) (b : List Vw) (A' : Option Addr) (lc' : Nat) (im : List Im) (w : World) (hback : 0 ≤ back ∧ back < 4294967296)
    (ha : Rds w w.heap.size 6 A a.length (a.flatMap vwC)) (hna : a.length ≤ 9223372036854775807) (hb : Rds w w.heap.size 6 B b.length (b.flatMap vwC)) (hnb : b.length ≤ 9223372036854775807) (hr : RdI w w.heap.size A' im) :
    Calls Tryz.prog 4 #[.int .u32 back, .slice A a.length la, .slice B b.length lb, .slice A' im.length lc'] w fun e w' => e = .returned (.bool true) ∧ Below w.heap.size w w' := by
  have hback := Lib.hid hback
  go_enter Tryz.func4, Tryz.ntmps4
  go_wp2_with fail
  refine (images_any A' lc' im w hr).mono ?_
  rintro e w1 ⟨hb1, hcase⟩
  rcases hcase with ⟨hbad, rfl⟩ | ⟨hok, A1, ci, m, rfl, hmp, hown, hownI⟩
  · go_wp2_with fail
    refine (new_any 11 8 w1 (by omega) (by omega) (by omega) (by omega)).mono ?_
    rintro e w2 ⟨c, p, rfl, hc, hc0, hp0, hb2⟩
    go_wp2_with fail
    refine (awake24_any w2).mono ?_
    rintro e wz ⟨rfl, hbz⟩
    go_wp2_with fail
    go_ret
    exact ⟨rfl, bl_step (bl_step hb1 hb2) hbz⟩
  have hi8 : im.length ≤ 8 := by
    unfold okI at hok
    rw [Bool.and_eq_true] at hok
    simpa using hok.1
  have hml : m.length ≤ 1000000 := by have := congrArg List.length hmp; simp at this; omega
  have hil : im.length ≤ 1000000 := by omega
  have hm1 : RdI w1 w1.heap.size A1 m := ⟨Rds.own hown, fun g hg => Rds.own (hownI g hg), u32_pl hmp hr.u32⟩
  have hoff : ∀ p, w1.heap.size ≤ p → Off p A1 m := fun p hp => ⟨fun ad e => by subst e; have := (hown.lt ad.block rfl).2; omega, fun g hg ad e => by have := ((hownI g hg).lt ad.block (by rw [e]; rfl)).2; omega⟩
  have hmp := Lib.hid hmp
  have hoff := Lib.hid hoff
  have hm1 := Lib.hid hm1
  have hrr := Lib.hid hr.row
  clear hown hownI hok hi8 hr
  go_wp2_with fail
  refine (new_any 11 8 w1 (by omega) (by omega) (by omega) (by omega)).mono ?_
  rintro e w2 ⟨c, p, rfl, hc, hc0, hp0, hb2⟩
  have hw2 := bl_step hb1 hb2
  have hc := Lib.hid hc
  go_wp2_with fail
  refine (near_any A la a w2 hna ((ha.be hw2).more hw2.size)).mono ?_
  rintro e w3 ⟨b1, rfl, hnr1, hb3⟩
  have hw3 := bl_step hw2 hb3
  have hnr1 := Lib.hid hnr1
  cases b1 with
  | false =>
    go_wp2_with fail
    refine (awake24_any w3).mono ?_
    rintro e wz ⟨rfl, hbz⟩
    go_wp2_with fail
    go_ret
    exact ⟨rfl, bl_step hw3 hbz⟩
  | true =>
  obtain ⟨na10, -⟩ := hnr1.out rfl
  go_wp2_with fail
  refine (near_any B lb b w3 hnb ((hb.be hw3).more hw3.size)).mono ?_
  rintro e w4 ⟨b2, rfl, hnr2, hb4⟩
  have hw4 := bl_step hw3 hb4
  have hnr2 := Lib.hid hnr2
  cases b2 with
  | false =>
    go_wp2_with fail
    refine (awake24_any w4).mono ?_
    rintro e wz ⟨rfl, hbz⟩
    go_wp2_with fail
    go_ret
    exact ⟨rfl, bl_step hw4 hbz⟩
  | true =>
  obtain ⟨nb10, -⟩ := hnr2.out rfl
  go_wp2_with fail
  refine (sized_any A la a A' lc' im w4 na10 hil ((ha.be hw4).more hw4.size) ((hrr.out.be hw4).more hw4.size)).mono ?_
  rintro e w5 ⟨X, dx, rfl, own5, hb5⟩
  have hw5 := bl_step hw4 hb5
  go_wp2_with fail
  refine (sized_any B lb b A' lc' im w5 nb10 hil ((hb.be hw5).more hw5.size) ((hrr.out.be hw5).more hw5.size)).mono ?_
  rintro e w6 ⟨Y, dy, rfl, own6, hb6⟩
  have hw6 := bl_step hw5 hb6
  have h24 := bl_step hb3 hb4
  have h26 := bl_step (bl_step h24 hb5) hb6
  have h16 := bl_step hb2 h26
  have hpl := hc.out.px.lt
  have hcl := hc.out.hd.lt
  have hcn := hc.out.ne
  have s24 := h24.size
  have s45 := hb5.size
  have s56 := hb6.size
  have s12 := hb2.size
  have s01 := hb1.size
  have xnp : ∀ ad, X = some ad → ad.block ≠ p := fun ad e => by subst e; have := (own5.lt ad.block rfl).1; omega
  have ynp : ∀ ad, Y = some ad → ad.block ≠ p := fun ad e => by subst e; have := (own6.lt ad.block rfl).1; omega
  have hX6 : Rds w6 w6.heap.size 6 X (sizedL im a).length ((sizedL im a).flatMap vwC) := Rds.own (own_bl own5 hb6)
  have hY6 : Rds w6 w6.heap.size 6 Y (sizedL im b).length ((sizedL im b).flatMap vwC) := Rds.own own6
  have nx : (sizedL im a).length ≤ 1000000 := Nat.le_trans (sized_len im a) (by omega)
  have ny : (sizedL im b).length ≤ 1000000 := Nat.le_trans (sized_len im b) (by omega)
  have zx := Lib.hid (show ∀ v ∈ sizedL im a, Sized m v from fun v hv => Sized.pl hmp.out (sized_mem hv).1)
  have zy := Lib.hid (show ∀ v ∈ sizedL im b, Sized m v from fun v hv => Sized.pl hmp.out (sized_mem hv).1)
  have vx := Lib.hid (show ∀ v ∈ sizedL im a, NearV v from fun v hv => (sized_mem hv).2)
  have vy := Lib.hid (show ∀ v ∈ sizedL im b, NearV v from fun v hv => (sized_mem hv).2)
  clear own5 own6
  obtain ⟨xs, hxs⟩ : ∃ xs, sizedL im a = xs := ⟨_, rfl⟩
  obtain ⟨ys, hys⟩ : ∃ ys, sizedL im b = ys := ⟨_, rfl⟩
  rw [hxs] at hX6 nx zx vx ⊢
  rw [hys] at hY6 ny zy vy ⊢
  have hwp : w.heap.size ≤ p := by omega
  have hM1 : ∀ w', Below w1.heap.size w1 w' → RdI w' w'.heap.size A1 m := fun w' h => (hm1.out.be h).more h.size
  have hM1 := Lib.hid hM1
  have omp := Lib.hid (OffW.of (hoff.out p hp0))
  have omp2 := Lib.hid (hoff.out p hp0)
  have hc6 := Lib.hid (hc.out.be h26)
  have hp6 : p < w6.heap.size := hc6.out.px.lt
  have hL0 : (List.replicate (11 * 8) (0 : Int)).length = 11 * 8 := by simp
  have hWE := Lib.hid (whole_eq (back := back) (a := xs) (b := ys) (m := m) (show 0 < 11 by omega) (show 11 ≤ 48 by omega) (show 8 ≤ 48 by omega) hL0 zx.out zy.out)
  have xnp := Lib.hid xnp
  have ynp := Lib.hid ynp
  have hX6 := Lib.hid hX6
  have hY6 := Lib.hid hY6
  clear hxs hys hnr1 hnr2 na10 nb10 ha hb hrr hm1 zx zy hmp hb1 hb2 hb3 hb4 hb5 hb6 hw2 hw3 hw4 hw5 h24 h26 s24 s45 s56 s12 s01 hpl hcl hL0 hc hc0 hil hna hnb
  go_wp2_with fail
  refine (all_any c p 11 8 _ back X dx xs A1 ci m w6 hc6.out hback.out hX6.out (fun _ => xnp.out) nx (hM1.out w6 h16) omp2.out hml).mono ?_
  rintro e w7 ⟨rfl, hs7, hc7⟩
  have hw7 : Below w.heap.size w w7 := hs7.below hw6 hwp hw6.size
  have h17 : Below w1.heap.size w1 w7 := hs7.below h16 hp0 h16.size
  have hX7 := Lib.hid ((hs7.rds' hX6.out (Nat.le_refl _) (fun _ => xnp.out)).more hs7.size)
  have hY7 := Lib.hid ((hs7.rds' hY6.out (Nat.le_refl _) (fun _ => ynp.out)).more hs7.size)
  obtain ⟨L, hL⟩ : ∃ L, allL 11 8 back xs m (List.replicate (11 * 8) 0) = L := ⟨_, rfl⟩
  have hWE := hWE.out
  rw [hL] at hc7 hWE
  have hWE := Lib.hid hWE
  have hc7 := Lib.hid hc7
  clear hL hs7 hc6 hX6 hY6
  go_wp2_with fail
  refine (copy_any c p 11 8 L w7 hc7.out).mono ?_
  rintro e w8 ⟨c2, p2, rfl, hca, hca0, hp20, hb8⟩
  have hw8 := bl_step hw7 hb8
  have h18 := bl_step h17 hb8
  have s8 := hb8.size
  have s17 := h17.size
  have s07 := hw7.size
  have hpl := hc7.out.px.lt
  have hcl := hc7.out.hd.lt
  have n1 : c ≠ p2 := by omega
  have n2 : p ≠ p2 := by omega
  have n3 : c2 ≠ p := by omega
  have n4 : p2 ≠ p := by omega
  have hwp2 : w.heap.size ≤ p2 := by omega
  have h1p2 : w1.heap.size ≤ p2 := by omega
  have oy2 := Lib.hid (Rds.off (hY7.out.be hb8) hp20)
  have ox2 := Lib.hid (Rds.off (hX7.out.be hb8) hp20)
  have hX8 := Lib.hid ((hX7.out.be hb8).more hb8.size)
  have hY8 := Lib.hid ((hY7.out.be hb8).more hb8.size)
  have om2 := Lib.hid (hoff.out p2 h1p2)
  have hc8 := Lib.hid (hc7.out.be hb8)
  have hca := Lib.hid hca
  clear hX7 hY7 hc7 hb8 hpl hcl hca0 hp20 s8 s17 s07 h17
  go_wp2_with fail
  refine (all_any c2 p2 11 8 L back Y dy ys A1 ci m w8 hca.out hback.out hY8.out oy2.out ny (hM1.out w8 h18) om2.out hml).mono ?_
  rintro e w9 ⟨rfl, hs9, hca9⟩
  have hw9 : Below w.heap.size w w9 := hs9.below hw8 hwp2 hw8.size
  have h19 : Below w1.heap.size w1 w9 := hs9.below h18 h1p2 h18.size
  have hX9 := Lib.hid ((hs9.rds' hX8.out (Nat.le_refl _) ox2.out).more hs9.size)
  have hY9 := Lib.hid ((hs9.rds' hY8.out (Nat.le_refl _) oy2.out).more hs9.size)
  have hc9 := Lib.hid (hc8.out.sav hs9 n1 n2)
  have hca9 := Lib.hid hca9
  have hp9 : p < w9.heap.size := hc9.out.px.lt
  clear hs9 hX8 hY8 hc8 hca n1 n2 oy2 ox2 om2
  go_wp2_with fail
  refine (changed_any X dx xs Y dy ys none 0 [] w9 vx.out vy.out hX9.out hY9.out Rds.none_ (by simp) nx ny (by simp)).mono ?_
  rintro e wA ⟨Ac, cc, rfl, hcc, hOA, hbA⟩
  have hwA := bl_step hw9 hbA
  have h1A := bl_step h19 hbA
  have hkp : 0 < (chgV xs ys []).length → ∀ ad, Ac = some ad → ad.block ≠ p := fun _ ad e => by have := hOA.2 ad e; omega
  have hRg : Reg.Rg (chgV xs ys []) := Reg.rg_flat _
  have hcln : (chgV xs ys []).length ≤ 40 := Reg.len_flat _
  obtain ⟨CL, hCL⟩ : ∃ CL, chgV xs ys [] = CL := ⟨_, rfl⟩
  have hWE := hWE.out
  rw [hCL] at hOA hkp hRg hcln hWE ⊢
  have hchk := Lib.hid (rg_i64 hRg)
  have hkp := Lib.hid hkp
  have hRg := Lib.hid hRg
  have hWE := Lib.hid hWE
  have hYA := Lib.hid ((hY9.out.be hbA).more hbA.size)
  have hcA := Lib.hid (hc9.out.be hbA)
  have hcaA := Lib.hid (hca9.out.be hbA)
  have hOA1 := Lib.hid hOA.1
  have ncl : CL.length ≤ 1000000 := by omega
  clear hCL hOA hcc hc9 hca9 hX9 hY9 hbA vx vy h19
  go_wp2_with fail
  refine (part_any c p 11 8 L back Y dy ys A1 ci m Ac cc CL wA hcA.out hback.out hYA.out (fun _ => ynp.out) ny (hM1.out wA h1A) omp.out hml hOA1.out hkp.out hchk.out ncl).mono ?_
  rintro e wB ⟨rfl, hsB, hcB⟩
  have hwB : Below w.heap.size w wB := hsB.below hwA hwp hwA.size
  have hcaB := hcaA.out.sav hsB n3 n4
  have hKB := Lib.hid ((hsB.rds' hOA1.out (Nat.le_refl _) hkp.out).more hsB.size)
  rw [hWE.out] at hcB
  obtain ⟨LL, hLL⟩ : ∃ LL, allL 11 8 back ys m L = LL := ⟨_, rfl⟩
  rw [hLL] at hcB hcaB
  have hcB := Lib.hid hcB
  have hcaB := Lib.hid hcaB
  clear hLL hWE hsB hcA hcaA hYA hOA1 hkp hchk
  go_wp2_with fail
  refine (pixels_any c p 11 8 LL wB hcB.out).mono ?_
  rintro e wE ⟨q1, rfl, Bq1, hq1, hbE⟩
  go_wp2_with fail
  refine (pixels_any c2 p2 11 8 LL wE (hcaB.out.be hbE)).mono ?_
  rintro e wF ⟨q2, rfl, Bq2, hq2, hbF⟩
  have hBF := bl_step hbE hbF
  have hwF := bl_step hwB hBF
  have hsame := Lib.hid (same_wn (some ⟨q1, 0, none⟩) (some ⟨q2, 0, none⟩) (11 * 8) LL wF hcB.out.len (by omega) (px_rds (Bq1.be hbF) hcB.out.len) (px_rds Bq2 hcB.out.len))
  clear Bq1 Bq2
  go_wp2_with fail
  refine hsame.out.mono ?_
  rintro e wG ⟨rfl, hbG⟩
  have hBG := bl_step hBF hbG
  have hwG := bl_step hwB hBG
  go_wp2_with fail
  refine (check8_any Ac cc CL wG hRg.out (by omega) ((hKB.out.be hBG).more hBG.size)).mono ?_
  rintro e wI ⟨rfl, hbI⟩
  have hwI := bl_step hwG hbI
  go_wp2_with fail
  refine (awake24_any wI).mono ?_
  rintro e wH ⟨rfl, hbH⟩
  go_wp2_with fail
  go_ret
  exact ⟨rfl, bl_step hwI hbH⟩
theorem RepaintWhole_walk (back : Int) (wk : (Lit.int .u32 back).wf = true) (A : Option Addr) (la : Nat) (a : List Vw) (B : Option Addr) (lb : Nat) (b : List Vw) (A' : Option Addr) (lc' : Nat) (im : List Im) (w : World)
    (h1 : a.length ≤ la) (rd1 : Rds w w.heap.size 6 A a.length (a.flatMap vwC)) (mx1 : a.length ≤ 9223372036854775807) (h2 : b.length ≤ lb) (rd2 : Rds w w.heap.size 6 B b.length (b.flatMap vwC)) (mx2 : b.length ≤ 9223372036854775807) (h3 : im.length ≤ lc') (rd3 : RdI w w.heap.size A' im) (mx3 : im.length ≤ 9223372036854775807) :
    Calls Tryz.prog 4 #[.int .u32 back, .slice A a.length la, .slice B b.length lb, .slice A' im.length lc'] w fun e w' => e = .returned (.bool true) ∧ Below w.heap.size w w' :=
  rwhole_law back A la a B lb b A' lc' im w (by have := bounds_u32 wk; omega) rd1 mx1 rd2 mx2 rd3
end Go.Proofs.YtjjdgbhplechbaaGreatDoor.Cv
