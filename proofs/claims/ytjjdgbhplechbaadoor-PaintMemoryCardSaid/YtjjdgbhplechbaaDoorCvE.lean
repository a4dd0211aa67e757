/- each: the points of a clip, one by one. -/
import Derived.Test.YtjjdgbhplechbaaDoorCvM
import Derived.Deep.RegionHeld3
import Derived.Deep.RegionLaw
import Derived.Deep.Cut
import Derived.Deep.DeepCutAuto
import Derived.Deep.QuietTactic
import Derived.BigQuiet
import Derived.Deep.DeepMust
set_option linter.unusedVariables false
set_option linter.unusedSimpArgs false
namespace Go.Proofs.YtjjdgbhplechbaaDoor.Cv
open Go.RowKit Go.Proofs.YtjjdgbhplechbaaDoor.Kit Go.Proofs.YtjjdgbhplechbaaDoor.Rect
attribute [local go_sem high] rEq

theorem infoR : (Tryd.prog.info? 32).map (fun i => (i.zero, i.size, i.bytes)) = some (some (.agg #[.int .i64 0, .int .i64 0, .int .i64 0, .int .i64 0]), 4, 32) := by kernel_rfl
abbrev rV (r : R) : Array Value := #[.int .i64 r.x, .int .i64 r.y, .int .i64 r.w, .int .i64 r.h]
theorem own_sv {w w' : World} {p base : Nat} {e : TypeId} {sz : Nat} {v : Value} {n : Nat} {xs : List Value} (h : w.ownsRow base e sz v n xs) (s : Sav p w w') (hn : ∀ g, v.ownBlock = some g → g ≠ p) : w'.ownsRow base e sz v n xs := by
  refine ⟨h.1, ?_⟩
  rcases h.2 with h2 | ⟨g, cap, cur, h1, h2, h3, h4⟩
  · exact .inl h2
  · have hlt : g < w.heap.size := by
      by_cases hl : g < w.heap.size
      · exact hl
      · rw [Array.getElem?_eq_none (by omega)] at h3; cases h3
    exact .inr ⟨g, cap, cur, h1, h2, (s.block g hlt (hn g (by rw [h1]; rfl))).trans h3, h4⟩
theorem bound_R (a : R) (w : World) (h : I64 a) : Calls Tryd.prog 73 #[.agg (rV a)] w fun e w' => e = .returned (.agg (rV (rBound a))) ∧ Below w.heap.size w w' := Bound_any a.x a.y a.w a.h w h
theorem cut_R (a b : R) (w : World) (ha : Sm a) (hb : Sm b) : Calls Tryd.prog 72 #[.agg (rV a), .agg (rV b)] w fun e w' => e = .returned (.agg (rV (rCut a b))) ∧ Below w.heap.size w w' := Cut_any a.x a.y a.w a.h b.x b.y b.w b.h w (fun _ => ha) (fun _ => hb)
theorem empty_R (a : R) (w : World) : Calls Tryd.prog 74 #[.agg (rV a)] w fun e w' => e = .returned (.bool (emp a)) ∧ Below w.heap.size w w' := Empty_any a.x a.y a.w a.h w
theorem addR_e {all s q : R} {acc : List R} (hq : rCut (rBound s) all = q) (h : emp q = true) : addR all acc s = acc := by unfold addR; rw [hq, if_pos h]
theorem addR_o {all s q : R} {acc : List R} (hq : rCut (rBound s) all = q) (h : emp q = false) (h2 : (acc.any fun r => eqR q r) = true) : addR all acc s = acc := by unfold addR; rw [hq, if_neg (by simp [h]), if_pos h2]
theorem addR_n {all s q : R} {acc : List R} (hq : rCut (rBound s) all = q) (h : emp q = false) (h2 : (acc.any fun r => eqR q r) = false) : addR all acc s = acc ++ [q] := by unfold addR; rw [hq, if_neg (by simp [h]), if_neg (by rw [h2]; simp)]
/-- what a way of painting one point must do -/
def Do (g : Nat) (lb : Array Value) (w0 : World) (p W H : Nat) (f : Nat → Nat → Int → Int) : Prop :=
  ∀ (w : World) (M : List Int) (x y : Nat) (v : Int), Sav p w0 w → Bk w p 22 (pxV M) → x < W → y < H → M[y * W + x]? = some v → 0 ≤ v ∧ v < 4294967296 →
    Calls Tryd.prog g (#[.pointer (some ⟨p, y * W + x, none⟩), .int .i64 (x : Int), .int .i64 (y : Int)] ++ lb) w fun e w' => e = .returned (.tuple #[]) ∧ Sav p w w' ∧ Bk w' p 22 (pxV (M.set (y * W + x) (f x y v)))
set_option maxRecDepth 100000 in
set_option maxHeartbeats 16000000 in
theorem each_any (c p W H : Nat) (L : List Int) (A : Option Addr) (lc : Nat) (l : List R) (g : Nat) (lb : Array Value) (f : Nat → Nat → Int → Int) (w : World) (hc : Cv w c p W H L) (hl : Rds w w.heap.size 4 A l.length (l.flatMap rC))
    (h64 : ∀ r ∈ l, I64 r) (hn : l.length ≤ 1000000) (hf : ∀ x y v, 0 ≤ v ∧ v < 4294967296 → 0 ≤ f x y v ∧ f x y v < 4294967296) (hdo : Do g lb w p W H f) (eg : ∀ (args : Array Value) (w : World), (callFunc g args).run Tryd.prog w = .ok (.enter g args) w) :
    Calls Tryd.prog 47 #[.pointer (some ⟨c, 0, none⟩), .slice A l.length lc, .func (.func g) #[] lb] w fun e w' => e = .returned (.tuple #[]) ∧ Sav p w w' ∧ Cv w' c p W H (drawn W H l f L) := by
  have hmf : ∀ (fn : Fn) (first cap : Array Value) (w : World), (Instr.makeFunc fn first cap).run Tryd.prog w = .ok (.func fn first cap) w := fun _ _ _ _ => rfl
  obtain ⟨iR, hiR, zR0, zR1, zR2⟩ := info_parts infoR
  obtain ⟨k0, k1, k2⟩ := hc.c3
  have hcl := hc.hd.lt
  have hS : ∀ w' : World, Below w.heap.size w w' → (Below w.heap.size w w' ∧ w'.cell? ⟨c, 0, none⟩ = some (.int .i64 (W : Int)) ∧ w'.cell? ⟨c, 1, none⟩ = some (.int .i64 (H : Int))) := fun w' hq => ⟨hq, (hq.cell hcl).trans k0, (hq.cell hcl).trans k1⟩
  have hS := Lib.hid hS
  have hc := Lib.hid hc
  have h64 := Lib.hid h64
  have hf := Lib.hid hf
  have hdo := Lib.hid hdo
  clear k0 k1 k2
  go_enter Tryd.func47, Tryd.ntmps47
  go_upto_region 0 with fail
  go_cut [6] from 7 (fun s6 wx => ∃ ga : Nat, s6 = .pointer (some ⟨ga, 0, none⟩) ∧ Bk wx ga 32 (rV ⟨0, 0, (W : Int), (H : Int)⟩) ∧ Below w.heap.size w wx)
  case first =>
    rename_i J K' hJ hK'
    go_region_held3 (fun w' : World => Below w.heap.size w w' ∧ w'.cell? ⟨c, 0, none⟩ = some (.int .i64 (W : Int)) ∧ w'.cell? ⟨c, 1, none⟩ = some (.int .i64 (H : Int))) (exact hS.out _ (by repeat (first | (with_reducible exact Below.refl _ _) | (with_reducible assumption) | (with_reducible apply bl_alloc) | (with_reducible apply bl_drew) | ((with_reducible refine bl_set ?_ ?hs _); case hs => (simp; try omega))))) (fail)
    all_goals (refine hK' _ _ (Met.intro (hJ _ _ ?_)); (repeat apply Exists.intro); refine ⟨?_, rfl⟩)
    all_goals exact ⟨_, rfl, (Bk.new _ _ _).dr, bl_drew (bl_alloc (Below.refl _ _) _)⟩
  case rest =>
  obtain ⟨ga, rfl, Ba, hb0⟩ := hcut
  obtain ⟨w0, rfl⟩ : ∃ x : World, x = wc := ⟨_, rfl⟩
  go_wp2_with fail
  clear hS
  go_loopw [7, 9, 24] (fun s7 s9 s24 wr => ∃ (k : Nat) (A1 : Option Addr) (c1 : Nat), k ≤ l.length ∧ s24 = .int .i64 (k : Int) ∧ s7 = .slice A1 (clipL ⟨0, 0, (W : Int), (H : Int)⟩ (l.take k)).length c1 ∧
    wr.ownsRow w0.heap.size 32 4 (.slice A1 (clipL ⟨0, 0, (W : Int), (H : Int)⟩ (l.take k)).length c1) (clipL ⟨0, 0, (W : Int), (H : Int)⟩ (l.take k)).length ((clipL ⟨0, 0, (W : Int), (H : Int)⟩ (l.take k)).flatMap rC) ∧ Below w0.heap.size w0 wr) (fun _ _ s24 _ => l.length - (intOf s24).toNat)
  case atStart => exact ⟨0, none, 0, by omega, rfl, rfl, World.ownsRow_nil _ _ _ _, Below.refl _ _⟩
  case round =>
    obtain ⟨k, A1, c1, hk, rfl, rfl, hown, hbr⟩ := hrel
    by_cases hlt : k < l.length
    · have hbw := bl_step hb0 hbr
      obtain ⟨ad, rfl, hbl, c0, c1', c2, c3⟩ := Rds.rc (hl.be hbw) hlt
      have h6 := Lib.hid (h64.out l[k] (List.getElem_mem hlt))
      have HC := Lib.hid (clip_step ⟨0, 0, (W : Int), (H : Int)⟩ l hlt)
      have HLn := Lib.hid (clip_len ⟨0, 0, (W : Int), (H : Int)⟩ l k hk)
      obtain ⟨acc, hacc⟩ : ∃ acc, clipL ⟨0, 0, (W : Int), (H : Int)⟩ (l.take k) = acc := ⟨_, rfl⟩
      rw [hacc] at hown HC HLn ⊢
      generalize hs : l[k] = s at *
      have HS := Lib.hid hs
      clear hs
      have i0 : (0 : Int) ≤ (k : Int) := by omega
      have i1 : (k : Int) < (l.length : Int) := by omega
      go_upto_region 5 with fail
      generalize hwv : World.alloc _ _ = wv
      have B9 : Bk wv wr.heap.size 32 (rV s) := hwv ▸ Bk.new _ _ _
      have hbv : Below wr.heap.size wr wv := hwv ▸ bl_alloc (Below.refl _ _) _
      have hb0v := bl_step hbr hbv
      have hownv := own_be hown hbv
      have hg0 : ∀ g, (Value.slice A1 acc.length c1).ownBlock = some g → g ≠ wr.heap.size := fun g hg => Nat.ne_of_lt (hown.lt g hg).2
      have hsz0 := hbr.size
      clear hwv hown c0 c1' c2 c3
      obtain ⟨g9, hg9⟩ : ∃ g9, wr.heap.size = g9 := ⟨_, rfl⟩
      rw [hg9] at B9 hg0 hsz0 ⊢
      have Bav := Ba.be hb0v
      obtain ⟨q, hq⟩ : ∃ q, rCut (rBound s) ⟨0, 0, (W : Int), (H : Int)⟩ = q := ⟨_, rfl⟩
      have hq := Lib.hid hq
      have hg0 := Lib.hid hg0
      have hgne : ga ≠ g9 := by have := Ba.lt; omega
      clear hg9
      obtain ⟨b0, b1, b2, b3⟩ := B9.c4
      obtain ⟨a0, a1, a2, a3⟩ := Bav.c4
      have hS : ∀ w' : World, Sav g9 wv w' → (Sav g9 wv w' ∧ w'.cell? ⟨ga, 0, none⟩ = some (.int .i64 0) ∧ w'.cell? ⟨ga, 1, none⟩ = some (.int .i64 0) ∧ w'.cell? ⟨ga, 2, none⟩ = some (.int .i64 (W : Int)) ∧ w'.cell? ⟨ga, 3, none⟩ = some (.int .i64 (H : Int))) := fun w' hb => ⟨hb, (hb.bk Bav hgne).c4⟩
      have hS := Lib.hid hS
      refine wp_region_held_drew (S := fun w' : World => Sav g9 wv w' ∧ w'.cell? ⟨ga, 0, none⟩ = some (.int .i64 0) ∧ w'.cell? ⟨ga, 1, none⟩ = some (.int .i64 0) ∧ w'.cell? ⟨ga, 2, none⟩ = some (.int .i64 (W : Int)) ∧ w'.cell? ⟨ga, 3, none⟩ = some (.int .i64 (H : Int))) (by kernel_rfl) (by (try dsimp only); exact hS.out _ (by repeat (first | (with_reducible assumption) | (with_reducible exact Sav.of (by assumption)) | (with_reducible exact Sav.refl _ _) | (with_reducible apply Sav.st) | (with_reducible apply Sav.dr) | (with_reducible apply Sav.al) | (with_reducible refine Sav.step ?_ (by assumption))))) (fun hHeld => ?_)
      refine wpAnyH_take (i := 2) (v := ?_) rfl (by kernel_rfl) (by kernel_rfl) (by kernel_rfl) (fun _ _ _ h => h) (Or.inl ⟨by rfl, ?_⟩) (by assumption) ?_
      rotate_left
      · (intro w hSw; (try dsimp only at hSw); go_simp; try (with_reducible rfl))
      (try simp only [Act.put, List.setIfInBounds_toArray, List.set_cons_zero, List.set_cons_succ])
      refine wpAnyH_ready (rs := [0]) (by kernel_rfl) (by simp) ?_
      refine AllReadyH.cons (i := 0) rfl (fun K hK => ?_) AllReadyH.nil
      go_simp
      refine hK.out _ _ hHeld (fun hHeld2 => ?_)
      clear hHeld2 hK K
      (try simp only [Act.put, List.setIfInBounds_toArray, List.set_cons_zero, List.set_cons_succ])
      refine wpAnyH_ready (rs := [1]) (by kernel_rfl) (by simp) ?_
      refine AllReadyH.cons (i := 1) rfl (fun K hK => ?_) AllReadyH.nil
      go_simp
      go_at_call 73
      refine (bound_R s _ h6.out).mono ?_
      rintro e u1 ⟨rfl, hqu1⟩
      have yu1 : Below wv.heap.size wv u1 := (by repeat (first | (with_reducible exact Below.refl _ _) | (with_reducible assumption) | (with_reducible apply bl_alloc) | (with_reducible apply bl_drew) | (with_reducible refine bl_step ?_ (by assumption))))
      try (go_wp2_with fail)
      refine hK.out _ _ (by (try dsimp only); exact hS.out _ (by repeat (first | (with_reducible assumption) | (with_reducible exact Sav.of (by assumption)) | (with_reducible exact Sav.refl _ _) | (with_reducible apply Sav.st) | (with_reducible apply Sav.dr) | (with_reducible apply Sav.al) | (with_reducible refine Sav.step ?_ (by assumption))))) (fun hHeld2 => ?_)
      clear hHeld
      rename _ => hHeld
      clear hK K
      (try simp only [Act.put, List.setIfInBounds_toArray, List.set_cons_zero, List.set_cons_succ])
      refine wpAnyH_ready (rs := [3]) (by kernel_rfl) (by simp) ?_
      refine AllReadyH.cons (i := 3) rfl (fun K hK => ?_) AllReadyH.nil
      go_simp
      go_at_call 72
      refine (cut_R (rBound s) ⟨0, 0, (W : Int), (H : Int)⟩ _ (bound_sm s) (sm_all hc.out.w2 hc.out.h2)).mono ?_
      rintro e u2 ⟨rfl, hqu2⟩
      have yu2 : Below wv.heap.size wv u2 := bl_step yu1 hqu2
      rw [hq.out]
      have J9 := B9.be yu2
      have n9 := J9.lt
      obtain ⟨j0, j1, j2, j3⟩ := J9.c4
      have z9 := J9.fz
      try (go_wp2_with fail)
      refine hK.out _ _ (by (try dsimp only); exact hS.out _ (by repeat (first | (with_reducible assumption) | (with_reducible exact Sav.of (by assumption)) | (with_reducible exact Sav.refl _ _) | (with_reducible apply Sav.st) | (with_reducible apply Sav.dr) | (with_reducible apply Sav.al) | (with_reducible refine Sav.step ?_ (by assumption))))) (fun hHeld2 => ?_)
      clear hHeld
      rename _ => hHeld
      clear hK K
      (try simp only [Act.put, List.setIfInBounds_toArray, List.set_cons_zero, List.set_cons_succ])
      refine wpAnyH_ready (rs := [4]) (by kernel_rfl) (by simp) ?_
      refine AllReadyH.cons (i := 4) rfl (fun K hK => ?_) AllReadyH.nil
      go_simp
      try (go_wp2_with fail)
      refine hK.out _ _ (by (try dsimp only); exact hS.out _ (by repeat (first | (with_reducible assumption) | (with_reducible exact Sav.of (by assumption)) | (with_reducible exact Sav.refl _ _) | (with_reducible apply Sav.st) | (with_reducible apply Sav.dr) | (with_reducible apply Sav.al) | (with_reducible refine Sav.step ?_ (by assumption))))) (fun hHeld2 => ?_)
      clear hHeld
      rename _ => hHeld
      clear hK K
      (try simp only [Act.put, List.setIfInBounds_toArray, List.set_cons_zero, List.set_cons_succ])
      refine wpAnyH_done (by kernel_rfl) ?_ _
      generalize hwv : World.setCell _ _ _ = w6
      have hs6 : Sav g9 wv w6 := by
        rw [← hwv]
        repeat (first | (with_reducible assumption) | (with_reducible exact Sav.of (by assumption)) | (with_reducible exact Sav.refl _ _) | (with_reducible apply Sav.st) | (with_reducible apply Sav.dr) | (with_reducible apply Sav.al) | (with_reducible refine Sav.step ?_ (by assumption)))
      have C9 : Bk w6 g9 32 (rV q) := hwv ▸ J9.st4' _ _ _ _
      have hb6 : Below w0.heap.size w0 w6 := hs6.below hb0v hsz0 hb0v.size
      have hown6 := own_sv hownv hs6 hg0.out
      clear hwv hHeld J9 n9 j0 j1 j2 j3 z9 hqu1 hqu2 yu1 yu2 B9 hownv hs6 hS Bav
      obtain ⟨j0, j1, j2, j3⟩ := C9.c4
      go_wp2_with fail
      clear j0 j1 j2 j3
      refine (empty_R q _).mono ?_
      rintro e w7 ⟨rfl, hq7⟩
      have hb7 := bl_step hb6 hq7
      have hown7 := own_be hown6 hq7
      have C9 := C9.be hq7
      clear hown6 hb6 hq7
      have HLm := Lib.hid hlt
      cases he : emp q with
      | true =>
        have HE := Lib.hid he
        clear he
        go_wp2_with fail
        go_roundw
        case rel =>
          exact ⟨k + 1, A1, c1, by omega, by go_num, by rw [HC.out, addR_e hq.out HE.out], by rw [HC.out, addR_e hq.out HE.out]; exact hown7, hb7⟩
        case measure => simp [intOf]; omega
      | false =>
        have HE := Lib.hid he
        clear he
        obtain ⟨j0, j1, j2, j3⟩ := C9.c4
        go_wp2_with fail
        clear j0 j1 j2 j3
        refine (contR A1 c1 acc q _ (by have := HLn.out; omega) (Rds.own hown7)).mono ?_
        rintro e w8 ⟨rfl, hq8⟩
        have hb8 := bl_step hb7 hq8
        have hown8 := own_be hown7 hq8
        have C9 := C9.be hq8
        clear hown7 hb7 hq8
        cases ha : acc.any fun r => eqR q r with
        | true =>
          have HA := Lib.hid ha
          clear ha
          go_wp2_with fail
          go_roundw
          case rel => exact ⟨k + 1, A1, c1, by omega, by go_num, by rw [HC.out, addR_o hq.out HE.out HA.out], by rw [HC.out, addR_o hq.out HE.out HA.out]; exact hown8, hb8⟩
          case measure => simp [intOf]; omega
        | false =>
          have HA := Lib.hid ha
          clear ha
          obtain ⟨j0, j1, j2, j3⟩ := C9.c4
          have hsz8 := hb8.size
          have HLl := HLn.out
          go_wp2_with (at_builtin; go_must (refine wpList_app _ rfl (.tmp 41) (.tmp 43) _ rfl w0.heap.size 32 iR _ 4 32 Tryd.underlying33 hiR zR0 zR1 zR2 rfl (by omega) (.slice A1 acc.length c1) acc.length (acc.flatMap rC) rfl (hown8.alloc _) (w8.heap.size + 1) (some ⟨w8.heap.size, 0, none⟩) 1 1 (rC q) rfl (Rds.block (cs := rV q) (Bk.new' _ _ _ (by simp)) rfl (by omega)) (by intro u hu; simp [rC] at hu; rcases hu with rfl | rfl | rfl | rfl <;> rfl) (by simp only [maxLen]; omega) (by omega) (by simp; omega) ?_); intro v9 w9 hown9 hg9 hat9)
          have hb9 : Below w0.heap.size w0 w9 := (bl_alloc hb8 _).grown hg9 (by simp; omega) (fun g hg => (hown8.lt g hg).1)
          have e9 := Lib.hid (addR_n hq.out HE.out HA.out)
          have el : (acc ++ [q]).length = acc.length + 1 := by simp
          have ef : (acc ++ [q]).flatMap rC = acc.flatMap rC ++ rC q := by simp
          have el := Lib.hid el
          have ef := Lib.hid ef
          go_roundw
          case rel =>
            obtain ⟨A2, c2, rfl, _⟩ := own_form hown9
            exact ⟨k + 1, A2, c2, by omega, by go_num, by rw [HC.out, e9.out, el.out], by rw [HC.out, e9.out, el.out, ef.out]; exact hown9, hb9⟩
          case measure => simp [intOf]; omega
    · obtain rfl : k = l.length := by omega
      have HI := Lib.hid (clip_i64 hc.out.w2 hc.out.h2 l l.length (Nat.le_refl _))
      have HLn := Lib.hid (clip_len ⟨0, 0, (W : Int), (H : Int)⟩ l l.length (Nat.le_refl _))
      rw [List.take_length] at hown HI HLn ⊢
      obtain ⟨acc, hacc⟩ : ∃ acc, clipL ⟨0, 0, (W : Int), (H : Int)⟩ l = acc := ⟨_, rfl⟩
      rw [hacc] at hown HI HLn ⊢
      have hacc := Lib.hid hacc
      have hbw := bl_step hb0 hbr
      obtain ⟨w1, rfl⟩ : ∃ x : World, x = wr := ⟨_, rfl⟩
      have hc1 := Lib.hid (hc.out.be hbw)
      obtain ⟨k0, k1, k2⟩ := hc1.out.c3
      go_wp2_with fail
      clear k0 k1 k2
      go_loopw [10, 11, 12, 50] (fun _ _ _ s50 wr => ∃ y : Nat, y ≤ H ∧ s50 = .int .i64 (y : Int) ∧ Bk wr p 22 (pxV (pk W l f (y * W) L)) ∧ Sav p w1 wr) (fun _ _ _ s50 _ => H - (intOf s50).toNat)
      case atStart => exact ⟨0, by omega, rfl, by rw [Nat.zero_mul, pk_zero]; exact hc1.out.px, Sav.refl _ _⟩
      case round =>
        obtain ⟨y, hy, rfl, Bp, hsr⟩ := hrel
        by_cases hlty : y < H
        · have i0 : (0 : Int) ≤ (y : Int) := by omega
          have i1 : (y : Int) < (H : Int) := by omega
          have i2 : (y : Int) < 48 := by have := hc.out.h2; omega
          go_wp2_with fail
          have hcr : Cv wr c p W H (pk W l f (y * W) L) := ⟨hsr.bk hc1.out.hd hc1.out.ne, Bp, by rw [pk_len]; exact hc1.out.len, pk_u32 hc1.out.u32 hf.out, hc1.out.w1, hc1.out.w2, hc1.out.h1, hc1.out.h2⟩
          generalize hwv : World.alloc _ _ = wa
          have By : Bk wa wr.heap.size 3 #[.int .i64 (y : Int)] := hwv ▸ Bk.new _ _ _
          have hba : Below wr.heap.size wr wa := hwv ▸ bl_alloc (Below.refl _ _) _
          have hgyp : wr.heap.size ≠ p := by have := Bp.lt; omega
          clear hwv
          obtain ⟨gy, hgy⟩ : ∃ gy, wr.heap.size = gy := ⟨_, rfl⟩
          rw [hgy] at By hgyp ⊢
          refine (row_any c p W H y _ _ (hcr.be hba) hlty).mono ?_
          rintro e wb ⟨rfl, hbb⟩
          have hsb := (hsr.trans (.of hba)).trans (.of hbb)
          have Bpb := (Bp.be hba).be hbb
          have By := By.be hbb
          have hgyp := Lib.hid hgyp
          have hlyH := Lib.hid hlty
          clear hba hbb hcr Bp hsr hgy
          go_wp2_with fail
          go_loopw [12, 58] (fun _ s58 wx => ∃ x : Nat, x ≤ W ∧ s58 = .int .i64 (x : Int) ∧ Bk wx p 22 (pxV (pk W l f (y * W + x) L)) ∧ Sav p wb wx) (fun _ s58 _ => W - (intOf s58).toNat)
          case atStart => exact ⟨0, by omega, rfl, by rw [Nat.add_zero]; exact Bpb, Sav.refl _ _⟩
          case round =>
            obtain ⟨x, hx, rfl, Bpx, hsx⟩ := hrel
            obtain ⟨wx, rfl⟩ : ∃ x : World, x = wr := ⟨_, rfl⟩
            by_cases hltx : x < W
            · have j0 : (0 : Int) ≤ (x : Int) := by omega
              have j1 : (x : Int) < (W : Int) := by omega
              have j2 : (x : Int) < 48 := by have := hc.out.w2; omega
              go_wp2_with fail
              generalize hwv : World.alloc _ _ = wc
              have Bx : Bk wc wx.heap.size 3 #[.int .i64 (x : Int)] := hwv ▸ Bk.new _ _ _
              have hbc : Below wx.heap.size wx wc := hwv ▸ bl_alloc (Below.refl _ _) _
              have hgxp : wx.heap.size ≠ p := by have := Bpx.lt; omega
              clear hwv
              obtain ⟨gx, hgx⟩ : ∃ gx, wx.heap.size = gx := ⟨_, rfl⟩
              rw [hgx] at Bx hgxp ⊢
              have hsc := hsx.step hbc
              have Byc := hsc.bk By hgyp.out
              have ownc := own_sv hown (hsb.trans hsc) (fun g hg => by have := (hown.lt g hg).1; have := hb0.size; have := hc.out.px.lt; omega)
              refine (contF A1 c1 acc gx gy (x : Int) (y : Int) _ (by have := HLn.out; omega) HI.out (by have := hc.out.w2; omega) (by have := hc.out.h2; have := hlyH.out; omega) (Bx.cell 0) (Byc.cell 0) (Rds.own ownc)).mono ?_
              rintro e wd ⟨rfl, hbd⟩
              have hin : (acc.any fun r => rHas r (x : Int) (y : Int)) = inn l (x : Int) (y : Int) := by rw [← hacc.out]; exact clip_any (has_all hltx hlyH.out) l
              rw [hin]
              have hkl : y * W + x < L.length := by rw [hc.out.len]; have := mul_le (W := W) hlyH.out; omega
              have hsd := hsc.step hbd
              have Bpd := (Bpx.be hbc).be hbd
              have Bxd := Bx.be hbd
              have Byd := Byc.be hbd
              clear hin hbd Bx Byc ownc hbc Bpx hsc hsx hgx
              cases hi : inn l (x : Int) (y : Int) with
              | true =>
                have HIn := Lib.hid hi
                clear hi
                go_upto_region 17 with fail
                have hS : ∀ w' : World, Sav p wd w' → (Sav p wd w' ∧ w'.cell? ⟨gx, 0, none⟩ = some (.int .i64 (x : Int)) ∧ w'.cell? ⟨gy, 0, none⟩ = some (.int .i64 (y : Int))) := fun w' hb => ⟨hb, (hb.bk Bxd hgxp).cell 0, (hb.bk Byd hgyp.out).cell 0⟩
                have hS := Lib.hid hS
                have hkl := Lib.hid hkl
                have HLT := Lib.hid hltx
                refine wp_region_held_drew (S := fun w' : World => Sav p wd w' ∧ w'.cell? ⟨gx, 0, none⟩ = some (.int .i64 (x : Int)) ∧ w'.cell? ⟨gy, 0, none⟩ = some (.int .i64 (y : Int))) (by kernel_rfl) (by (try dsimp only); exact hS.out _ (by repeat (first | (with_reducible assumption) | (with_reducible exact Sav.of (by assumption)) | (with_reducible exact Sav.refl _ _) | (with_reducible apply Sav.st) | (with_reducible apply Sav.dr) | (with_reducible apply Sav.al) | (with_reducible refine Sav.step ?_ (by assumption))))) (fun hHeld => ?_)
                refine wpAnyH_take (i := 0) (v := ?_) rfl (by kernel_rfl) (by kernel_rfl) (by kernel_rfl) (fun _ _ _ h => h) (Or.inl ⟨by rfl, ?_⟩) (by assumption) ?_
                rotate_left
                · (intro w hSw; (try dsimp only at hSw); go_simp; try (with_reducible rfl))
                (try simp only [Act.put, List.setIfInBounds_toArray, List.set_cons_zero, List.set_cons_succ])
                refine wpAnyH_take (i := 1) (v := ?_) rfl (by kernel_rfl) (by kernel_rfl) (by kernel_rfl) (fun _ _ _ h => h) (Or.inl ⟨by rfl, ?_⟩) (by assumption) ?_
                rotate_left
                · (intro w hSw; (try dsimp only at hSw); go_simp; try (with_reducible rfl))
                (try simp only [Act.put, List.setIfInBounds_toArray, List.set_cons_zero, List.set_cons_succ])
                refine wpAnyH_take (i := 2) (v := ?_) rfl (by kernel_rfl) (by kernel_rfl) (by kernel_rfl) (fun _ _ _ h => h) (Or.inl ⟨by rfl, ?_⟩) (by assumption) ?_
                rotate_left
                · (intro w hSw; (try dsimp only at hSw); go_simp; try (with_reducible rfl))
                (try simp only [Act.put, List.setIfInBounds_toArray, List.set_cons_zero, List.set_cons_succ])
                refine wpAnyH_take (i := 3) (v := ?_) rfl (by kernel_rfl) (by kernel_rfl) (by kernel_rfl) (fun _ _ _ h => h) (Or.inl ⟨by rfl, ?_⟩) (by assumption) ?_
                rotate_left
                · (intro w hSw; (try dsimp only at hSw); go_simp; try (with_reducible rfl))
                (try simp only [Act.put, List.setIfInBounds_toArray, List.set_cons_zero, List.set_cons_succ])
                refine wpAnyH_take (i := 4) (v := ?_) rfl (by kernel_rfl) (by kernel_rfl) (by kernel_rfl) (fun _ _ _ h => h) (Or.inl ⟨by rfl, ?_⟩) (by assumption) ?_
                rotate_left
                · (intro w hSw; (try dsimp only at hSw); go_simp; try (with_reducible rfl))
                (try simp only [Act.put, List.setIfInBounds_toArray, List.set_cons_zero, List.set_cons_succ])
                refine wpAnyH_take (i := 5) (v := ?_) rfl (by kernel_rfl) (by kernel_rfl) (by kernel_rfl) (fun _ _ _ h => h) (Or.inl ⟨by rfl, ?_⟩) (by assumption) ?_
                rotate_left
                · (intro w hSw; (try dsimp only at hSw); go_simp; try (with_reducible rfl))
                (try simp only [Act.put, List.setIfInBounds_toArray, List.set_cons_zero, List.set_cons_succ])
                refine wpAnyH_ready (rs := [6]) (by kernel_rfl) (by simp) ?_
                refine AllReadyH.cons (i := 6) rfl (fun K hK => ?_) AllReadyH.nil
                go_simp
                refine (hdo.out wd.drew (pk W l f (y * W + x) L) x y (L[y * W + x]'hkl.out) (((Sav.of hbw).trans (hsb.trans hsd)).dr) Bpd.dr HLT.out hlyH.out (pk_at hkl.out) (hc.out.u32 _ (List.getElem_mem _))).mono ?_
                rintro e we ⟨rfl, hse0, Bpe⟩
                have hse : Sav p wd we := (Sav.refl p wd).dr.trans hse0
                clear hse0
                try (go_wp2_with fail)
                refine hK.out _ _ (by (try dsimp only); exact hS.out _ hse) (fun hHeld2 => ?_)
                clear hHeld
                rename _ => hHeld
                clear hK K
                (try simp only [Act.put, List.setIfInBounds_toArray, List.set_cons_zero, List.set_cons_succ])
                refine wpAnyH_done (by kernel_rfl) ?_ _
                clear hHeld
                go_wp2_with fail
                have hsx' := hsd.trans hse
                clear hsd hse hS Bxd Byd Bpd
                go_roundw
                case rel => exact ⟨x + 1, HLT.out, by go_num, by rw [pk_t HLT.out hkl.out HIn.out]; exact Bpe, hsx'⟩
                case measure => have := HLT.out; simp [intOf]; omega
              | false =>
                have HIn := Lib.hid hi
                have hkl := Lib.hid hkl
                have hltx := Lib.hid hltx
                clear hi
                go_wp2_with fail
                go_roundw
                case rel => exact ⟨x + 1, hltx.out, by go_num, by rw [pk_f hltx.out hkl.out HIn.out]; exact Bpd, hsd⟩
                case measure => have := hltx.out; simp [intOf]; omega
            · obtain rfl : x = W := by omega
              go_wp2_with fail
              go_roundw
              case rel => exact ⟨y + 1, hlyH.out, by go_num, by rw [Nat.succ_mul]; exact Bpx, hsb.trans hsx⟩
              case measure => have := hlyH.out; simp [intOf]; omega
        · obtain rfl : y = H := by omega
          go_wp2_with fail
          go_end0
          refine ⟨rfl, (Sav.of hbw).trans hsr, hsr.bk hc1.out.hd hc1.out.ne, ?_, by unfold drawn; rw [pnt_len]; exact hc1.out.len, pk_u32 (k := W * y) hc1.out.u32 hf.out, hc1.out.w1, hc1.out.w2, hc1.out.h1, hc1.out.h2⟩
          rw [← pk_all, Nat.mul_comm W y]
          exact Bp
end Go.Proofs.YtjjdgbhplechbaaDoor.Cv
