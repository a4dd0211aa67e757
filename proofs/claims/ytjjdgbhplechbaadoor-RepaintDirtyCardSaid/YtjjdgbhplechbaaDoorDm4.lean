/- repaint.dirt: what it makes. Printed by gen_rep.py. -/
import Derived.Test.YtjjdgbhplechbaaDoorDm3
set_option linter.unusedVariables false
set_option linter.unusedSimpArgs false
namespace Go.Proofs.YtjjdgbhplechbaaDoor.Cv
open Go.RowKit Go.Proofs.YtjjdgbhplechbaaDoor.Kit Go.Proofs.YtjjdgbhplechbaaDoor.Reg Go.Proofs.YtjjdgbhplechbaaDoor.Rect

set_option maxRecDepth 100000 in
set_option maxHeartbeats 32000000 in
theorem dirt_any (base : Nat) (A : Option Addr) (c : Nat) (S : List R) (v : Vw) (B : Option Addr) (d : Nat) (ds : List Dt) (w : World) (hv : NearV v) (hcc : (flatF S).length ≤ c) (hA : Out base w A (flatF S)) (hbase : base ≤ w.heap.size)
    (hl : Rds w w.heap.size 2 B ds.length (ds.flatMap dtC)) (hd : ∀ d ∈ ds, DtOk w w.heap.size d) (hn : ds.length ≤ 1000000) :
    Calls Tryd.prog 69 #[.slice A (flatF S).length c, .agg #[.int .i64 v.s, .int .i64 v.b, .int .i64 v.x, .int .i64 v.y, .int .i64 v.w, .int .i64 v.h], .slice B ds.length d] w (OutB base w (flatF (S ++ dList v ds))) := by
  obtain ⟨vs, vb, vx, vy, vw, vh⟩ := v
  have hchk := fun w => Check_any vx vy vw vh w (near_64 hv)
  cases hc : rChk ⟨vx, vy, vw, vh⟩ with
  | false =>
    rw [hc] at hchk
    have hD : dList ⟨vs, vb, vx, vy, vw, vh⟩ ds = [] := by unfold dList rvV; rw [if_neg (by rw [hc]; decide)]
    rw [hD, List.append_nil]
    obtain ⟨F, hF⟩ : ∃ F, flatF S = F := ⟨_, rfl⟩
    rw [hF] at hA hcc ⊢
    have hchk := Lib.hid hchk
    clear hF hD hc hl hd hn hv
    go_enter Tryd.func69, Tryd.ntmps69
    go_wp2_with fail
    generalize hwv : World.alloc _ _ = w1
    have hb1 : Below w.heap.size w w1 := hwv ▸ bl_alloc (Below.refl _ _) _
    clear hwv
    refine (ofV_any vs vb vx vy vw vh w1).mono ?_
    rintro e w2 ⟨rfl, hb2⟩
    go_wp2_with fail
    refine (hchk.out w2).mono ?_
    rintro e w3 ⟨rfl, hb3⟩
    have h03 := bl_step (bl_step hb1 hb2) hb3
    go_wp2_with fail
    go_ret
    exact ⟨A, c, rfl, hcc, hA.be h03, h03⟩
  | true =>
    rw [hc] at hchk
    have hD : dList ⟨vs, vb, vx, vy, vw, vh⟩ ds = ds.flatMap (dOne ⟨vs, vb, vx, vy, vw, vh⟩) := by unfold dList rvV; rw [if_pos hc]
    rw [hD]
    have hchk := Lib.hid hchk
    have hvH := Lib.hid hv
    have hA := Lib.hid hA
    have hd := Lib.hid hd
    have HSH := Lib.hid (fun (a0 a1 a2 a3 : Int) (h : (⟨a0, a1, a2, a3⟩ : R) = zR ∨ chkR ⟨a0, a1, a2, a3⟩) w => Shift_any a0 a1 a2 a3 vx vy w (fun _ => sm_or h) (fun _ => nr_x hv.1) (fun _ => nr_x hv.2.1))
    have HCT := Lib.hid (fun (a0 a1 a2 a3 : Int) (h : Sm ⟨a0, a1, a2, a3⟩) w => Cut_any a0 a1 a2 a3 vx vy vw vh w (fun _ => h) (fun _ => near_sm hv))
    clear hD hc hv
    go_enter Tryd.func69, Tryd.ntmps69
    go_wp2_with fail
    generalize hwv : World.alloc _ _ = w1
    have B1 : Bk w1 w.heap.size 60 #[.int .i64 vs, .int .i64 vb, .int .i64 vx, .int .i64 vy, .int .i64 vw, .int .i64 vh] := hwv ▸ Bk.new _ _ _
    have hb1 : Below w.heap.size w w1 := hwv ▸ bl_alloc (Below.refl _ _) _
    clear hwv
    obtain ⟨gv, hgv⟩ : ∃ gv, w.heap.size = gv := ⟨_, rfl⟩
    rw [hgv] at B1 ⊢
    refine (ofV_any vs vb vx vy vw vh w1).mono ?_
    rintro e w2 ⟨rfl, hb2⟩
    go_wp2_with fail
    refine (hchk.out w2).mono ?_
    rintro e w3 ⟨rfl, hb3⟩
    have h13 := bl_step hb2 hb3
    have h03 := bl_step hb1 h13
    have B3 := B1.be h13
    have hl3 := (hl.be h03).more h03.size
    have hd3 := Lib.hid (fun d hm => (DtOk.mk (((hd.out d hm).r.be h03).more h03.size) (hd.out d hm).i (hd.out d hm).n : DtOk w3 w3.heap.size d))
    have hO3 := Lib.hid (hA.out.be h03)
    have hs3 := Nat.le_trans hbase h03.size
    clear hl hd hA hb1 hb2 hb3 h13 B1 hchk
    go_wp2_with fail
    go_loopw [0, 8, 10, 18] (fun s0 _ _ s18 wr => ∃ k : Nat, k ≤ ds.length ∧ s18 = .int .i64 (k : Int) ∧ ∃ A' c', s0 = .slice A' (flatF (S ++ (ds.take k).flatMap (dOne ⟨vs, vb, vx, vy, vw, vh⟩))).length c' ∧ (flatF (S ++ (ds.take k).flatMap (dOne ⟨vs, vb, vx, vy, vw, vh⟩))).length ≤ c' ∧ Hid (Out base wr A' (flatF (S ++ (ds.take k).flatMap (dOne ⟨vs, vb, vx, vy, vw, vh⟩)))) ∧ Below w3.heap.size w3 wr) (fun _ _ _ s18 _ => ds.length - (intOf s18).toNat)
    case atStart => exact ⟨0, by omega, rfl, A, c, by rw [List.take_zero, List.flatMap_nil, List.append_nil], by rw [List.take_zero, List.flatMap_nil, List.append_nil]; exact hcc, by rw [List.take_zero, List.flatMap_nil, List.append_nil]; exact hO3, Below.refl _ _⟩
    case round =>
      obtain ⟨k, hk, rfl, A', c', rfl, hcp, hO, hbr⟩ := hrel
      obtain ⟨wo, rfl⟩ : ∃ x : World, x = wr := ⟨_, rfl⟩
      by_cases hlt : k < ds.length
      · have hst := fm_tk (dOne ⟨vs, vb, vx, vy, vw, vh⟩) ds hlt
        obtain ⟨ad, rfl, hbl, c0, c1⟩ := at2 (hl3.be hbr) hlt
        have hdk := hd3.out ds[k] (List.getElem_mem hlt)
        have i0 : (0 : Int) ≤ (k : Int) := by omega
        have i1 : (k : Int) < (ds.length : Int) := by omega
        have Br := B3.be hbr
        obtain ⟨b0, b1, b2, b3, b4, b5⟩ := Bk.c6 Br
        have hgl := Br.lt
        have hgn : ¬ (gv = wo.heap.size) := by omega
        have hgn' : ¬ (wo.heap.size = gv) := by omega
        obtain ⟨Sk, hSk⟩ : ∃ Sk, S ++ (ds.take k).flatMap (dOne ⟨vs, vb, vx, vy, vw, vh⟩) = Sk := ⟨_, rfl⟩
        have hst2 : S ++ (ds.take (k + 1)).flatMap (dOne ⟨vs, vb, vx, vy, vw, vh⟩) = Sk ++ dOne ⟨vs, vb, vx, vy, vw, vh⟩ ds[k] := by rw [hst, ← List.append_assoc, hSk]
        rw [hSk] at hO hcp ⊢
        have hst2 := Lib.hid hst2
        clear hst hSk
        generalize hs : ds[k] = dd at *
        have hlt := Lib.hid hlt
        have hdk := Lib.hid hdk
        by_cases he : dd.s = vs
        case neg =>
          have hE : (dd.s != vs) = true := by simpa using he
          have hdo : dOne ⟨vs, vb, vx, vy, vw, vh⟩ dd = [] := if_neg he
          have hst3 := hst2.out
          rw [hdo, List.append_nil] at hst3
          have hst3 := Lib.hid hst3
          clear hdo hst2 he
          go_wp2_with fail
          go_roundw
          case rel => exact ⟨k + 1, hlt.out, by go_num, A', c', by rw [hst3.out], by rw [hst3.out]; exact hcp, by rw [hst3.out]; exact Lib.hid (hO.out.be (bl_alloc (Below.refl _ _) _)), bl_alloc hbr _⟩
          case measure => have := hlt.out; simp [intOf]; omega
        have hE : (dd.s != vs) = false := by simpa using he
        have hdo : dOne ⟨vs, vb, vx, vy, vw, vh⟩ dd = dd.D.map (spotV ⟨vs, vb, vx, vy, vw, vh⟩) := if_pos he
        have hst3 := hst2.out
        rw [hdo] at hst3
        have hst3 := Lib.hid hst3
        clear hdo hst2 he
        go_wp2_with fail
        generalize hwv : World.alloc _ _ = w4
        have hb4 : Below wo.heap.size wo w4 := hwv ▸ bl_alloc (Below.refl _ _) _
        have B4 := Br.be hb4
        have hO4 := Lib.hid (hO.out.be hb4)
        have h34 := bl_step hbr hb4
        have hr4 := Lib.hid ((hdk.out.r.be h34).more h34.size)
        have hs4 := Nat.le_trans hs3 h34.size
        clear hwv c0 c1 b0 b1 b2 b3 b4 b5 hgl hgn hgn' hb4 Br
        go_loopw [0, 10, 30] (fun s0 _ s30 wq => ∃ j : Nat, j ≤ dd.D.length ∧ s30 = .int .i64 (j : Int) ∧ ∃ A' c', s0 = .slice A' (flatF (Sk ++ (dd.D.take j).map (spotV ⟨vs, vb, vx, vy, vw, vh⟩))).length c' ∧ (flatF (Sk ++ (dd.D.take j).map (spotV ⟨vs, vb, vx, vy, vw, vh⟩))).length ≤ c' ∧ Hid (Out base wq A' (flatF (Sk ++ (dd.D.take j).map (spotV ⟨vs, vb, vx, vy, vw, vh⟩)))) ∧ Below w4.heap.size w4 wq) (fun _ _ s30 _ => dd.D.length - (intOf s30).toNat)
        case atStart => exact ⟨0, by omega, rfl, A', c', by rw [List.take_zero, List.map_nil, List.append_nil], by rw [List.take_zero, List.map_nil, List.append_nil]; exact hcp, by rw [List.take_zero, List.map_nil, List.append_nil]; exact hO4, Below.refl _ _⟩
        case round =>
          obtain ⟨j, hj, rfl, A5, c5, rfl, hcp5, hO5, hbq⟩ := hrel
          obtain ⟨wq, rfl⟩ : ∃ x : World, x = wr := ⟨_, rfl⟩
          by_cases hjt : j < dd.D.length
          · have hst := map_tk (spotV ⟨vs, vb, vx, vy, vw, vh⟩) dd.D hjt
            obtain ⟨ad2, ead2, hbl2, r0, r1, r2, r3⟩ := Rds.rc (hr4.out.be hbq) hjt
            have h64 := hdk.out.i dd.D[j] (List.getElem_mem hjt)
            have hdn := hdk.out.n
            have j0 : (0 : Int) ≤ (j : Int) := by omega
            have j1 : (j : Int) < (dd.D.length : Int) := by omega
            have Bq := B4.be hbq
            obtain ⟨Sj, hSj⟩ : ∃ Sj, Sk ++ (dd.D.take j).map (spotV ⟨vs, vb, vx, vy, vw, vh⟩) = Sj := ⟨_, rfl⟩
            have hst2 : Sk ++ (dd.D.take (j + 1)).map (spotV ⟨vs, vb, vx, vy, vw, vh⟩) = Sj ++ [spotV ⟨vs, vb, vx, vy, vw, vh⟩ dd.D[j]] := by rw [hst, ← List.append_assoc, hSj]
            rw [hSj] at hO5 hcp5 ⊢
            generalize hsr : dd.D[j] = s at *
            obtain ⟨s0, s1, s2, s3⟩ := s
            dsimp only at r0 r1 r2 r3
            have HB := fun w => Bound_any s0 s1 s2 s3 w h64
            have hbc := bound_chk ⟨s0, s1, s2, s3⟩
            have hsp : spotV ⟨vs, vb, vx, vy, vw, vh⟩ ⟨s0, s1, s2, s3⟩ = rCut (rShift (rBound ⟨s0, s1, s2, s3⟩) vx vy) ⟨vx, vy, vw, vh⟩ := rfl
            have hs64 := spot_64 hvH.out ⟨s0, s1, s2, s3⟩
            obtain ⟨⟨p0, p1, p2, p3⟩, hp⟩ : ∃ q, rBound ⟨s0, s1, s2, s3⟩ = q := ⟨_, rfl⟩
            rw [hp] at HB hbc hsp
            have HS := HSH.out p0 p1 p2 p3 hbc
            have hsm := shift_sm hbc hvH.out.1 hvH.out.2.1
            dsimp only at hsm
            obtain ⟨⟨t0, t1, t2, t3⟩, ht⟩ : ∃ q, rShift ⟨p0, p1, p2, p3⟩ vx vy = q := ⟨_, rfl⟩
            rw [ht] at HS hsp hsm
            have HC := HCT.out t0 t1 t2 t3 hsm
            obtain ⟨⟨q0, q1, q2, q3⟩, hq⟩ : ∃ q, rCut ⟨t0, t1, t2, t3⟩ ⟨vx, vy, vw, vh⟩ = q := ⟨_, rfl⟩
            rw [hq] at HC hsp
            rw [hsp] at hs64 hst2
            dsimp only at HB HS HC
            have HA := fun A c w hl => damAdd_any A c (flatF Sj) q0 q1 q2 q3 w hl (rg_i64 (rg_flat Sj)) (by have := len_flat Sj; omega) hs64
            rw [flat_snoc] at HA
            have HA := Lib.hid HA
            have HB := Lib.hid HB
            have HS := Lib.hid HS
            have HC := Lib.hid HC
            have hst2 := Lib.hid hst2
            have hst3' := hst3
            have hjt := Lib.hid hjt
            have hs5 := Nat.le_trans hs4 hbq.size
            obtain ⟨F, hF⟩ : ∃ F, flatF Sj = F := ⟨_, rfl⟩
            rw [hF] at hO5 hcp5 HA ⊢
            clear hF hsp hs64 hp ht hq hsm hbc hst hSj h64 hsr hst3'
            rw [ead2] at *
            have hgl := Bq.lt
            go_upto_region 10 with fail
            generalize hwv : World.alloc _ _ = w6
            have B6 : Bk w6 gv 60 #[.int .i64 vs, .int .i64 vb, .int .i64 vx, .int .i64 vy, .int .i64 vw, .int .i64 vh] := hwv ▸ Bq.al _
            have R6 : Bk w6 wq.heap.size 32 #[.int .i64 s0, .int .i64 s1, .int .i64 s2, .int .i64 s3] := hwv ▸ Bk.new _ _ _
            have hb6 : Below wq.heap.size wq w6 := hwv ▸ bl_alloc (Below.refl _ _) _
            have hO6 := Lib.hid (hO5.out.be hb6)
            have h46 := bl_step hbq hb6
            have hs6 := Nat.le_trans hs5 hb6.size
            obtain ⟨gr, hgr⟩ : ∃ gr, wq.heap.size = gr := ⟨_, rfl⟩
            rw [hgr] at R6 ⊢
            clear hwv hgr hgl r0 r1 r2 r3
            have hS : ∀ w' : World, Below w6.heap.size w6 w' → (Below w6.heap.size w6 w' ∧ w'.cell? ⟨gr, 0, none⟩ = some (.int .i64 s0) ∧ w'.cell? ⟨gr, 1, none⟩ = some (.int .i64 s1) ∧ w'.cell? ⟨gr, 2, none⟩ = some (.int .i64 s2) ∧ w'.cell? ⟨gr, 3, none⟩ = some (.int .i64 s3) ∧ w'.cell? ⟨gv, 0, none⟩ = some (.int .i64 vs) ∧ w'.cell? ⟨gv, 1, none⟩ = some (.int .i64 vb) ∧ w'.cell? ⟨gv, 2, none⟩ = some (.int .i64 vx) ∧ w'.cell? ⟨gv, 3, none⟩ = some (.int .i64 vy) ∧ w'.cell? ⟨gv, 4, none⟩ = some (.int .i64 vw) ∧ w'.cell? ⟨gv, 5, none⟩ = some (.int .i64 vh)) := fun w' hb => ⟨hb, (R6.be hb).cell 0, (R6.be hb).cell 1, (R6.be hb).cell 2, (R6.be hb).cell 3, (B6.be hb).cell 0, (B6.be hb).cell 1, (B6.be hb).cell 2, (B6.be hb).cell 3, (B6.be hb).cell 4, (B6.be hb).cell 5⟩
            have hS := Lib.hid hS
            refine wp_region_held_drew (S := fun w' : World => Below w6.heap.size w6 w' ∧ w'.cell? ⟨gr, 0, none⟩ = some (.int .i64 s0) ∧ w'.cell? ⟨gr, 1, none⟩ = some (.int .i64 s1) ∧ w'.cell? ⟨gr, 2, none⟩ = some (.int .i64 s2) ∧ w'.cell? ⟨gr, 3, none⟩ = some (.int .i64 s3) ∧ w'.cell? ⟨gv, 0, none⟩ = some (.int .i64 vs) ∧ w'.cell? ⟨gv, 1, none⟩ = some (.int .i64 vb) ∧ w'.cell? ⟨gv, 2, none⟩ = some (.int .i64 vx) ∧ w'.cell? ⟨gv, 3, none⟩ = some (.int .i64 vy) ∧ w'.cell? ⟨gv, 4, none⟩ = some (.int .i64 vw) ∧ w'.cell? ⟨gv, 5, none⟩ = some (.int .i64 vh)) (by kernel_rfl) (by (try dsimp only); exact hS.out _ (by repeat (first | (with_reducible exact Below.refl _ _) | (with_reducible assumption) | (with_reducible apply bl_alloc) | (with_reducible apply bl_drew)))) (fun hHeld => ?_)
            refine wpAnyH_take (i := 0) (v := ?_) rfl (by kernel_rfl) (by kernel_rfl) (by kernel_rfl) (fun _ _ _ h => h) (Or.inl ⟨by rfl, ?_⟩) (by assumption) ?_
            rotate_left
            · (intro w hSw; (try dsimp only at hSw); go_simp; try (with_reducible rfl))
            (try simp only [Act.put, List.setIfInBounds_toArray, List.set_cons_zero, List.set_cons_succ])
            refine wpAnyH_take (i := 1) (v := ?_) rfl (by kernel_rfl) (by kernel_rfl) (by kernel_rfl) (fun _ _ _ h => h) (Or.inl ⟨by rfl, ?_⟩) (by assumption) ?_
            rotate_left
            · (intro w hSw; (try dsimp only at hSw); go_simp; try (with_reducible rfl))
            (try simp only [Act.put, List.setIfInBounds_toArray, List.set_cons_zero, List.set_cons_succ])
            refine wpAnyH_take (i := 3) (v := ?_) rfl (by kernel_rfl) (by kernel_rfl) (by kernel_rfl) (fun _ _ _ h => h) (Or.inl ⟨by rfl, ?_⟩) (by assumption) ?_
            rotate_left
            · (intro w hSw; (try dsimp only at hSw); go_simp; try (with_reducible rfl))
            (try simp only [Act.put, List.setIfInBounds_toArray, List.set_cons_zero, List.set_cons_succ])
            refine wpAnyH_take (i := 4) (v := ?_) rfl (by kernel_rfl) (by kernel_rfl) (by kernel_rfl) (fun _ _ _ h => h) (Or.inl ⟨by rfl, ?_⟩) (by assumption) ?_
            rotate_left
            · (intro w hSw; (try dsimp only at hSw); go_simp; try (with_reducible rfl))
            (try simp only [Act.put, List.setIfInBounds_toArray, List.set_cons_zero, List.set_cons_succ])
            refine wpAnyH_take (i := 5) (v := ?_) rfl (by kernel_rfl) (by kernel_rfl) (by kernel_rfl) (fun _ _ _ h => h) (Or.inl ⟨by rfl, ?_⟩) (by assumption) ?_
            rotate_left
            · (intro w hSw; (try dsimp only at hSw); go_simp; try (with_reducible rfl))
            (try simp only [Act.put, List.setIfInBounds_toArray, List.set_cons_zero, List.set_cons_succ])
            refine wpAnyH_take (i := 6) (v := ?_) rfl (by kernel_rfl) (by kernel_rfl) (by kernel_rfl) (fun _ _ _ h => h) (Or.inl ⟨by rfl, ?_⟩) (by assumption) ?_
            rotate_left
            · (intro w hSw; (try dsimp only at hSw); go_simp; try (with_reducible rfl))
            (try simp only [Act.put, List.setIfInBounds_toArray, List.set_cons_zero, List.set_cons_succ])
            refine wpAnyH_take (i := 8) (v := ?_) rfl (by kernel_rfl) (by kernel_rfl) (by kernel_rfl) (fun _ _ _ h => h) (Or.inl ⟨by rfl, ?_⟩) (by assumption) ?_
            rotate_left
            · (intro w hSw; (try dsimp only at hSw); go_simp; try (with_reducible rfl))
            (try simp only [Act.put, List.setIfInBounds_toArray, List.set_cons_zero, List.set_cons_succ])
            refine wpAnyH_ready (rs := [2]) (by kernel_rfl) (by simp) ?_
            refine AllReadyH.cons (i := 2) rfl (fun K hK => ?_) AllReadyH.nil
            go_simp
            go_at_call 73
            have hbe : Below w6.heap.size w6 w6.drew := bl_drew (Below.refl _ _)
            refine (HB.out _).mono ?_
            rintro e wa ⟨rfl, hba⟩
            have hbA := bl_step hbe hba
            try (go_wp2_with fail)
            refine hK.out _ _ (by (try dsimp only); exact hS.out _ (by repeat (first | (with_reducible exact Below.refl _ _) | (with_reducible assumption) | (with_reducible apply bl_alloc) | (with_reducible apply bl_drew)))) (fun hHeld2 => ?_)
            clear hHeld
            rename _ => hHeld
            clear hK K
            (try simp only [Act.put, List.setIfInBounds_toArray, List.set_cons_zero, List.set_cons_succ])
            refine wpAnyH_ready (rs := [7]) (by kernel_rfl) (by simp) ?_
            refine AllReadyH.cons (i := 7) rfl (fun K hK => ?_) AllReadyH.nil
            go_simp
            go_at_call 88
            refine (HS.out _).mono ?_
            rintro e wb ⟨rfl, hbb⟩
            have hbB := bl_step hbA hbb
            try (go_wp2_with fail)
            refine hK.out _ _ (by (try dsimp only); exact hS.out _ (by repeat (first | (with_reducible exact Below.refl _ _) | (with_reducible assumption) | (with_reducible apply bl_alloc) | (with_reducible apply bl_drew)))) (fun hHeld2 => ?_)
            clear hHeld
            rename _ => hHeld
            clear hK K
            (try simp only [Act.put, List.setIfInBounds_toArray, List.set_cons_zero, List.set_cons_succ])
            refine wpAnyH_ready (rs := [9]) (by kernel_rfl) (by simp) ?_
            refine AllReadyH.cons (i := 9) rfl (fun K hK => ?_) AllReadyH.nil
            go_simp
            go_at_call 71
            refine (ofV_any vs vb vx vy vw vh _).mono ?_
            rintro e wc ⟨rfl, hbc⟩
            have hbC := bl_step hbB hbc
            try (go_wp2_with fail)
            refine hK.out _ _ (by (try dsimp only); exact hS.out _ (by repeat (first | (with_reducible exact Below.refl _ _) | (with_reducible assumption) | (with_reducible apply bl_alloc) | (with_reducible apply bl_drew)))) (fun hHeld2 => ?_)
            clear hHeld
            rename _ => hHeld
            clear hK K
            (try simp only [Act.put, List.setIfInBounds_toArray, List.set_cons_zero, List.set_cons_succ])
            refine wpAnyH_ready (rs := [10]) (by kernel_rfl) (by simp) ?_
            refine AllReadyH.cons (i := 10) rfl (fun K hK => ?_) AllReadyH.nil
            go_simp
            go_at_call 72
            refine (HC.out _).mono ?_
            rintro e w8 ⟨rfl, hb8⟩
            have hb68 := bl_step hbC hb8
            have hs8 := Nat.le_trans hs6 hb68.size
            try (go_wp2_with fail)
            refine hK.out _ _ (by (try dsimp only); exact hS.out _ (by repeat (first | (with_reducible exact Below.refl _ _) | (with_reducible assumption) | (with_reducible apply bl_alloc) | (with_reducible apply bl_drew)))) (fun hHeld2 => ?_)
            clear hHeld
            rename _ => hHeld
            clear hK K
            (try simp only [Act.put, List.setIfInBounds_toArray, List.set_cons_zero, List.set_cons_succ])
            refine wpAnyH_ready (rs := [11]) (by kernel_rfl) (by simp) ?_
            refine AllReadyH.cons (i := 11) rfl (fun K hK => ?_) AllReadyH.nil
            go_simp
            go_at_call 70
            refine (HA.out A5 c5 w8 (hO6.out.be hb68).1).mono ?_
            rintro e w9 ⟨A9, c9, rfl, hcp9, hO9, hb9⟩
            have hb69 := bl_step hb68 hb9
            try (go_wp2_with fail)
            refine hK.out _ _ (by (try dsimp only); exact hS.out _ (by repeat (first | (with_reducible exact Below.refl _ _) | (with_reducible assumption) | (with_reducible apply bl_alloc) | (with_reducible apply bl_drew)))) (fun hHeld2 => ?_)
            clear hHeld
            rename _ => hHeld
            clear hK K
            (try simp only [Act.put, List.setIfInBounds_toArray, List.set_cons_zero, List.set_cons_succ])
            refine wpAnyH_ready (rs := [12]) (by kernel_rfl) (by simp) ?_
            refine AllReadyH.cons (i := 12) rfl (fun K hK => ?_) AllReadyH.nil
            go_simp
            refine hK.out _ _ hHeld (fun hHeld2 => ?_)
            clear hHeld2 hK K
            (try simp only [Act.put, List.setIfInBounds_toArray, List.set_cons_zero, List.set_cons_succ])
            refine wpAnyH_done (by kernel_rfl) ?_ _
            clear hHeld hS
            go_wp2_with fail
            go_roundw
            case rel => exact ⟨j + 1, hjt.out, by go_num, A9, c9, by rw [hst2.out], by rw [hst2.out]; exact hcp9, by rw [hst2.out]; exact Lib.hid (hO9.le hs8), bl_step h46 hb69⟩
            case measure => have := hjt.out; simp [intOf]; omega
          · obtain rfl : j = dd.D.length := by omega
            rw [List.take_length] at hO5 hcp5
            rw [← hst3.out] at hO5 hcp5
            go_wp2_with fail
            go_roundw
            case rel => exact ⟨k + 1, hlt.out, by go_num, A5, c5, by (rw [hst3.out, List.take_length]), hcp5, hO5, bl_step h34 hbq⟩
            case measure => have := hlt.out; simp [intOf]; omega
      · obtain rfl : k = ds.length := by omega
        rw [List.take_length] at hO hcp
        go_wp2_with fail
        go_ret
        exact ⟨A', c', by (show Ending.returned (.slice A' (flatF (S ++ (ds.take ds.length).flatMap (dOne ⟨vs, vb, vx, vy, vw, vh⟩))).length c') = _; rw [List.take_length]), hcp, hO.out, bl_step h03 hbr⟩

