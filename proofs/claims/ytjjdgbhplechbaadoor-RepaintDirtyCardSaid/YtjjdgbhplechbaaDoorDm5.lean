/- repaint.Changed: what it makes. Printed by gen_chg.py. -/
import Derived.Test.YtjjdgbhplechbaaDoorDm4
set_option linter.unusedVariables false
set_option linter.unusedSimpArgs false
namespace Go.Proofs.YtjjdgbhplechbaaDoor.Cv
open Go.RowKit Go.Proofs.YtjjdgbhplechbaaDoor.Kit Go.Proofs.YtjjdgbhplechbaaDoor.Reg Go.Proofs.YtjjdgbhplechbaaDoor.Rect
attribute [local go_sem high] vEq bmax2 bmax_2 cut33
/-- what has changed at one place -/
def stepV (old l : List Vw) (ds : List Dt) (i : Nat) : List R :=
  if (decide (i < old.length) && (decide (i < l.length) && eqV (atV old i) (atV l i))) = true then dList (atV old i) ds
  else (if decide (i < old.length) = true then [rvV (atV old i)] else []) ++ (if decide (i < l.length) = true then [rvV (atV l i)] else [])
def seqV (old l : List Vw) (ds : List Dt) (k : Nat) : List R := (List.range k).flatMap (stepV old l ds)
theorem seqV_succ (old l : List Vw) (ds : List Dt) (k : Nat) : seqV old l ds (k + 1) = seqV old l ds k ++ stepV old l ds k := by
  unfold seqV
  rw [List.range_succ, List.flatMap_append]; simp
def chgV (old l : List Vw) (ds : List Dt) : List R := flatF (seqV old l ds (max old.length l.length))
set_option maxRecDepth 100000 in
set_option maxHeartbeats 32000000 in
theorem changed_any (A : Option Addr) (ca : Nat) (old : List Vw) (B : Option Addr) (cb : Nat) (l : List Vw) (C : Option Addr) (cd : Nat) (ds : List Dt) (w : World) (ho : ∀ v ∈ old, NearV v) (hn : ∀ v ∈ l, NearV v)
    (hA : Rds w w.heap.size 6 A old.length (old.flatMap vwC)) (hB : Rds w w.heap.size 6 B l.length (l.flatMap vwC)) (hC : Rds w w.heap.size 2 C ds.length (ds.flatMap dtC)) (hd : ∀ d ∈ ds, DtOk w w.heap.size d) (n1 : old.length ≤ 1000000) (n2 : l.length ≤ 1000000) (n3 : ds.length ≤ 1000000) :
    Calls Tryd.prog 46 #[.slice A old.length ca, .slice B l.length cb, .slice C ds.length cd] w (OutP w (chgV old l ds)) := by
  have hoA := Lib.hid (fun i => near_at ho i)
  have hnA := Lib.hid (fun i => near_at hn i)
  have hd := Lib.hid hd
  have hres : chgV old l ds = flatF (seqV old l ds (max old.length l.length)) := rfl
  obtain ⟨N, hN⟩ : ∃ N, max old.length l.length = N := ⟨_, rfl⟩
  rw [hN] at hres
  have hmx : mxI (old.length : Int) (l.length : Int) = (N : Int) := by rw [mxI_max, ← hN]; omega
  have hNl : N ≤ 1000000 := by omega
  have hNk : ∀ k, k < N → k < old.length ∨ k < l.length := fun k hk => by omega
  have hNk := Lib.hid hNk
  obtain ⟨RS, hRS⟩ : ∃ RS, chgV old l ds = RS := ⟨_, rfl⟩
  rw [hRS] at hres ⊢
  have hres := Lib.hid hres
  clear hRS hN ho hn
  go_enter Tryd.func46, Tryd.ntmps46
  go_wp2_with fail
  go_loopw [7, 8, 9, 10, 11, 12, 18] (fun s7 _ _ _ _ _ s18 wr => ∃ k : Nat, k ≤ N ∧ s18 = .int .i64 (k : Int) ∧ ∃ A' c', s7 = .slice A' (flatF (seqV old l ds k)).length c' ∧ (flatF (seqV old l ds k)).length ≤ c' ∧ Hid (Out w.heap.size wr A' (flatF (seqV old l ds k))) ∧ Below w.heap.size w wr) (fun _ _ _ _ _ _ s18 _ => N - (intOf s18).toNat)
  case atStart => exact ⟨0, by omega, rfl, none, 0, rfl, Nat.le_refl _, Lib.hid Out.nil, Below.refl _ _⟩
  case round =>
    obtain ⟨k, hk, rfl, A', c', rfl, hcp, hO, hbr⟩ := hrel
    obtain ⟨wo, rfl⟩ : ∃ x : World, x = wr := ⟨_, rfl⟩
    by_cases hlt : k < N
    · have dk : decide ((k : Int) < (N : Int)) = true := by simp; omega
      have hsq := Lib.hid (seqV_succ old l ds k)
      have hst : stepV old l ds k = stepV old l ds k := rfl
      conv at hst => rhs; unfold stepV
      have hA0 := (hA.be hbr).more hbr.size
      have hB0 := (hB.be hbr).more hbr.size
      have g1 : IntKind.i64.wrap ((k : Int) + 1) = (k : Int) + 1 := i64_in (by omega) (by omega)
      obtain ⟨Sk, hSk⟩ : ∃ Sk, seqV old l ds k = Sk := ⟨_, rfl⟩
      have hsq2 := hsq.out
      rw [hSk] at hO hcp hsq2 ⊢
      have hva := hoA.out k
      have hvb := hnA.out k
      have hea := atV_any A ca old k wo n1 (by omega) hA0
      have hk1 := hNk.out k hlt
      obtain ⟨va, hva2⟩ : ∃ v, atV old k = v := ⟨_, rfl⟩
      obtain ⟨vb, hvb2⟩ : ∃ v, atV l k = v := ⟨_, rfl⟩
      have heb := fun w h => atV_any B cb l k w n2 (by omega) h
      rw [hva2] at hva hea hst
      rw [hvb2] at hvb hst heb
      obtain ⟨b1, hb1⟩ : ∃ b, decide (k < old.length) = b := ⟨_, rfl⟩
      obtain ⟨b2, hb2⟩ : ∃ b, decide (k < l.length) = b := ⟨_, rfl⟩
      rw [hb1] at hea hst
      rw [hb2] at heb hst
      have hor : b1 = true ∨ b2 = true := by
        rcases hk1 with h | h
        · exact .inl (by rw [← hb1, decide_eq_true h])
        · exact .inr (by rw [← hb2, decide_eq_true h])
      have hea := Lib.hid hea
      have heb := Lib.hid heb
      have hlt := Lib.hid hlt
      clear hva2 hvb2 hb1 hb2 hk1 hsq hSk
      obtain ⟨i1, i2, i3, i4, i5, i6⟩ := va
      obtain ⟨j1, j2, j3, j4, j5, j6⟩ := vb
      have HAd := Lib.hid (fun A c S (q0 q1 q2 q3 : Int) w (hl : Rds w w.heap.size 4 A (flatF S).length ((flatF S).flatMap rC)) (h : I64 ⟨q0, q1, q2, q3⟩) => damAdd_any A c (flatF S) q0 q1 q2 q3 w hl (rg_i64 (rg_flat S)) (by have := len_flat S; omega) h)
      have hva := Lib.hid hva
      have hvb := Lib.hid hvb
      go_wp2_with fail
      refine hea.out.mono ?_
      rintro e w1 ⟨rfl, hq1⟩
      go_wp2_with fail
      generalize hwv : World.alloc _ _ = w2
      have Ba : Bk w2 w1.heap.size 60 #[.int .i64 i1, .int .i64 i2, .int .i64 i3, .int .i64 i4, .int .i64 i5, .int .i64 i6] := hwv ▸ Bk.new _ _ _
      have h12 : Below w1.heap.size w1 w2 := hwv ▸ bl_alloc (Below.refl _ _) _
      have h02 := bl_step hq1 h12
      obtain ⟨ga, hga⟩ : ∃ ga, w1.heap.size = ga := ⟨_, rfl⟩
      rw [hga] at Ba ⊢
      clear hwv hga h12
      refine (heb.out w2 ((hB0.be h02).more h02.size)).mono ?_
      rintro e w3 ⟨rfl, hq3⟩
      have h03 := bl_step h02 hq3
      have Ba3 := Ba.be hq3
      obtain ⟨y0, y1, y2, y3, y4, y5⟩ := Bk.c6 Ba3
      have hgal := Ba3.lt
      have hgn : ¬ (ga = w3.heap.size) := by omega
      have hgn' : ¬ (w3.heap.size = ga) := by omega
      obtain ⟨gb, hgb⟩ : ∃ gb, w3.heap.size = gb := ⟨_, rfl⟩
      obtain ⟨w4, hw4⟩ : ∃ w4, w3.alloc (.cells #[.int .i64 j1, .int .i64 j2, .int .i64 j3, .int .i64 j4, .int .i64 j5, .int .i64 j6] 60) = w4 := ⟨_, rfl⟩
      have Bb4 : Bk w4 gb 60 #[.int .i64 j1, .int .i64 j2, .int .i64 j3, .int .i64 j4, .int .i64 j5, .int .i64 j6] := hw4 ▸ hgb ▸ Bk.new _ _ _
      have h34 : Below w3.heap.size w3 w4 := hw4 ▸ bl_alloc (Below.refl _ _) _
      have Ba4 := Ba3.be h34
      have h04 := bl_step h03 h34
      have h4 := bl_step hbr h04
      have hO4 := Lib.hid (hO.out.be h04)
      have hC4 := (hC.be h4).more h4.size
      have hd4 := Lib.hid (fun d hm => (DtOk.mk (((hd.out d hm).r.be h4).more h4.size) (hd.out d hm).i (hd.out d hm).n : DtOk w4 w4.heap.size d))
      have h4s := h4.size
      obtain ⟨x0, x1, x2, x3, x4, x5⟩ := Bk.c6 Ba4
      obtain ⟨z0, z1, z2, z3, z4, z5⟩ := Bk.c6 Bb4
      cases b1 with
      | false =>
        obtain rfl : b2 = true := hor.resolve_left (by decide)
        have hnx : seqV old l ds (k + 1) = Sk ++ [⟨j3, j4, j5, j6⟩] := by rw [hsq2, hst]; rfl
        have hnx := Lib.hid hnx
        clear hsq2 hst
        go_wp2_with fail
        have hHA4 := fun w hl => HAd.out A' c' (Sk) j3 j4 j5 j6 w hl (near_64 hvb.out)
        rw [flat_snoc] at hHA4
        have hHA4 := Lib.hid hHA4
        refine (ofV_any j1 j2 j3 j4 j5 j6 w4).mono ?_
        rintro e wf4 ⟨rfl, hf4⟩
        have hO4' := hO4.out.be hf4
        go_wp2_with fail
        refine (hHA4.out wf4 hO4'.1).mono ?_
        rintro e wg4 ⟨Ag4, cg4, rfl, hcg4, hOg4, hg4⟩
        have hfg4 := bl_step hf4 hg4
        go_wp2_with fail
        go_roundw
        case rel => exact ⟨k + 1, hlt.out, by go_num, Ag4, cg4, by (first | (rw [hnx.out]; done) | (rw [hnx.out, List.append_assoc]; rfl)), by rw [hnx.out]; exact hcg4, by rw [hnx.out]; exact Lib.hid (hOg4.le (by have := hf4.size; omega)), bl_step h4 hfg4⟩
        case measure => have := hlt.out; simp [intOf]; omega
      | true =>
        cases b2 with
        | false =>
          have hnx : seqV old l ds (k + 1) = Sk ++ [⟨i3, i4, i5, i6⟩] := by rw [hsq2, hst]; rfl
          have hnx := Lib.hid hnx
          clear hsq2 hst
          go_wp2_with fail
          have hHA4 := fun w hl => HAd.out A' c' (Sk) i3 i4 i5 i6 w hl (near_64 hva.out)
          rw [flat_snoc] at hHA4
          have hHA4 := Lib.hid hHA4
          refine (ofV_any i1 i2 i3 i4 i5 i6 w4).mono ?_
          rintro e wf4 ⟨rfl, hf4⟩
          have hO4' := hO4.out.be hf4
          go_wp2_with fail
          refine (hHA4.out wf4 hO4'.1).mono ?_
          rintro e wg4 ⟨Ag4, cg4, rfl, hcg4, hOg4, hg4⟩
          have hfg4 := bl_step hf4 hg4
          go_wp2_with fail
          go_roundw
          case rel => exact ⟨k + 1, hlt.out, by go_num, Ag4, cg4, by (first | (rw [hnx.out]; done) | (rw [hnx.out, List.append_assoc]; rfl)), by rw [hnx.out]; exact hcg4, by rw [hnx.out]; exact Lib.hid (hOg4.le (by have := hf4.size; omega)), bl_step h4 hfg4⟩
          case measure => have := hlt.out; simp [intOf]; omega
        | true =>
          cases heq : eqV ⟨i1, i2, i3, i4, i5, i6⟩ ⟨j1, j2, j3, j4, j5, j6⟩ with
          | true =>
            have hnx : seqV old l ds (k + 1) = Sk ++ dList ⟨i1, i2, i3, i4, i5, i6⟩ ds := by rw [hsq2, hst, heq]; rfl
            have hnx := Lib.hid hnx
            have heq' := heq
            clear hsq2 hst
            go_wp2_with fail
            refine (dirt_any w.heap.size A' c' Sk ⟨i1, i2, i3, i4, i5, i6⟩ C cd ds w4 hva.out hcp hO4.out h4s hC4 hd4.out n3).mono ?_
            rintro e w5 ⟨A5, c5, rfl, hcp5, hO5, hb5⟩
            go_wp2_with fail
            go_roundw
            case rel => exact ⟨k + 1, hlt.out, by go_num, A5, c5, by (first | (rw [hnx.out]; done) | (rw [hnx.out, List.append_assoc]; rfl)), by rw [hnx.out]; exact hcp5, by rw [hnx.out]; exact Lib.hid (hO5), bl_step h4 hb5⟩
            case measure => have := hlt.out; simp [intOf]; omega
          | false =>
            have hnx : seqV old l ds (k + 1) = (Sk ++ [⟨i3, i4, i5, i6⟩]) ++ [⟨j3, j4, j5, j6⟩] := by rw [hsq2, hst, heq, List.append_assoc]; rfl
            have hnx := Lib.hid hnx
            clear hsq2 hst
            go_wp2_with fail
            have hHA4 := fun w hl => HAd.out A' c' (Sk) i3 i4 i5 i6 w hl (near_64 hva.out)
            rw [flat_snoc] at hHA4
            have hHA4 := Lib.hid hHA4
            refine (ofV_any i1 i2 i3 i4 i5 i6 w4).mono ?_
            rintro e wf4 ⟨rfl, hf4⟩
            have hO4' := hO4.out.be hf4
            go_wp2_with fail
            refine (hHA4.out wf4 hO4'.1).mono ?_
            rintro e wg4 ⟨Ag4, cg4, rfl, hcg4, hOg4, hg4⟩
            have hfg4 := bl_step hf4 hg4
            have hO5 := Lib.hid hOg4
            have Bb5 := Bb4.be hfg4
            obtain ⟨z0, z1, z2, z3, z4, z5⟩ := Bk.c6 Bb5
            go_wp2_with fail
            have hHA5 := fun w hl => HAd.out Ag4 cg4 (Sk ++ [⟨i3, i4, i5, i6⟩]) j3 j4 j5 j6 w hl (near_64 hvb.out)
            rw [flat_snoc] at hHA5
            have hHA5 := Lib.hid hHA5
            refine (ofV_any j1 j2 j3 j4 j5 j6 wg4).mono ?_
            rintro e wf5 ⟨rfl, hf5⟩
            have hO5' := hO5.out.be hf5
            go_wp2_with fail
            refine (hHA5.out wf5 hO5'.1).mono ?_
            rintro e wg5 ⟨Ag5, cg5, rfl, hcg5, hOg5, hg5⟩
            have hfg5 := bl_step hf5 hg5
            go_wp2_with fail
            go_roundw
            case rel => exact ⟨k + 1, hlt.out, by go_num, Ag5, cg5, by (first | (rw [hnx.out]; done) | (rw [hnx.out, List.append_assoc]; rfl)), by rw [hnx.out]; exact hcg5, by rw [hnx.out]; exact Lib.hid (hOg5.le (by have := hf4.size; have := hfg4.size; have := hf5.size; omega)), bl_step (bl_step h4 hfg4) hfg5⟩
            case measure => have := hlt.out; simp [intOf]; omega
    · obtain rfl : k = N := by omega
      have dk : decide ((k : Int) < (k : Int)) = false := by simp
      go_wp2_with fail
      go_ret
      exact ⟨A', (flatF (seqV old l ds k)).length, by rw [hres.out]; rfl, by rw [hres.out]; exact Nat.le_refl _, by rw [hres.out]; exact hO.out, hbr⟩
end Go.Proofs.YtjjdgbhplechbaaDoor.Cv
