/- tableauref08.Check says yes to a region. -/
import Derived.Test.YtjjdgbhplechbaaGreatDoorDm6
import Derived.Test.YtjjdgbhplechbaaGreatDoorRfA
import Derived.Test.YtjjdgbhplechbaaGreatDoorCvRd
set_option linter.unusedVariables false
set_option linter.unusedSimpArgs false
namespace Go.Proofs.YtjjdgbhplechbaaGreatDoor.Cv
open Go.RowKit Go.Proofs.YtjjdgbhplechbaaGreatDoor.Kit Go.Proofs.YtjjdgbhplechbaaGreatDoor.Reg Go.Proofs.YtjjdgbhplechbaaGreatDoor.Rect
attribute [local go_sem high] rEq
set_option maxHeartbeats 8000000 in
theorem same_rects (A B : Option Addr) (c d : Nat) (L : List R) (w : World) (hn : L.length ≤ 1000000) (hA : Rds w w.heap.size 4 A L.length (L.flatMap rC)) (hB : Rds w w.heap.size 4 B L.length (L.flatMap rC)) :
    Calls Tryz.prog 35 #[.slice A L.length c, .slice B L.length d] w fun e w' => e = .returned (.bool true) ∧ Below w.heap.size w w' := by
  go_enter Tryz.func35, Tryz.ntmps35
  go_wp2_with fail
  go_loopw [5] (fun i wr => ∃ k : Nat, k ≤ L.length ∧ i = .int .i64 (k : Int) ∧ Below w.heap.size w wr) (fun i _ => L.length - (intOf i).toNat)
  case atStart => exact ⟨0, by omega, rfl, Below.refl _ _⟩
  case round =>
    obtain ⟨k, hk, rfl, hbr⟩ := hrel
    by_cases hlt : k < L.length
    · obtain ⟨a1, rfl, hb1, c0, c1, c2, c3⟩ := Rds.rc (hA.be hbr) hlt
      obtain ⟨a2, rfl, hb2, d0, d1, d2, d3⟩ := Rds.rc (hB.be hbr) hlt
      have i0 : (0 : Int) ≤ (k : Int) := by omega
      have i1 : (k : Int) < (L.length : Int) := by omega
      have hd : decide ((k : Int) < (L.length : Int)) = true := by simp; omega
      generalize hs : L[k] = s at *
      obtain ⟨s0, s1, s2, s3⟩ := s
      dsimp only at c0 c1 c2 c3 d0 d1 d2 d3
      have he : eqR ⟨s0, s1, s2, s3⟩ ⟨s0, s1, s2, s3⟩ = true := eqR_refl _
      clear hs
      go_wp2_with fail
      go_quiet (fail)
      go_wp2_with fail
      go_roundw
      case rel => exact ⟨k + 1, by omega, by go_num, bl_drewN hbr _⟩
      case measure => simp [intOf]; omega
    · obtain rfl : k = L.length := by omega
      have hd : decide ((L.length : Int) < (L.length : Int)) = false := by simp
      go_wp2_with fail
      go_ret
      exact ⟨rfl, hbr⟩
theorem rg_make {l : List R} (h : Rg l) : makeR (Wk.opN 0) l [] = l := by
  have h1 : chkF l = true := (chk_bands l).trans h
  unfold chkF at h1
  rw [Bool.and_eq_true, decide_eq_true_eq] at h1
  exact h1.2.symm
set_option maxHeartbeats 8000000 in
theorem check8_any (A : Option Addr) (c : Nat) (l : List R) (w : World) (hR : Rg l) (hn : l.length ≤ 10000) (hA : Rds w w.heap.size 4 A l.length (l.flatMap rC)) :
    Calls Tryz.prog 20 #[.slice A l.length c] w fun e w' => e = .returned (.bool true) ∧ Below w.heap.size w w' := by
  have hck := Lib.hid hR.chk
  have hmk := Lib.hid (fun w hA => Wk.rfMake1_any A none c 0 l [] 0 w hn (by simp) hR.chk (by simp) hA Rds.none_)
  have hrg := Lib.hid (rg_make hR)
  clear hR
  go_enter Tryz.func20, Tryz.ntmps20
  go_wp2_with fail
  go_loopw [3] (fun i wr => ∃ k : Nat, k ≤ l.length ∧ i = .int .i64 (k : Int) ∧ Below w.heap.size w wr) (fun i _ => l.length - (intOf i).toNat)
  case atStart => exact ⟨0, by omega, rfl, Below.refl _ _⟩
  case round =>
    obtain ⟨k, hk, rfl, hbr⟩ := hrel
    by_cases hlt : k < l.length
    · obtain ⟨a1, rfl, hb1, c0, c1, c2, c3⟩ := Rds.rc (hA.be hbr) hlt
      have i0 : (0 : Int) ≤ (k : Int) := by omega
      have i1 : (k : Int) < (l.length : Int) := by omega
      have hd : decide ((k : Int) < (l.length : Int)) = true := by simp; omega
      have hc := hck.out l[k] (List.getElem_mem hlt)
      generalize hs : l[k] = s at *
      obtain ⟨s0, s1, s2, s3⟩ := s
      dsimp only at c0 c1 c2 c3
      have hcall := Lib.hid (fun w => rCheck_any s0 s1 s2 s3 w (chk_i64 hc))
      have hct := chk_iff.2 hc
      have hct := Lib.hid hct
      have hlt := Lib.hid hlt
      clear hs hc
      go_wp2_with fail
      refine (hcall.out wr).mono ?_
      rintro e w1 ⟨rfl, hb⟩
      rw [hct.out]
      have hb' := bl_step hbr hb
      go_wp2_with fail
      go_roundw
      case rel => exact ⟨k + 1, hlt.out, by go_num, hb'⟩
      case measure => have := hlt.out; simp [intOf]; omega
    · obtain rfl : k = l.length := by omega
      have hd : decide ((l.length : Int) < (l.length : Int)) = false := by simp
      go_wp2_with fail
      refine (hmk.out wr ((hA.be hbr).more hbr.size)).mono ?_
      rintro e w1 hRc
      obtain ⟨A1, c1, rfl, hcp, hO, hb⟩ := out_of hRc
      rw [hrg.out] at hO ⊢
      have hb' := bl_step hbr hb
      clear hRc hcp
      go_wp2_with fail
      refine (same_rects A A1 c c1 l w1 (by omega) ((hA.be hb').more hb'.size) hO.1).mono ?_
      rintro e w2 ⟨rfl, hb2⟩
      go_wp2_with fail
      go_ret
      exact ⟨rfl, bl_step hb' hb2⟩
end Go.Proofs.YtjjdgbhplechbaaGreatDoor.Cv
