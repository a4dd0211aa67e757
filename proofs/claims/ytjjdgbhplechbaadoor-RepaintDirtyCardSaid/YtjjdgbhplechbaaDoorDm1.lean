/- region.Of, region.Cover, damage.add, Flat, Add: what they make. -/
import Derived.Test.YtjjdgbhplechbaaDoorRg9
import Derived.Test.YtjjdgbhplechbaaDoorCvE
import Derived.Deep.RegionHeld3
set_option linter.unusedVariables false
set_option linter.unusedSimpArgs false
namespace Go.Proofs.YtjjdgbhplechbaaDoor.Cv
open Go.RowKit Go.Proofs.YtjjdgbhplechbaaDoor.Kit Go.Proofs.YtjjdgbhplechbaaDoor.Reg Go.Proofs.YtjjdgbhplechbaaDoor.Rect
/-- rectangles at A, in blocks from base on -/
def Out (base : Nat) (w : World) (A : Option Addr) (l : List R) : Prop := Rds w w.heap.size 4 A l.length (l.flatMap rC) ∧ ∀ ad, A = some ad → base ≤ ad.block
section
variable {w w' : World} {b b' : Nat} {A : Option Addr} {l : List R}
theorem Out.be (h : Out b w A l) (hb : Below w.heap.size w w') : Out b w' A l := ⟨(h.1.be hb).more hb.size, h.2⟩
theorem Out.le (h : Out b w A l) (hb : b' ≤ b) : Out b' w A l := ⟨h.1, fun ad e => Nat.le_trans hb (h.2 ad e)⟩
theorem Out.nil : Out b w none [] := ⟨Rds.none_, fun ad e => by cases e⟩
/-- what a call answers: rectangles in new blocks -/
def OutP (w : World) (l : List R) (e : Ending) (w' : World) : Prop := ∃ A c, e = .returned (.slice A l.length c) ∧ l.length ≤ c ∧ Out w.heap.size w' A l ∧ Below w.heap.size w w'
theorem own_cap {base : Nat} {e : TypeId} {sz n c : Nat} {xs : List Value} (h : w.ownsRow base e sz (.slice A n c) n xs) : n ≤ c := by
  rcases h.2 with ⟨e1, e2⟩ | ⟨g, cap, cur, e1, _, _, e2, _⟩
  · omega
  · injection e1 with _ _ e3; omega
theorem out_of {e : Ending} (h : Wk.RcP w l e w') : OutP w l e w' := by
  obtain ⟨v, rfl, ho, hb⟩ := h
  obtain ⟨A, c, rfl, _⟩ := own_form ho
  exact ⟨A, c, rfl, own_cap ho, ⟨Rds.own ho, fun ad e => by subst e; exact (ho.lt ad.block rfl).1⟩, hb⟩
theorem out_one {g : Nat} {r : R} (h : Bk w g 32 (rV r)) (hg : b ≤ g) : Out b w (some ⟨g, 0, none⟩) [r] := by
  refine ⟨?_, fun ad e => by injection e with e; subst e; exact hg⟩
  have := Rds.block (n := 1) (sz := 4) h rfl h.lt
  simpa [rC] using this
end
theorem chk_i64 {r : R} (h : chkR r) : I64 r := by unfold chkR at h; unfold I64; omega
theorem rg_i64 {l : List R} (h : Rg l) : ∀ r ∈ l, I64 r := fun r hr => chk_i64 (h.chk r hr)
theorem i64_ofF {r : R} (h : I64 r) : ∀ s ∈ ofF r, I64 s := fun s hs => rg_i64 (rg_of r) s hs
set_option maxRecDepth 100000 in
set_option maxHeartbeats 8000000 in
theorem of_reg_any (x y a b : Int) (w : World) (h : I64 ⟨x, y, a, b⟩) : Calls Tryd.prog 98 #[.agg #[.int .i64 x, .int .i64 y, .int .i64 a, .int .i64 b]] w (OutP w (ofF ⟨x, y, a, b⟩)) := by
  have HB := fun w => Bound_any x y a b w h
  have ho : ofF ⟨x, y, a, b⟩ = if emp (rBound ⟨x, y, a, b⟩) then [] else [rBound ⟨x, y, a, b⟩] := rfl
  obtain ⟨⟨p0, p1, p2, p3⟩, hq⟩ : ∃ q, rBound ⟨x, y, a, b⟩ = q := ⟨_, rfl⟩
  rw [hq] at HB ho
  dsimp only at HB
  obtain ⟨L, hL⟩ : ∃ L, ofF ⟨x, y, a, b⟩ = L := ⟨_, rfl⟩
  rw [hL] at ho ⊢
  have HB := Lib.hid HB
  have ho := Lib.hid ho
  clear hq h hL
  go_enter Tryd.func98, Tryd.ntmps98
  go_wp2_with fail
  all_goals
    generalize hwv : World.alloc _ _ = w1
    have B1 : Bk w1 w.heap.size 32 #[.int .i64 x, .int .i64 y, .int .i64 a, .int .i64 b] := hwv ▸ Bk.new _ _ _
    have hb1 : Below w.heap.size w w1 := hwv ▸ bl_alloc (Below.refl _ _) _
    clear hwv
    refine (HB.out w1).mono ?_
    rintro e w2 ⟨rfl, hb2⟩
    have B2 := B1.be hb2
    have h12 := bl_step hb1 hb2
    obtain ⟨c0, c1, c2, c3⟩ := B2.c4
    have cf := B2.fz
    have cl := B2.lt
    go_wp2_with fail
    generalize hwv : World.setCell _ _ _ = w3
    have B3 : Bk w3 w.heap.size 32 #[.int .i64 p0, .int .i64 p1, .int .i64 p2, .int .i64 p3] := hwv ▸ Bk.st4' B2 _ _ _ _
    have hb3 : Below w.heap.size w w3 := hwv ▸ bl_set (bl_set (bl_set (bl_set h12 (Nat.le_refl _) _) (Nat.le_refl _) _) (Nat.le_refl _) _) (Nat.le_refl _) _
    clear hwv c0 c1 c2 c3 cf cl
    refine (Empty_any p0 p1 p2 p3 w3).mono ?_
    rintro e w4 ⟨rfl, hb4⟩
    have hb14 := bl_step hb3 hb4
    have B4 := B3.be hb4
    cases he : emp ⟨p0, p1, p2, p3⟩ with
    | true =>
      have hl : L = [] := by rw [ho.out, if_pos he]
      have hl := Lib.hid hl
      clear he
      go_wp2_with fail
      go_ret
      rw [hl.out]
      exact ⟨none, 0, rfl, Nat.le_refl _, Out.nil, hb14⟩
    | false =>
      have hl : L = [⟨p0, p1, p2, p3⟩] := by rw [ho.out, if_neg (by rw [he]; decide)]
      have hl := Lib.hid hl
      clear he
      obtain ⟨c0, c1, c2, c3⟩ := B4.c4
      go_wp2_with fail
      go_ret
      rw [hl.out]
      exact ⟨_, 1, rfl, Nat.le_refl _, out_one (r := ⟨p0, p1, p2, p3⟩) (Bk.new _ _ _) hb14.size, bl_alloc hb14 _⟩
theorem sm_zR : Sm zR := by unfold Sm zR; simp only; omega
theorem sm_or {a : R} (h : a = zR ∨ chkR a) : Sm a := by
  rcases h with rfl | h
  · exact sm_zR
  · exact Sm.of_chk (chk_iff.2 h)
theorem cov_ok {l : List R} (hc : ∀ r ∈ l, chkR r) (k : Nat) : (l.take k).foldl rCover zR = zR ∨ chkR ((l.take k).foldl rCover zR) := by
  cases hk : l.take k with
  | nil => exact .inl rfl
  | cons a t => exact .inr (foldl_cover (a :: t) zR (fun r hr => hc r (List.mem_of_mem_take (by rw [hk]; exact hr))) (.inl rfl) (.inl (by simp))).1
theorem foldl_tk {α β : Type} (f : β → α → β) (b : β) (l : List α) {k : Nat} (hk : k < l.length) : (l.take (k + 1)).foldl f b = f ((l.take k).foldl f b) l[k] := by
  rw [← List.take_append_getElem hk, List.foldl_append]
  rfl
set_option maxRecDepth 100000 in
set_option maxHeartbeats 8000000 in
theorem coverL_any (A : Option Addr) (c : Nat) (l : List R) (w : World) (hR : Rg l) (hn : l.length ≤ 200000) (hA : Rds w w.heap.size 4 A l.length (l.flatMap rC)) :
    Calls Tryd.prog 99 #[.slice A l.length c] w fun e w' => e = .returned (.agg (rV (coverF l))) ∧ Below w.heap.size w w' := by
  have hchk := Lib.hid hR.chk
  have hsome : (bandsF l).isSome = true := hR
  have hcov : coverF l = l.foldl rCover zR := by unfold coverF; rw [if_pos hsome]
  have hcov := Lib.hid hcov
  have hsome := Lib.hid hsome
  have h64 := Lib.hid (rg_i64 hR)
  clear hR
  go_enter Tryd.func99, Tryd.ntmps99
  go_wp2_with fail
  generalize hwv : World.alloc _ _ = w1
  have B1 : Bk w1 w.heap.size 32 #[.int .i64 0, .int .i64 0, .int .i64 0, .int .i64 0] := hwv ▸ (Bk.new _ _ _).al _
  have B1' : Bk w1 (w.heap.size + 1) 32 #[.int .i64 0, .int .i64 0, .int .i64 0, .int .i64 0] := hwv ▸ Bk.new' _ _ _ (by simp)
  have hb1 : Below w.heap.size w w1 := hwv ▸ bl_alloc (bl_alloc (Below.refl _ _) _) _
  clear hwv
  refine (Wk.RCheck_any A c l w1 (by omega) h64.out ((hA.be hb1).more hb1.size)).mono ?_
  rintro e w2 ⟨rfl, hb2⟩
  rw [hsome.out]
  have B2 := B1.be hb2
  have B2' := B1'.be hb2
  have h12 := bl_step hb1 hb2
  go_wp2_with fail
  go_loopw [5, 10] (fun _ s10 wr => ∃ k : Nat, k ≤ l.length ∧ s10 = .int .i64 (k : Int) ∧ Bk wr w.heap.size 32 #[.int .i64 0, .int .i64 0, .int .i64 0, .int .i64 0] ∧ Bk wr (w.heap.size + 1) 32 (rV ((l.take k).foldl rCover zR)) ∧ Below w.heap.size w wr) (fun _ s10 _ => l.length - (intOf s10).toNat)
  case atStart => exact ⟨0, by omega, rfl, B2, B2', h12⟩
  case round =>
    obtain ⟨k, hk, rfl, Ba, Bb, hbr⟩ := hrel
    by_cases hlt : k < l.length
    · obtain ⟨ad, rfl, hbl, c0, c1, c2, c3⟩ := Rds.rc (hA.be hbr) hlt
      have hac := cov_ok hchk.out k
      have hst := foldl_tk rCover zR l hlt
      have hlc := hchk.out l[k] (List.getElem_mem hlt)
      have i0 : (0 : Int) ≤ (k : Int) := by omega
      have i1 : (k : Int) < (l.length : Int) := by omega
      have hlt := Lib.hid hlt
      generalize hs : l[k] = s at *
      obtain ⟨s0, s1, s2, s3⟩ := s
      dsimp only at c0 c1 c2 c3
      obtain ⟨⟨a0, a1, a2, a3⟩, hq⟩ : ∃ q, (l.take k).foldl rCover zR = q := ⟨_, rfl⟩
      rw [hq] at hac hst Bb
      have Bb : Bk wr (w.heap.size + 1) 32 #[.int .i64 a0, .int .i64 a1, .int .i64 a2, .int .i64 a3] := Bb
      have HC := fun w => Cover_any a0 a1 a2 a3 s0 s1 s2 s3 w (fun _ => sm_or hac) (fun _ => sm_or (.inr hlc))
      obtain ⟨⟨p0, p1, p2, p3⟩, hp⟩ : ∃ q, rCover ⟨a0, a1, a2, a3⟩ ⟨s0, s1, s2, s3⟩ = q := ⟨_, rfl⟩
      rw [hp] at HC hst
      dsimp only at HC
      have HC := Lib.hid HC
      have hst := Lib.hid hst
      clear hp hq hs hlc hac
      obtain ⟨b0, b1, b2, b3⟩ := Bb.c4
      have hg1 := Bb.lt
      have hg2 : ¬ (w.heap.size + 1 = wr.heap.size) := by omega
      have hg3 : ¬ (wr.heap.size = w.heap.size + 1) := by omega
      go_wp2_with fail
      generalize hwv : World.alloc _ _ = w3
      have Bb3 : Bk w3 (w.heap.size + 1) 32 #[.int .i64 a0, .int .i64 a1, .int .i64 a2, .int .i64 a3] := hwv ▸ Bb.al _
      have Ba3 : Bk w3 w.heap.size 32 #[.int .i64 0, .int .i64 0, .int .i64 0, .int .i64 0] := hwv ▸ Ba.al _
      have hb3 : Below w.heap.size w w3 := hwv ▸ bl_alloc hbr _
      clear hwv b0 b1 b2 b3
      refine (HC.out w3).mono ?_
      rintro e w4 ⟨rfl, hb4⟩
      have Bb4 := Bb3.be hb4
      have Ba4 := Ba3.be hb4
      have h04 := bl_step hb3 hb4
      obtain ⟨b0, b1, b2, b3⟩ := Bb4.c4
      have bf := Bb4.fz
      have bl := Bb4.lt
      go_wp2_with fail
      go_roundw
      case rel =>
        refine ⟨k + 1, hlt.out, by go_num, Ba4.ot4 (by omega) _ _ _ _, ?_, bl_set (bl_set (bl_set (bl_set h04 (by simp) _) (by simp) _) (by simp) _) (by simp) _⟩
        rw [hst.out]
        exact Bk.st4' Bb4 _ _ _ _
      case measure => have := hlt.out; simp [intOf]; omega
    · obtain rfl : k = l.length := by omega
      rw [List.take_length, ← hcov.out] at Bb
      obtain ⟨⟨a0, a1, a2, a3⟩, hq⟩ : ∃ q, coverF l = q := ⟨_, rfl⟩
      rw [hq] at Bb
      have Bb : Bk wr (w.heap.size + 1) 32 #[.int .i64 a0, .int .i64 a1, .int .i64 a2, .int .i64 a3] := Bb
      have hq := Lib.hid hq
      clear hcov
      obtain ⟨b0, b1, b2, b3⟩ := Bb.c4
      obtain ⟨z0, z1, z2, z3⟩ := Ba.c4
      have zf := Ba.fz
      have zl := Ba.lt
      go_wp2_with fail
      have hI : (Tryd.prog.info? 32).map (·.size) = some (#[.int .i64 a0, .int .i64 a1, .int .i64 a2, .int .i64 a3] : Array Value).size := by kernel_rfl
      refine post_cell w.heap.size 32 #[.int .i64 a0, .int .i64 a1, .int .i64 a2, .int .i64 a3] Tryd.results99 Tryd.underlying32 rfl hI rfl ?bk rfl ⟨by rw [hq.out], ?_⟩
      case bk => exact Bk.st4' Ba _ _ _ _
      exact bl_set (bl_set (bl_set (bl_set hbr (Nat.le_refl _) _) (Nat.le_refl _) _) (Nat.le_refl _) _) (Nat.le_refl _) _
end Go.Proofs.YtjjdgbhplechbaaDoor.Cv
