/- Texts of this claim, one behind the other: each begins with its own remark. -/
import Derived.Test.YtjjdgbhplechbaaGreatDoorRg9
import Derived.Test.YtjjdgbhplechbaaGreatDoorCvE
import Derived.Deep.RegionHeld3
import Derived.Test.YtjjdgbhplechbaaGreatDoorRfP
/- region.Of, region.Cover, damage.add, Flat, Add: what they make. -/
set_option linter.unusedVariables false
set_option linter.unusedSimpArgs false
namespace Go.Proofs.YtjjdgbhplechbaaGreatDoor.Cv
open Go.RowKit Go.Proofs.YtjjdgbhplechbaaGreatDoor.Kit Go.Proofs.YtjjdgbhplechbaaGreatDoor.Reg Go.Proofs.YtjjdgbhplechbaaGreatDoor.Rect
/-- rectangles at A, in blocks from base on -/
def Out (base : Nat) (w : World) (A : Option Addr) (l : List R) : Prop := Rds w w.heap.size 4 A l.length (l.flatMap rC) ∧ ∀ ad, A = some ad → base ≤ ad.block
section
variable {w w' : World} {b b' : Nat} {A : Option Addr} {l : List R}
theorem Out.be (h : Out b w A l) (hb : Below w.heap.size w w') : Out b w' A l := ⟨(h.1.be hb).more hb.size, h.2⟩
theorem Out.le (h : Out b w A l) (hb : b' ≤ b) : Out b' w A l := ⟨h.1, fun ad e => Nat.le_trans hb (h.2 ad e)⟩
theorem Out.nil : Out b w none [] := ⟨Rds.none_, fun ad e => by cases e⟩
/-- what a call answers: rectangles in new blocks -/
def OutP (w : World) (l : List R) (e : Ending) (w' : World) : Prop := ∃ A c, e = .returned (.slice A l.length c) ∧ l.length ≤ c ∧ Out w.heap.size w' A l ∧ Below w.heap.size w w'
theorem own_cap {base : Nat} {e : TypeId} {sz n c : Nat} {xs : List Value} (h : w.ownsRow base e sz (.slice A n c) n xs) : n ≤ c := by
  rcases h.2 with ⟨e1, e2⟩ | ⟨g, cap, cur, e1, _, _, e2, _⟩
  · omega
  · injection e1 with _ _ e3; omega
theorem out_of {e : Ending} (h : Wk.RcP w l e w') : OutP w l e w' := by
  obtain ⟨v, rfl, ho, hb⟩ := h
  obtain ⟨A, c, rfl, _⟩ := own_form ho
  exact ⟨A, c, rfl, own_cap ho, ⟨Rds.own ho, fun ad e => by subst e; exact (ho.lt ad.block rfl).1⟩, hb⟩
theorem out_one {g : Nat} {r : R} (h : Bk w g 64 (rV r)) (hg : b ≤ g) : Out b w (some ⟨g, 0, none⟩) [r] := by
  refine ⟨?_, fun ad e => by injection e with e; subst e; exact hg⟩
  have := Rds.block (n := 1) (sz := 4) h rfl h.lt
  simpa [rC] using this
end
theorem chk_i64 {r : R} (h : chkR r) : I64 r := by unfold chkR at h; unfold I64; omega
theorem rg_i64 {l : List R} (h : Rg l) : ∀ r ∈ l, I64 r := fun r hr => chk_i64 (h.chk r hr)
theorem i64_ofF {r : R} (h : I64 r) : ∀ s ∈ ofF r, I64 s := fun s hs => rg_i64 (rg_of r) s hs
set_option maxRecDepth 100000 in
set_option maxHeartbeats 8000000 in
theorem of_reg_any (x y a b : Int) (w : World) (h : I64 ⟨x, y, a, b⟩) : Calls Tryz.prog 73 #[.agg #[.int .i64 x, .int .i64 y, .int .i64 a, .int .i64 b]] w (OutP w (ofF ⟨x, y, a, b⟩)) := by
  have HB := fun w => Bound_any x y a b w h
  have ho : ofF ⟨x, y, a, b⟩ = if emp (rBound ⟨x, y, a, b⟩) then [] else [rBound ⟨x, y, a, b⟩] := rfl
  obtain ⟨⟨p0, p1, p2, p3⟩, hq⟩ : ∃ q, rBound ⟨x, y, a, b⟩ = q := ⟨_, rfl⟩
  rw [hq] at HB ho
  dsimp only at HB
  obtain ⟨L, hL⟩ : ∃ L, ofF ⟨x, y, a, b⟩ = L := ⟨_, rfl⟩
  rw [hL] at ho ⊢
  have HB := Lib.hid HB
  have ho := Lib.hid ho
  clear hq h hL
  go_enter Tryz.func73, Tryz.ntmps73
  go_wp2_with fail
  all_goals
    generalize hwv : World.alloc _ _ = w1
    have B1 : Bk w1 w.heap.size 64 #[.int .i64 x, .int .i64 y, .int .i64 a, .int .i64 b] := hwv ▸ Bk.new _ _ _
    have hb1 : Below w.heap.size w w1 := hwv ▸ bl_alloc (Below.refl _ _) _
    clear hwv
    refine (HB.out w1).mono ?_
    rintro e w2 ⟨rfl, hb2⟩
    have B2 := B1.be hb2
    have h12 := bl_step hb1 hb2
    obtain ⟨c0, c1, c2, c3⟩ := B2.c4
    have cf := B2.fz
    have cl := B2.lt
    go_wp2_with fail
    generalize hwv : World.setCell _ _ _ = w3
    have B3 : Bk w3 w.heap.size 64 #[.int .i64 p0, .int .i64 p1, .int .i64 p2, .int .i64 p3] := hwv ▸ Bk.st4' B2 _ _ _ _
    have hb3 : Below w.heap.size w w3 := hwv ▸ bl_set (bl_set (bl_set (bl_set h12 (Nat.le_refl _) _) (Nat.le_refl _) _) (Nat.le_refl _) _) (Nat.le_refl _) _
    clear hwv c0 c1 c2 c3 cf cl
    refine (Empty_any p0 p1 p2 p3 w3).mono ?_
    rintro e w4 ⟨rfl, hb4⟩
    have hb14 := bl_step hb3 hb4
    have B4 := B3.be hb4
    cases he : emp ⟨p0, p1, p2, p3⟩ with
    | true =>
      have hl : L = [] := by rw [ho.out, if_pos he]
      have hl := Lib.hid hl
      clear he
      go_wp2_with fail
      go_ret
      rw [hl.out]
      exact ⟨none, 0, rfl, Nat.le_refl _, Out.nil, hb14⟩
    | false =>
      have hl : L = [⟨p0, p1, p2, p3⟩] := by rw [ho.out, if_neg (by rw [he]; decide)]
      have hl := Lib.hid hl
      clear he
      obtain ⟨c0, c1, c2, c3⟩ := B4.c4
      go_wp2_with fail
      go_ret
      rw [hl.out]
      exact ⟨_, 1, rfl, Nat.le_refl _, out_one (r := ⟨p0, p1, p2, p3⟩) (Bk.new _ _ _) hb14.size, bl_alloc hb14 _⟩
theorem sm_zR : Sm zR := by unfold Sm zR; simp only; omega
theorem sm_or {a : R} (h : a = zR ∨ chkR a) : Sm a := by
  rcases h with rfl | h
  · exact sm_zR
  · exact Sm.of_chk (chk_iff.2 h)
theorem cov_ok {l : List R} (hc : ∀ r ∈ l, chkR r) (k : Nat) : (l.take k).foldl rCover zR = zR ∨ chkR ((l.take k).foldl rCover zR) := by
  cases hk : l.take k with
  | nil => exact .inl rfl
  | cons a t => exact .inr (foldl_cover (a :: t) zR (fun r hr => hc r (List.mem_of_mem_take (by rw [hk]; exact hr))) (.inl rfl) (.inl (by simp))).1
theorem foldl_tk {α β : Type} (f : β → α → β) (b : β) (l : List α) {k : Nat} (hk : k < l.length) : (l.take (k + 1)).foldl f b = f ((l.take k).foldl f b) l[k] := by
  rw [← List.take_append_getElem hk, List.foldl_append]
  rfl
set_option maxRecDepth 100000 in
set_option maxHeartbeats 8000000 in
theorem coverL_any (A : Option Addr) (c : Nat) (l : List R) (w : World) (hR : Rg l) (hn : l.length ≤ 200000) (hA : Rds w w.heap.size 4 A l.length (l.flatMap rC)) :
    Calls Tryz.prog 74 #[.slice A l.length c] w fun e w' => e = .returned (.agg (rV (coverF l))) ∧ Below w.heap.size w w' := by
  have hchk := Lib.hid hR.chk
  have hsome : (bandsF l).isSome = true := hR
  have hcov : coverF l = l.foldl rCover zR := by unfold coverF; rw [if_pos hsome]
  have hcov := Lib.hid hcov
  have hsome := Lib.hid hsome
  have h64 := Lib.hid (rg_i64 hR)
  clear hR
  go_enter Tryz.func74, Tryz.ntmps74
  go_wp2_with fail
  generalize hwv : World.alloc _ _ = w1
  have B1 : Bk w1 w.heap.size 64 #[.int .i64 0, .int .i64 0, .int .i64 0, .int .i64 0] := hwv ▸ (Bk.new _ _ _).al _
  have B1' : Bk w1 (w.heap.size + 1) 64 #[.int .i64 0, .int .i64 0, .int .i64 0, .int .i64 0] := hwv ▸ Bk.new' _ _ _ (by simp)
  have hb1 : Below w.heap.size w w1 := hwv ▸ bl_alloc (bl_alloc (Below.refl _ _) _) _
  clear hwv
  refine (Wk.RCheck_any A c l w1 (by omega) h64.out ((hA.be hb1).more hb1.size)).mono ?_
  rintro e w2 ⟨rfl, hb2⟩
  rw [hsome.out]
  have B2 := B1.be hb2
  have B2' := B1'.be hb2
  have h12 := bl_step hb1 hb2
  go_wp2_with fail
  go_loopw [5, 10] (fun _ s10 wr => ∃ k : Nat, k ≤ l.length ∧ s10 = .int .i64 (k : Int) ∧ Bk wr w.heap.size 64 #[.int .i64 0, .int .i64 0, .int .i64 0, .int .i64 0] ∧ Bk wr (w.heap.size + 1) 64 (rV ((l.take k).foldl rCover zR)) ∧ Below w.heap.size w wr) (fun _ s10 _ => l.length - (intOf s10).toNat)
  case atStart => exact ⟨0, by omega, rfl, B2, B2', h12⟩
  case round =>
    obtain ⟨k, hk, rfl, Ba, Bb, hbr⟩ := hrel
    by_cases hlt : k < l.length
    · obtain ⟨ad, rfl, hbl, c0, c1, c2, c3⟩ := Rds.rc (hA.be hbr) hlt
      have hac := cov_ok hchk.out k
      have hst := foldl_tk rCover zR l hlt
      have hlc := hchk.out l[k] (List.getElem_mem hlt)
      have i0 : (0 : Int) ≤ (k : Int) := by omega
      have i1 : (k : Int) < (l.length : Int) := by omega
      have hlt := Lib.hid hlt
      generalize hs : l[k] = s at *
      obtain ⟨s0, s1, s2, s3⟩ := s
      dsimp only at c0 c1 c2 c3
      obtain ⟨⟨a0, a1, a2, a3⟩, hq⟩ : ∃ q, (l.take k).foldl rCover zR = q := ⟨_, rfl⟩
      rw [hq] at hac hst Bb
      have Bb : Bk wr (w.heap.size + 1) 64 #[.int .i64 a0, .int .i64 a1, .int .i64 a2, .int .i64 a3] := Bb
      have HC := fun w => Cover_any a0 a1 a2 a3 s0 s1 s2 s3 w (fun _ => sm_or hac) (fun _ => sm_or (.inr hlc))
      obtain ⟨⟨p0, p1, p2, p3⟩, hp⟩ : ∃ q, rCover ⟨a0, a1, a2, a3⟩ ⟨s0, s1, s2, s3⟩ = q := ⟨_, rfl⟩
      rw [hp] at HC hst
      dsimp only at HC
      have HC := Lib.hid HC
      have hst := Lib.hid hst
      clear hp hq hs hlc hac
      obtain ⟨b0, b1, b2, b3⟩ := Bb.c4
      have hg1 := Bb.lt
      have hg2 : ¬ (w.heap.size + 1 = wr.heap.size) := by omega
      have hg3 : ¬ (wr.heap.size = w.heap.size + 1) := by omega
      go_wp2_with fail
      generalize hwv : World.alloc _ _ = w3
      have Bb3 : Bk w3 (w.heap.size + 1) 64 #[.int .i64 a0, .int .i64 a1, .int .i64 a2, .int .i64 a3] := hwv ▸ Bb.al _
      have Ba3 : Bk w3 w.heap.size 64 #[.int .i64 0, .int .i64 0, .int .i64 0, .int .i64 0] := hwv ▸ Ba.al _
      have hb3 : Below w.heap.size w w3 := hwv ▸ bl_alloc hbr _
      clear hwv b0 b1 b2 b3
      refine (HC.out w3).mono ?_
      rintro e w4 ⟨rfl, hb4⟩
      have Bb4 := Bb3.be hb4
      have Ba4 := Ba3.be hb4
      have h04 := bl_step hb3 hb4
      obtain ⟨b0, b1, b2, b3⟩ := Bb4.c4
      have bf := Bb4.fz
      have bl := Bb4.lt
      go_wp2_with fail
      go_roundw
      case rel =>
        refine ⟨k + 1, hlt.out, by go_num, Ba4.ot4 (by omega) _ _ _ _, ?_, bl_set (bl_set (bl_set (bl_set h04 (by simp) _) (by simp) _) (by simp) _) (by simp) _⟩
        rw [hst.out]
        exact Bk.st4' Bb4 _ _ _ _
      case measure => have := hlt.out; simp [intOf]; omega
    · obtain rfl : k = l.length := by omega
      rw [List.take_length, ← hcov.out] at Bb
      obtain ⟨⟨a0, a1, a2, a3⟩, hq⟩ : ∃ q, coverF l = q := ⟨_, rfl⟩
      rw [hq] at Bb
      have Bb : Bk wr (w.heap.size + 1) 64 #[.int .i64 a0, .int .i64 a1, .int .i64 a2, .int .i64 a3] := Bb
      have hq := Lib.hid hq
      clear hcov
      obtain ⟨b0, b1, b2, b3⟩ := Bb.c4
      obtain ⟨z0, z1, z2, z3⟩ := Ba.c4
      have zf := Ba.fz
      have zl := Ba.lt
      go_wp2_with fail
      have hI : (Tryz.prog.info? 64).map (·.size) = some (#[.int .i64 a0, .int .i64 a1, .int .i64 a2, .int .i64 a3] : Array Value).size := by kernel_rfl
      refine post_cell w.heap.size 64 #[.int .i64 a0, .int .i64 a1, .int .i64 a2, .int .i64 a3] Tryz.results74 Tryz.underlying64 rfl hI rfl ?bk rfl ⟨by rw [hq.out], ?_⟩
      case bk => exact Bk.st4' Ba _ _ _ _
      exact bl_set (bl_set (bl_set (bl_set hbr (Nat.le_refl _) _) (Nat.le_refl _) _) (Nat.le_refl _) _) (Nat.le_refl _) _
end Go.Proofs.YtjjdgbhplechbaaGreatDoor.Cv
/- damage.add, Flat, Add: what they make. Printed by gen_dam.py. -/
set_option linter.unusedVariables false
set_option linter.unusedSimpArgs false
namespace Go.Proofs.YtjjdgbhplechbaaGreatDoor.Cv
open Go.RowKit Go.Proofs.YtjjdgbhplechbaaGreatDoor.Kit Go.Proofs.YtjjdgbhplechbaaGreatDoor.Reg Go.Proofs.YtjjdgbhplechbaaGreatDoor.Rect
open Go.Proofs.YtjjdgbhplechbaaGreatDoor.Wk (InXY make_xy)
def OutB (base : Nat) (w : World) (l : List R) (e : Ending) (w' : World) : Prop := ∃ A c, e = .returned (.slice A l.length c) ∧ l.length ≤ c ∧ Out base w' A l ∧ Below w.heap.size w w'
theorem OutB.le {b b' : Nat} {w w' : World} {l : List R} {e : Ending} (h : OutB b w l e w') (hb : b' ≤ b) : OutB b' w l e w' := by
  obtain ⟨A, c, r, k, s, t⟩ := h
  exact ⟨A, c, r, k, s.le hb, t⟩
theorem OutP.b {w w' : World} {l : List R} {e : Ending} (h : OutP w l e w') : OutB w.heap.size w l e w' := h
theorem put_len3 (op : Bool → Bool → Bool) (h0 : op false false = false) (a b : List R) (ha : a.length ≤ 40) (hb : b.length ≤ 1) : (joinF op a b).length ≤ 6724 := by
  rw [join_make h0]
  have hx : InXY ((a ++ b).flatMap fun r => [r.x, r.x + r.w]) ((a ++ b).flatMap fun r => [r.y, r.y + r.h]) (a ++ b) := fun r hr =>
    ⟨⟨List.mem_flatMap.2 ⟨r, hr, by simp⟩, List.mem_flatMap.2 ⟨r, hr, by simp⟩⟩, List.mem_flatMap.2 ⟨r, hr, by simp⟩, List.mem_flatMap.2 ⟨r, hr, by simp⟩⟩
  have h2 : ∀ (l : List R) (f g : R → Int), (l.flatMap fun r => [f r, g r]).length = 2 * l.length := by
    intro l f g
    induction l with
    | nil => rfl
    | cons a l ih => rw [List.flatMap_cons, List.length_append, ih]; simp; omega
  refine Nat.le_trans (make_xy op hx).2 ?_
  rw [h2, h2, List.length_append]
  exact Nat.le_trans (Nat.mul_le_mul (show 2 * (a.length + b.length) ≤ 82 by omega) (show 2 * (a.length + b.length) ≤ 82 by omega)) (by omega)
theorem len_foldl : ∀ (l M : List R), M.length ≤ 40 → (l.foldl putF M).length ≤ 40
  | [], _, h => h
  | r :: l, M, _ => len_foldl l _ (len_put M r)
set_option maxRecDepth 100000 in
set_option maxHeartbeats 16000000 in
theorem add_any (base : Nat) (A : Option Addr) (c : Nat) (M : List R) (B : Option Addr) (d : Nat) (l : List R) (w : World) (hM : Rg M) (hm : M.length ≤ 40) (hcc : M.length ≤ c) (hA : Out base w A M) (hbase : base ≤ w.heap.size)
    (hl : Rds w w.heap.size 4 B l.length (l.flatMap rC)) (h64 : ∀ r ∈ l, I64 r) (hn : l.length ≤ 1000000) :
    Calls Tryz.prog 49 #[.slice A M.length c, .slice B l.length d] w (OutB base w (l.foldl putF M)) := by
  have h64 := Lib.hid h64
  have hrg := Lib.hid (fun k => rg_foldl (l.take k) hM)
  have hlen := Lib.hid (fun k => len_foldl (l.take k) M hm)
  have hA := Lib.hid hA
  clear hM hm
  go_enter Tryz.func49, Tryz.ntmps49
  go_wp2_with fail
  go_loopw [0, 6, 9] (fun s0 _ s9 wr => ∃ k : Nat, k ≤ l.length ∧ s9 = .int .i64 (k : Int) ∧ ∃ A' c', s0 = .slice A' ((l.take k).foldl putF M).length c' ∧ ((l.take k).foldl putF M).length ≤ c' ∧ Hid (Out base wr A' ((l.take k).foldl putF M)) ∧ Below w.heap.size w wr) (fun _ _ s9 _ => l.length - (intOf s9).toNat)
  case atStart => exact ⟨0, by omega, rfl, A, c, rfl, hcc, hA, Below.refl _ _⟩
  case round =>
    obtain ⟨k, hk, rfl, A', c', rfl, hcp, hO, hbr⟩ := hrel
    by_cases hlt : k < l.length
    · obtain ⟨ad, rfl, hbl, c0, c1, c2, c3⟩ := Rds.rc (hl.be hbr) hlt
      have hst := foldl_tk putF M l hlt
      have hs64 := h64.out l[k] (List.getElem_mem hlt)
      have hMr := hrg.out k
      have hMl := hlen.out k
      have i0 : (0 : Int) ≤ (k : Int) := by omega
      have i1 : (k : Int) < (l.length : Int) := by omega
      have hlt := Lib.hid hlt
      generalize hs : l[k] = s at *
      obtain ⟨s0, s1, s2, s3⟩ := s
      dsimp only at c0 c1 c2 c3
      obtain ⟨Mk, hMk⟩ : ∃ Mk, (l.take k).foldl putF M = Mk := ⟨_, rfl⟩
      rw [hMk] at hst hMr hMl hO hcp ⊢
      have hput : putF Mk ⟨s0, s1, s2, s3⟩ = if 40 < (joinF (· || ·) Mk (ofF ⟨s0, s1, s2, s3⟩)).length then ofF (coverF (joinF (· || ·) Mk (ofF ⟨s0, s1, s2, s3⟩))) else joinF (· || ·) Mk (ofF ⟨s0, s1, s2, s3⟩) := rfl
      have hlo := len_of ⟨s0, s1, s2, s3⟩
      have hml := put_len3 (· || ·) rfl Mk (ofF ⟨s0, s1, s2, s3⟩) hMl hlo
      have hrm : Rg (joinF (· || ·) Mk (ofF ⟨s0, s1, s2, s3⟩)) := rg_join rfl _ _
      have ho64 := i64_ofF hs64
      have hm64 := rg_i64 hMr
      obtain ⟨m, hmm⟩ : ∃ m, joinF (· || ·) Mk (ofF ⟨s0, s1, s2, s3⟩) = m := ⟨_, rfl⟩
      rw [hmm] at hput hml hrm
      have hUn := fun A B c d w hA hB => Wk.Union_any A B c d Mk (ofF ⟨s0, s1, s2, s3⟩) w (by omega) (by omega) hm64 ho64 hA hB
      rw [hmm] at hUn
      have hUn := Lib.hid hUn
      have hput := Lib.hid hput
      have hst := Lib.hid hst
      have hszr := Nat.le_trans hbase hbr.size
      clear hmm hMk hs hMl hMr hlo hm64 ho64
      have hrm := Lib.hid hrm
      have hs64 := Lib.hid hs64
      go_wp2_with fail
      generalize hwv : World.alloc _ _ = w1
      have hb1 : Below wr.heap.size wr w1 := hwv ▸ bl_alloc (Below.refl _ _) _
      clear hwv c0 c1 c2 c3
      refine (of_reg_any s0 s1 s2 s3 w1 hs64.out).mono ?_
      rintro e w2 ⟨Ao, co, rfl, hco, hOo, hb2⟩
      have h12 := bl_step hb1 hb2
      have hOm := hO.out.be h12
      go_wp2_with fail
      refine (hUn.out A' Ao c' co w2 hOm.1 hOo.1).mono ?_
      rintro e w3 hRc
      obtain ⟨Au, cu, rfl, hcu, hOu, hb3⟩ := out_of hRc
      have h13 := bl_step h12 hb3
      have h03 := bl_step hbr h13
      have hsz2 := h12.size
      have hOu := hOu.le (show base ≤ w2.heap.size by omega)
      clear hRc hOm hOo
      by_cases h40 : 40 < m.length
      · have d40 : decide ((40 : Int) < (m.length : Int)) = true := by simp; omega
        have hp : putF Mk ⟨s0, s1, s2, s3⟩ = ofF (coverF m) := by rw [hput.out, if_pos h40]
        have hcc : chkR (coverF m) := (cover_chk hrm.out (by intro e; rw [e] at h40; simp at h40)).1
        have hcl := fun w hA => coverL_any Au cu m w hrm.out (by omega) hA
        obtain ⟨⟨q0, q1, q2, q3⟩, hq⟩ : ∃ q, coverF m = q := ⟨_, rfl⟩
        rw [hq] at hp hcc hcl
        have hi := chk_i64 hcc
        have hi := Lib.hid hi
        have hcl := Lib.hid hcl
        have hp := Lib.hid hp
        clear hq hcc
        go_wp2_with fail
        refine (hcl.out w3 hOu.1).mono ?_
        rintro e w4 ⟨rfl, hb4⟩
        have h04 := bl_step h03 hb4
        go_wp2_with fail
        refine (of_reg_any q0 q1 q2 q3 w4 hi.out).mono ?_
        rintro e w5 ⟨A5, c5, rfl, hc5, hO5, hb5⟩
        have h05 := bl_step h04 hb5
        have hO5 := hO5.le (show base ≤ w4.heap.size by have := h04.size; omega)
        go_wp2_with fail
        go_roundw
        case rel => exact ⟨k + 1, hlt.out, by go_num, A5, c5, by rw [hst.out, hp.out], by rw [hst.out, hp.out]; exact hc5, by rw [hst.out, hp.out]; exact Lib.hid hO5, h05⟩
        case measure => have := hlt.out; simp [intOf]; omega
      · have d40 : decide ((40 : Int) < (m.length : Int)) = false := by simp; omega
        have hp : putF Mk ⟨s0, s1, s2, s3⟩ = m := by rw [hput.out, if_neg h40]
        have hp := Lib.hid hp
        go_wp2_with fail
        go_roundw
        case rel => exact ⟨k + 1, hlt.out, by go_num, Au, cu, by rw [hst.out, hp.out], by rw [hst.out, hp.out]; exact hcu, by rw [hst.out, hp.out]; exact Lib.hid hOu, h03⟩
        case measure => have := hlt.out; simp [intOf]; omega
    · obtain rfl : k = l.length := by omega
      rw [List.take_length] at hO hcp
      go_wp2_with fail
      go_ret
      exact ⟨A', c', by (show Ending.returned (.slice A' ((l.take l.length).foldl putF M).length c') = _; rw [List.take_length]), hcp, hO.out, hbr⟩
theorem flat_any (A : Option Addr) (c : Nat) (l : List R) (w : World) (hl : Rds w w.heap.size 4 A l.length (l.flatMap rC)) (h64 : ∀ r ∈ l, I64 r) (hn : l.length ≤ 1000000) :
    Calls Tryz.prog 50 #[.slice A l.length c] w (OutP w (flatF l)) := by
  have HA := Lib.hid (add_any w.heap.size none 0 [] A c l w Rg.nil (by simp) (Nat.zero_le _) Out.nil (Nat.le_refl _) hl h64 hn)
  clear hl h64 hn
  go_enter Tryz.func50, Tryz.ntmps50
  go_wp2_with fail
  refine HA.out.mono ?_
  rintro e w1 ⟨A1, c1, rfl, h0, h1, h2⟩
  go_wp2_with fail
  go_ret
  exact ⟨A1, c1, rfl, h0, h1, h2⟩
set_option maxRecDepth 100000 in
set_option maxHeartbeats 8000000 in
theorem damAdd_any (A : Option Addr) (c : Nat) (l : List R) (x y a b : Int) (w : World) (hl : Rds w w.heap.size 4 A l.length (l.flatMap rC)) (h64 : ∀ r ∈ l, I64 r) (hn : l.length ≤ 1000000) (hr : I64 ⟨x, y, a, b⟩) :
    Calls Tryz.prog 32 #[.slice A l.length c, .agg #[.int .i64 x, .int .i64 y, .int .i64 a, .int .i64 b]] w (OutP w (damAdd l ⟨x, y, a, b⟩)) := by
  have HF := Lib.hid (fun w hl => flat_any A c l w hl h64 hn)
  have HG := Lib.hid (fun base A c B d w hcc hA hbase hl => add_any base A c (flatF l) B d [⟨x, y, a, b⟩] w (rg_flat l) (len_flat l) hcc hA hbase hl (by intro r h; obtain rfl := List.mem_singleton.1 h; exact hr) (by simp))
  obtain ⟨F, hF⟩ : ∃ F, flatF l = F := ⟨_, rfl⟩
  have hD : damAdd l ⟨x, y, a, b⟩ = [(⟨x, y, a, b⟩ : R)].foldl putF F := by rw [← hF]; rfl
  rw [hD]
  rw [hF] at HF HG
  obtain ⟨D, hD2⟩ : ∃ D, [(⟨x, y, a, b⟩ : R)].foldl putF F = D := ⟨_, rfl⟩
  rw [hD2] at HG ⊢
  have hl := Lib.hid hl
  clear hF hD hD2 hr h64 hn
  go_enter Tryz.func32, Tryz.ntmps32
  go_upto_region 1 with fail
  generalize hwv : World.alloc _ _ = w1
  have B1 : Bk w1 w.heap.size 64 #[.int .i64 x, .int .i64 y, .int .i64 a, .int .i64 b] := hwv ▸ Bk.new _ _ _
  have hb1 : Below w.heap.size w w1 := hwv ▸ bl_alloc (Below.refl _ _) _
  have hl1 := Lib.hid ((hl.out.be hb1).more hb1.size)
  clear hwv hl
  obtain ⟨gb, hgb⟩ : ∃ gb, w.heap.size = gb := ⟨_, rfl⟩
  rw [hgb] at B1 ⊢
  have hS : ∀ w' : World, Below w1.heap.size w1 w' → (Below w1.heap.size w1 w' ∧ w'.cell? ⟨gb, 0, none⟩ = some (.int .i64 x) ∧ w'.cell? ⟨gb, 1, none⟩ = some (.int .i64 y) ∧ w'.cell? ⟨gb, 2, none⟩ = some (.int .i64 a) ∧ w'.cell? ⟨gb, 3, none⟩ = some (.int .i64 b)) := fun w' hb => ⟨hb, (B1.be hb).cell 0, (B1.be hb).cell 1, (B1.be hb).cell 2, (B1.be hb).cell 3⟩
  have hS := Lib.hid hS
  refine wp_region_held_drew (S := fun w' : World => Below w1.heap.size w1 w' ∧ w'.cell? ⟨gb, 0, none⟩ = some (.int .i64 x) ∧ w'.cell? ⟨gb, 1, none⟩ = some (.int .i64 y) ∧ w'.cell? ⟨gb, 2, none⟩ = some (.int .i64 a) ∧ w'.cell? ⟨gb, 3, none⟩ = some (.int .i64 b)) (by kernel_rfl) (by (try dsimp only); exact hS.out _ (by repeat (first | (with_reducible exact Below.refl _ _) | (with_reducible assumption) | (with_reducible apply bl_alloc) | (with_reducible apply bl_drew)))) (fun hHeld => ?_)
  refine wpAnyH_take (i := 0) (v := ?_) rfl (by kernel_rfl) (by kernel_rfl) (by kernel_rfl) (fun _ _ _ h => h) (Or.inl ⟨by rfl, ?_⟩) (by assumption) ?_
  rotate_left
  · (intro w hSw; (try dsimp only at hSw); go_simp; try (with_reducible rfl))
  (try simp only [Act.put, List.setIfInBounds_toArray, List.set_cons_zero, List.set_cons_succ])
  refine wpAnyH_take (i := 2) (v := ?_) rfl (by kernel_rfl) (by kernel_rfl) (by kernel_rfl) (fun _ _ _ h => h) (Or.inl ⟨by rfl, ?_⟩) (by assumption) ?_
  rotate_left
  · (intro w hSw; (try dsimp only at hSw); go_simp; try (with_reducible rfl))
  (try simp only [Act.put, List.setIfInBounds_toArray, List.set_cons_zero, List.set_cons_succ])
  refine wpAnyH_ready (rs := [1, 3]) (by kernel_rfl) (by simp) ?_
  refine AllReadyH.cons (i := 1) rfl (fun K hK => ?_) (AllReadyH.cons (i := 3) rfl (fun K hK => ?_) AllReadyH.nil)
  · go_simp
    have hbe : Below w1.heap.size w1 w1.drew := bl_drew (Below.refl _ _)
    go_at_call 50
    refine (HF.out _ ((hl1.out.be (hbe)).more (Below.size (hbe)))).mono ?_
    rintro e w2 ⟨A2, c2, rfl, hcp2, hO2, hb2⟩
    have hb12 : Below w1.heap.size w1 w2 := bl_step hbe hb2
    try (go_wp2_with fail)
    refine hK.out _ _ (by (try dsimp only); exact hS.out _ (by repeat (first | (with_reducible exact Below.refl _ _) | (with_reducible assumption) | (with_reducible apply bl_alloc) | (with_reducible apply bl_drew)))) (fun hHeld2 => ?_)
    clear hHeld
    rename _ => hHeld
    clear hK K
    (try simp only [Act.put, List.setIfInBounds_toArray, List.set_cons_zero, List.set_cons_succ])
    refine wpAnyH_ready (rs := [3]) (by kernel_rfl) (by simp) ?_
    refine AllReadyH.cons (i := 3) rfl (fun K hK => ?_) AllReadyH.nil
    go_simp
    have hb3 : Below w2.heap.size w2 (w2.alloc (.cells #[.int .i64 x, .int .i64 y, .int .i64 a, .int .i64 b] 64)) := bl_alloc (Below.refl _ _) _
    have B3 : Bk (w2.alloc (.cells #[.int .i64 x, .int .i64 y, .int .i64 a, .int .i64 b] 64)) w2.heap.size 64 (rV ⟨x, y, a, b⟩) := Bk.new _ _ _
    have hb13 := bl_step hb12 hb3
    try (go_wp2_with fail)
    refine hK.out _ _ (by (try dsimp only); exact hS.out _ (by repeat (first | (with_reducible exact Below.refl _ _) | (with_reducible assumption) | (with_reducible apply bl_alloc) | (with_reducible apply bl_drew)))) (fun hHeld2 => ?_)
    clear hHeld
    rename _ => hHeld
    clear hK K
    (try simp only [Act.put, List.setIfInBounds_toArray, List.set_cons_zero, List.set_cons_succ])
    refine wpAnyH_ready (rs := [4]) (by kernel_rfl) (by simp) ?_
    refine AllReadyH.cons (i := 4) rfl (fun K hK => ?_) AllReadyH.nil
    go_simp
    go_at_call 49
    refine (HG.out gb A2 c2 (some ⟨w2.heap.size, 0, none⟩) 1 _ hcp2 ((hO2.be hb3).le (by have := hb1.size; have := hbe.size; omega)) (by have := hb1.size; have := hb13.size; omega) ((out_one (b := 0) B3 (Nat.zero_le _)).1)).mono ?_
    rintro e w4 ⟨A4, c4, rfl, hcp4, hO4, hb4⟩
    have hb14 : Below w1.heap.size w1 w4 := bl_step hb13 hb4
    try (go_wp2_with fail)
    refine hK.out _ _ (by (try dsimp only); exact hS.out _ (by repeat (first | (with_reducible exact Below.refl _ _) | (with_reducible assumption) | (with_reducible apply bl_alloc) | (with_reducible apply bl_drew)))) (fun hHeld2 => ?_)
    clear hHeld
    rename _ => hHeld
    clear hK K
    (try simp only [Act.put, List.setIfInBounds_toArray, List.set_cons_zero, List.set_cons_succ])
    refine wpAnyH_ready (rs := [5]) (by kernel_rfl) (by simp) ?_
    refine AllReadyH.cons (i := 5) rfl (fun K hK => ?_) AllReadyH.nil
    go_simp
    refine hK.out _ _ hHeld (fun hHeld2 => ?_)
    clear hHeld2 hK K
    (try simp only [Act.put, List.setIfInBounds_toArray, List.set_cons_zero, List.set_cons_succ])
    refine wpAnyH_done (by kernel_rfl) ?_ _
    clear hHeld
    go_wp2_with fail
    go_ret
    exact ⟨A4, c4, rfl, hcp4, by rw [hgb]; exact hO4, bl_step hb1 hb14⟩
  · go_simp
    generalize hw3 : World.alloc _ _ = w3
    have hbe : Below w1.heap.size w1 w3 := by (first | exact hw3 ▸ bl_alloc (bl_drew (Below.refl _ _)) _ | exact hw3 ▸ bl_alloc (Below.refl _ _) _)
    have B3 : Bk w3 w1.heap.size 64 (rV ⟨x, y, a, b⟩) := hw3 ▸ Bk.new' _ _ _ rfl
    try (go_wp2_with fail)
    refine hK.out _ _ (by (try dsimp only); exact hS.out _ (by repeat (first | (with_reducible exact Below.refl _ _) | (with_reducible assumption) | (with_reducible apply bl_alloc) | (with_reducible apply bl_drew)))) (fun hHeld2 => ?_)
    clear hHeld
    rename _ => hHeld
    clear hK K
    (try simp only [Act.put, List.setIfInBounds_toArray, List.set_cons_zero, List.set_cons_succ])
    refine wpAnyH_ready (rs := [1]) (by kernel_rfl) (by simp) ?_
    refine AllReadyH.cons (i := 1) rfl (fun K hK => ?_) AllReadyH.nil
    go_simp
    have hbd : Below w1.heap.size w1 w3.drew := bl_drew hbe
    go_at_call 50
    refine (HF.out _ ((hl1.out.be (hbd)).more (Below.size (hbd)))).mono ?_
    rintro e w2 ⟨A2, c2, rfl, hcp2, hO2, hb2⟩
    have hb12 : Below w1.heap.size w1 w2 := bl_step hbd hb2
    have B32 := B3.dr.be hb2
    try (go_wp2_with fail)
    refine hK.out _ _ (by (try dsimp only); exact hS.out _ (by repeat (first | (with_reducible exact Below.refl _ _) | (with_reducible assumption) | (with_reducible apply bl_alloc) | (with_reducible apply bl_drew)))) (fun hHeld2 => ?_)
    clear hHeld
    rename _ => hHeld
    clear hK K
    (try simp only [Act.put, List.setIfInBounds_toArray, List.set_cons_zero, List.set_cons_succ])
    refine wpAnyH_ready (rs := [4]) (by kernel_rfl) (by simp) ?_
    refine AllReadyH.cons (i := 4) rfl (fun K hK => ?_) AllReadyH.nil
    go_simp
    go_at_call 49
    refine (HG.out gb A2 c2 (some ⟨w1.heap.size, 0, none⟩) 1 _ hcp2 (hO2.le (by have := hb1.size; have := hbd.size; omega)) (by have := hb1.size; have := hb12.size; omega) ((out_one (b := 0) B32 (Nat.zero_le _)).1)).mono ?_
    rintro e w4 ⟨A4, c4, rfl, hcp4, hO4, hb4⟩
    have hb14 : Below w1.heap.size w1 w4 := bl_step hb12 hb4
    try (go_wp2_with fail)
    refine hK.out _ _ (by (try dsimp only); exact hS.out _ (by repeat (first | (with_reducible exact Below.refl _ _) | (with_reducible assumption) | (with_reducible apply bl_alloc) | (with_reducible apply bl_drew)))) (fun hHeld2 => ?_)
    clear hHeld
    rename _ => hHeld
    clear hK K
    (try simp only [Act.put, List.setIfInBounds_toArray, List.set_cons_zero, List.set_cons_succ])
    refine wpAnyH_ready (rs := [5]) (by kernel_rfl) (by simp) ?_
    refine AllReadyH.cons (i := 5) rfl (fun K hK => ?_) AllReadyH.nil
    go_simp
    refine hK.out _ _ hHeld (fun hHeld2 => ?_)
    clear hHeld2 hK K
    (try simp only [Act.put, List.setIfInBounds_toArray, List.set_cons_zero, List.set_cons_succ])
    refine wpAnyH_done (by kernel_rfl) ?_ _
    clear hHeld
    go_wp2_with fail
    go_ret
    exact ⟨A4, c4, rfl, hcp4, by rw [hgb]; exact hO4, bl_step hb1 hb14⟩
end Go.Proofs.YtjjdgbhplechbaaGreatDoor.Cv
