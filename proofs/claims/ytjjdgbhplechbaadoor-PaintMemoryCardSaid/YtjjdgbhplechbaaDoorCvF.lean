/- Fill, and a canvas that is filled. -/
import Derived.Test.YtjjdgbhplechbaaDoorCvE
import Derived.Shelf.Abstract
set_option linter.unusedVariables false
set_option linter.unusedSimpArgs false
namespace Go.Proofs.YtjjdgbhplechbaaDoor.Cv
open Go.RowKit Go.Proofs.YtjjdgbhplechbaaDoor.Kit Go.Proofs.YtjjdgbhplechbaaDoor.Rect
theorem fillC (p i b : Nat) (v o : Int) (x y : Int) (w : World) (h1 : w.cell? ⟨b, 0, none⟩ = some (.int .u32 v)) (h2 : w.cell? ⟨p, i, none⟩ = some (.int .u32 o)) (hf : w.frozen? ⟨p, i, none⟩ = false) :
    Calls Tryd.prog 48 #[.pointer (some ⟨p, i, none⟩), .int .i64 x, .int .i64 y, .pointer (some ⟨b, 0, none⟩)] w fun e w' => e = .returned (.tuple #[]) ∧ w' = w.setCell ⟨p, i, none⟩ (.int .u32 v) := by
  go_enter Tryd.func48, Tryd.ntmps48
  go_wp2_with fail
  go_end0
  exact ⟨rfl, rfl⟩
theorem do_fill {w0 : World} {p b W H : Nat} {v : Int} (hb : Bk w0 b 22 #[.int .u32 v]) (hne : b ≠ p) : Do 48 #[.pointer (some ⟨b, 0, none⟩)] w0 p W H (fun _ _ _ => v) := by
  intro w M x y o hs hp hx hy hM ho
  have h2 : w.cell? ⟨p, y * W + x, none⟩ = some (.int .u32 o) := by
    rw [hp.cell]
    simp [pxV, hM]
  refine (fillC p (y * W + x) b v o (x : Int) (y : Int) w ((hs.bk hb hne).cell 0) h2 (hp.frz _)).mono ?_
  rintro e w' ⟨rfl, rfl⟩
  refine ⟨rfl, (Sav.refl _ _).st _ _, ?_⟩
  have := hp.st (y * W + x) (.int .u32 v)
  rw [px_set] at this
  exact this
set_option maxRecDepth 100000 in
theorem fill_any2 (c p W H : Nat) (L : List Int) (v : Int) (A : Option Addr) (lc : Nat) (l : List R) (w : World) (hc : Cv w c p W H L) (hv : 0 ≤ v ∧ v < 4294967296) (hl : Rds w w.heap.size 4 A l.length (l.flatMap rC))
    (h64 : ∀ r ∈ l, I64 r) (hn : l.length ≤ 1000000) :
    Calls Tryd.prog 17 #[.pointer (some ⟨c, 0, none⟩), .int .u32 v, .slice A l.length lc] w fun e w' => e = .returned (.tuple #[]) ∧ Sav p w w' ∧ Cv w' c p W H (drawn W H l (fun _ _ _ => v) L) := by
  have hmf : ∀ (fn : Fn) (first cap : Array Value) (w : World), (Instr.makeFunc fn first cap).run Tryd.prog w = .ok (.func fn first cap) w := fun _ _ _ _ => rfl
  have h64 := Lib.hid h64
  have hv := Lib.hid hv
  go_enter Tryd.func17, Tryd.ntmps17
  go_wp2_with fail
  have hb : Below w.heap.size w (w.alloc (.cells #[.int .u32 v] 22)) := bl_alloc (Below.refl _ _) _
  refine (each_any c p W H L A lc l 48 #[.pointer (some ⟨w.heap.size, 0, none⟩)] (fun _ _ _ => v) _ (hc.be hb) ((hl.be hb).more hb.size) h64.out hn (fun _ _ _ _ => hv.out) (do_fill (Bk.new _ _ _) (by have := hc.px.lt; omega)) (enters_of Tryd.func48 (by kernel_rfl) rfl)).mono ?_
  rintro e w1 ⟨rfl, hs, hc1⟩
  go_wp2_with fail
  go_end0
  exact ⟨rfl, (Sav.of hb).trans hs, hc1⟩
theorem fill_any (c p W H : Nat) (L : List Int) (v : Int) (A : Option Addr) (lc : Nat) (l : List R) (w : World) (hc : Cv w c p W H L) (hv : 0 ≤ v ∧ v < 4294967296) (hl : Rds w w.heap.size 4 A l.length (l.flatMap rC)) (_ : ∀ ad, A = some ad → ad.block ≠ p)
    (h64 : ∀ r ∈ l, I64 r) (hn : l.length ≤ 1000000) :
    Calls Tryd.prog 17 #[.pointer (some ⟨c, 0, none⟩), .int .u32 v, .slice A l.length lc] w fun e w' => e = .returned (.tuple #[]) ∧ Sav p w w' ∧ Cv w' c p W H (drawn W H l (fun _ _ _ => v) L) :=
  fill_any2 c p W H L v A lc l w hc hv hl h64 hn
theorem new_any' (P Q : Int) (w : World) (h1 : 1 ≤ P) (h2 : P ≤ 48) (h3 : 1 ≤ Q) (h4 : Q ≤ 48) :
    Calls Tryd.prog 15 #[.int .i64 P, .int .i64 Q] w fun e w' =>
      ∃ c p W H : Nat, P = W ∧ Q = H ∧ e = .returned (.tuple #[.pointer (some ⟨c, 0, none⟩), .nilIface]) ∧ Cv w' c p W H (List.replicate (W * H) 0) ∧ w.heap.size ≤ c ∧ w.heap.size ≤ p ∧ Below w.heap.size w w' := by
  obtain ⟨W, rfl⟩ : ∃ W : Nat, P = (W : Int) := ⟨P.toNat, by omega⟩
  obtain ⟨H, rfl⟩ : ∃ H : Nat, Q = (H : Int) := ⟨Q.toNat, by omega⟩
  refine (new_any W H w (by omega) (by omega) (by omega) (by omega)).mono ?_
  rintro e w1 ⟨c, p, rfl, hc, a, b, d⟩
  exact ⟨c, p, W, H, rfl, rfl, rfl, hc, a, b, d⟩
/-- a clip of one rectangle, in a block of its own -/
theorem one_rds {w : World} {b : Nat} {r : R} (h : Bk w b 32 (rV r)) : Rds w w.heap.size 4 (some ⟨b, 0, none⟩) [r].length ([r].flatMap rC) := by
  have := Rds.block (n := 1) (sz := 4) h rfl h.lt
  simpa [rC] using this
def awL : List Int := drawn 2 2 [⟨0, 0, 1, 5⟩] (fun _ _ _ => 7) (List.replicate (2 * 2) 0)
theorem aw1 : atP 2 2 awL 0 1 = 7 := by decide +kernel
theorem aw2 : atP 2 2 awL 1 1 = 0 := by decide +kernel
theorem aw3 : atP 2 2 awL 5 5 = 0 := by decide +kernel
set_option maxRecDepth 100000 in
set_option maxHeartbeats 8000000 in
theorem awake_any (w : World) : Calls Tryd.prog 20 #[] w fun e w' => e = .returned (.bool true) ∧ Below w.heap.size w w' := by
  go_enter Tryd.func20, Tryd.ntmps20
  go_wp2_with fail
  refine (new_any 2 2 w (by omega) (by omega) (by omega) (by omega)).mono ?_
  rintro e w1 ⟨c, p, rfl, hc, hc0, hp0, hb1⟩
  go_wp2_with fail
  generalize hwv : World.alloc _ _ = w2
  have hb2 : Below w1.heap.size w1 w2 := hwv ▸ bl_alloc (Below.refl _ _) _
  have B2 : Bk w2 w1.heap.size 32 (rV ⟨0, 0, 1, 5⟩) := hwv ▸ Bk.new _ _ _
  clear hwv
  refine (fill_any c p 2 2 _ 7 (some ⟨w1.heap.size, 0, none⟩) 1 [⟨0, 0, 1, 5⟩] w2 (hc.be hb2) (by omega) (one_rds B2) (by intro ad e; injection e with e; subst e; have := hc.px.lt; simp only; omega) (by intro r hr; obtain rfl := List.mem_singleton.1 hr; unfold I64; simp only; omega) (by simp)).mono ?_
  rintro e w3 ⟨rfl, hs3, hc3⟩
  have hb3 : Below w.heap.size w w3 := hs3.below (bl_step hb1 hb2) hp0 (bl_step hb1 hb2).size
  go_wp2_with fail
  refine (at_any c p 2 2 awL 0 1 w3 hc3).mono ?_
  rintro e w4 ⟨rfl, hb4⟩
  rw [aw1]
  go_wp2_with fail
  refine (at_any c p 2 2 awL 1 1 w4 (hc3.be hb4)).mono ?_
  rintro e w5 ⟨rfl, hb5⟩
  rw [aw2]
  go_wp2_with fail
  refine (at_any c p 2 2 awL 5 5 w5 ((hc3.be hb4).be hb5)).mono ?_
  rintro e w6 ⟨rfl, hb6⟩
  rw [aw3]
  go_wp2_with fail
  go_ret
  exact ⟨rfl, bl_step (bl_step (bl_step hb3 hb4) hb5) hb6⟩
end Go.Proofs.YtjjdgbhplechbaaDoor.Cv
