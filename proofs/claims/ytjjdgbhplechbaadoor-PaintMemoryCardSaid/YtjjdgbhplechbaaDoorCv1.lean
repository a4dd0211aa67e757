/- The canvas in memory: its cells, its points, and what stays. -/
import Derived.Test.YtjjdgbhplechbaaDoorRectWalk3
import Derived.Test.YtjjdgbhplechbaaDoorSl
import Derived.Deep.Cut
import Derived.OpenShut
set_option linter.unusedVariables false
set_option linter.unusedSimpArgs false
namespace Go.Proofs.YtjjdgbhplechbaaDoor.Cv
open Go.RowKit Go.Proofs.YtjjdgbhplechbaaDoor.Kit

/-- All that lay in w, but for block p, lies as it did. -/
structure Sav (p : Nat) (w w' : World) : Prop where
  os : w'.os = w.os
  tape : w'.tape = w.tape
  output : w'.output = w.output
  size : w.heap.size ≤ w'.heap.size
  block : ∀ k, k < w.heap.size → k ≠ p → w'.heap[k]? = w.heap[k]?
section
variable {p : Nat} {w w' w'' : World}
theorem Sav.refl (p : Nat) (w : World) : Sav p w w := ⟨rfl, rfl, rfl, Nat.le_refl _, fun _ _ _ => rfl⟩
theorem Sav.trans (h : Sav p w w') (k : Sav p w' w'') : Sav p w w'' :=
  ⟨k.os.trans h.os, k.tape.trans h.tape, k.output.trans h.output, Nat.le_trans h.size k.size, fun i hi hn => (k.block i (Nat.lt_of_lt_of_le hi h.size) hn).trans (h.block i hi hn)⟩
theorem Sav.of (h : Below w.heap.size w w') : Sav p w w' := ⟨h.os, h.tape, h.output, h.size, fun k hk _ => h.block k hk⟩
theorem Sav.step (h : Sav p w w') (k : Below w'.heap.size w' w'') : Sav p w w'' := h.trans (.of k)
theorem Sav.al (h : Sav p w w') (o : Obj) : Sav p w (w'.alloc o) := h.trans (.of (bl_alloc (Below.refl _ _) o))
theorem Sav.dr (h : Sav p w w') : Sav p w w'.drew := ⟨h.os, h.tape, h.output, h.size, h.block⟩
theorem Sav.st (h : Sav p w w') (i : Nat) (u : Value) : Sav p w (w'.setCell ⟨p, i, none⟩ u) :=
  h.trans ⟨rfl, rfl, rfl, by simp [World.setCell], fun k _ hk => Below.heap_setCell _ _ _ _ hk⟩
/-- A store into a block that came later. -/
theorem Sav.new (h : Sav p w w') {a : Addr} (ha : w.heap.size ≤ a.block) (u : Value) : Sav p w (w'.setCell a u) :=
  ⟨h.os, h.tape, h.output, by simpa [World.setCell] using h.size, fun k hk hn => (Below.heap_setCell _ _ _ _ (by omega)).trans (h.block k hk hn)⟩
theorem Sav.below {B : Nat} {w0 : World} (h : Sav p w w') (hb : Below B w0 w) (hp : B ≤ p) (hB : B ≤ w.heap.size) : Below B w0 w' :=
  hb.trans ⟨h.os, h.tape, h.output, h.size, fun k hk => h.block k (by omega) (by omega)⟩
theorem Sav.bk {g : Nat} {t : TypeId} {cs : Array Value} (s : Sav p w w') (h : Bk w g t cs) (hg : g ≠ p) : Bk w' g t cs := (s.block g h.lt hg).trans h
theorem Sav.rds {B sz n : Nat} {A : Option Addr} {xs : List Value} (s : Sav p w w') (h : Rds w B sz A n xs) (hB : B ≤ w.heap.size) (hn : ∀ ad, A = some ad → ad.block ≠ p) : Rds w' B sz A n xs := by
  refine ⟨h.1, fun hp => ?_⟩
  obtain ⟨ad, e, hb, hc⟩ := h.2 hp
  exact ⟨ad, e, hb, fun j u hu => by
    rw [World.cell?_of_block (w := w) (s.block _ (by rw [add_blk]; omega) (by rw [add_blk]; exact hn ad e))]
    exact hc j u hu⟩
end

/-! points -/
def pxV (L : List Int) : Array Value := (L.map (Value.int .u32)).toArray
theorem px_size (L : List Int) : (pxV L).size = L.length := by simp [pxV]
theorem px_get {L : List Int} {i : Nat} (h : i < L.length) : (pxV L)[i]? = some (.int .u32 L[i]) := by simp [pxV, h]
theorem px_set (L : List Int) (i : Nat) (v : Int) : (pxV L).setIfInBounds i (.int .u32 v) = pxV (L.set i v) := by
  simp [pxV, List.map_set]
/-- A canvas at c, its points at p. -/
structure Cv (w : World) (c p W H : Nat) (L : List Int) : Prop where
  hd : Bk w c 106 #[.int .i64 (W : Int), .int .i64 (H : Int), .slice (some ⟨p, 0, none⟩) (W * H) (W * H)]
  px : Bk w p 22 (pxV L)
  len : L.length = W * H
  u32 : ∀ v ∈ L, 0 ≤ v ∧ v < 4294967296
  w1 : 1 ≤ W
  w2 : W ≤ 48
  h1 : 1 ≤ H
  h2 : H ≤ 48
section
variable {w w' : World} {c p W H : Nat} {L : List Int}
theorem Cv.ne (h : Cv w c p W H L) : c ≠ p := fun e => by
  subst e
  have a := h.hd
  have b := h.px
  unfold Bk at a b
  rw [a] at b
  injection b with b
  injection b with b1 b2
  exact absurd b2 (by decide)
theorem Cv.be (h : Cv w c p W H L) (hb : Below w.heap.size w w') : Cv w' c p W H L := ⟨h.hd.be hb, h.px.be hb, h.len, h.u32, h.w1, h.w2, h.h1, h.h2⟩
theorem Cv.sav {q : Nat} (h : Cv w c p W H L) (s : Sav q w w') (hc : c ≠ q) (hp : p ≠ q) : Cv w' c p W H L := ⟨s.bk h.hd hc, s.bk h.px hp, h.len, h.u32, h.w1, h.w2, h.h1, h.h2⟩
theorem Cv.c3 (h : Cv w c p W H L) : w.cell? ⟨c, 0, none⟩ = some (.int .i64 (W : Int)) ∧ w.cell? ⟨c, 1, none⟩ = some (.int .i64 (H : Int)) ∧ w.cell? ⟨c, 2, none⟩ = some (.slice (some ⟨p, 0, none⟩) (W * H) (W * H)) := ⟨h.hd.cell 0, h.hd.cell 1, h.hd.cell 2⟩
end
theorem mul_le {y W H : Nat} (hy : y < H) : y * W + W ≤ W * H := by
  have : (y + 1) * W ≤ H * W := Nat.mul_le_mul_right W hy
  rw [Nat.succ_mul] at this
  rw [Nat.mul_comm W H]
  exact this
theorem wh_le {W H : Nat} (hW : W ≤ 48) (hH : H ≤ 48) : W * H ≤ 2304 := Nat.mul_le_mul hW hH

theorem run_sb {P : Program} {i y : Nat} (h : i ≤ y) (c : BoundsCode) (w : World) : (Instr.sliceBound (.int .i64 (i : Int)) y c).run P w = .ok i w := by
  have h' : (0 : Int) ≤ (i : Int) ∧ (i : Int) ≤ (y : Int) := by omega
  simp only [Instr.sliceBound, asIntOf, Sem.run_bind, Sem.run_pure, Result.andThen_ok]
  rw [if_pos h']
  simp
theorem run_slice_row {P : Program} {t e : TypeId} {p n k W : Nat} (ht : P.underlying t = some (.slice e)) (hz : ∀ w, (Go.sizeOf e).run P w = .ok 1 w) (h : k + W ≤ n) (hW : 1 ≤ W) (w : World) :
    (Instr.slice t (.slice (some ⟨p, 0, none⟩) n n) (some (.int .i64 (k : Int))) (some (.int .i64 ((k : Int) + (W : Int)))) (some (.int .i64 ((k : Int) + (W : Int))))).run P w = .ok (.slice (some ⟨p, k, none⟩) W W) w := by
  have e2 : (⟨p, 0, none⟩ : Addr).add (k * 1) = ⟨p, k, none⟩ := by unfold Addr.add; split <;> simp_all
  rw [show (k : Int) + (W : Int) = ((k + W : Nat) : Int) from by simp]
  simp only [Instr.slice, Instr.sliceBounds, Sem.run_bind, run_underlying ht, Sem.run_pure, Result.andThen_ok, run_sb h, run_sb (Nat.le_refl (k + W)), run_sb (Nat.le_add_right k W), hz]
  rw [if_neg (by omega)]
  simp only [Option.map_some, e2]
  rw [Nat.add_sub_cancel_left]
theorem sl34 (w : World) (p n k W : Nat) (h : k + W ≤ n) (hW : 1 ≤ W) : (Instr.slice 34 (.slice (some ⟨p, 0, none⟩) n n) (some (.int .i64 (k : Int))) (some (.int .i64 ((k : Int) + (W : Int)))) (some (.int .i64 ((k : Int) + (W : Int))))).run Tryd.prog w = .ok (.slice (some ⟨p, k, none⟩) W W) w :=
  run_slice_row Tryd.underlying34 (fun _ => by kernel_rfl) h hW w
attribute [local go_sem high] sl34
theorem row_w {y k W n : Nat} (h : k + W ≤ n) (hn : n ≤ 2304) (hy : y ≤ 48) : IntKind.i64.wrap (k : Int) = (k : Int) ∧ IntKind.i64.wrap ((y : Int) + 1) = (y : Int) + 1 ∧ IntKind.i64.wrap ((k : Int) + (W : Int)) = (k : Int) + (W : Int) ∧
    wrap64 (k : Int) = (k : Int) ∧ wrap64 ((y : Int) + 1) = (y : Int) + 1 ∧ wrap64 ((k : Int) + (W : Int)) = (k : Int) + (W : Int) :=
  ⟨i64_in (by omega) (by omega), i64_in (by omega) (by omega), i64_in (by omega) (by omega), w64_in (by omega) (by omega), w64_in (by omega) (by omega), w64_in (by omega) (by omega)⟩
set_option maxRecDepth 100000 in
set_option maxHeartbeats 8000000 in
theorem row_any (c p W H y : Nat) (L : List Int) (w : World) (h : Cv w c p W H L) (hy : y < H) :
    Calls Tryd.prog 49 #[.pointer (some ⟨c, 0, none⟩), .int .i64 (y : Int)] w fun e w' => e = .returned (.slice (some ⟨p, y * W, none⟩) W W) ∧ Below w.heap.size w w' := by
  obtain ⟨k0, k1, k2⟩ := h.c3
  have m1 := mul_le (W := W) hy
  have m2 := wh_le h.w2 h.h2
  have m3 := h.w2
  have m4 := h.h2
  have m5 := h.w1
  obtain ⟨k, hk⟩ : ∃ k, y * W = k := ⟨_, rfl⟩
  obtain ⟨n, hn⟩ : ∃ n, W * H = n := ⟨_, rfl⟩
  have e1 : (y : Int) * (W : Int) = (k : Int) := by rw [← hk]; simp
  have e2 : ((y : Int) + 1) * (W : Int) = (k : Int) + (W : Int) := by rw [Int.add_mul, e1, Int.one_mul]
  rw [hk, hn] at m1
  rw [hn] at m2
  rw [hk]
  rw [hn] at k2
  obtain ⟨v1, v2, v3, v4, v5, v6⟩ := row_w m1 m2 (show y ≤ 48 from Nat.le_of_lt (Nat.lt_of_lt_of_le hy m4))
  clear hk hn
  go_enter Tryd.func49, Tryd.ntmps49
  go_wp2_with fail
  have hS : ∀ w' : World, Below w.heap.size w w' → (Below w.heap.size w w' ∧ w'.cell? ⟨c, 0, none⟩ = some (.int .i64 (W : Int)) ∧ w'.cell? ⟨c, 2, none⟩ = some (.slice (some ⟨p, 0, none⟩) n n)) := fun w' hq => ⟨hq, (hq.cell h.hd.lt).trans k0, (hq.cell h.hd.lt).trans k2⟩
  clear h
  go_region_held3 (fun w' : World => Below w.heap.size w w' ∧ w'.cell? ⟨c, 0, none⟩ = some (.int .i64 (W : Int)) ∧ w'.cell? ⟨c, 2, none⟩ = some (.slice (some ⟨p, 0, none⟩) n n)) (exact hS _ (by first | exact Below.refl _ _ | exact bl_drew (Below.refl _ _))) (fail)
  all_goals go_wp2_with fail
  all_goals go_ret
  all_goals exact ⟨rfl, by first | exact bl_drew (Below.refl _ _) | exact Below.refl _ _⟩
end Go.Proofs.YtjjdgbhplechbaaDoor.Cv
