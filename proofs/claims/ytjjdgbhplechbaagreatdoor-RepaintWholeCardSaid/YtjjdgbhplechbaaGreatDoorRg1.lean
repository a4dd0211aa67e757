/- The walks through the package region: spans, edges. -/
import Derived.Test.YtjjdgbhplechbaaGreatDoorRows
import Derived.Test.YtjjdgbhplechbaaGreatDoorSl
import Derived.Test.YtjjdgbhplechbaaGreatDoorRegMath
import Derived.Deep.RegionHeld3
import Derived.Deep.AppendLies
import Derived.Deep.QuietTactic
import Derived.BigQuiet
import Derived.Deep.LoopGhost
import Derived.Test.YtjjdgbhplechbaaGreatDoorShelf
import Derived.Sort.OwnSortedInts
import Derived.Deep.DeepCutAuto
import Derived.Deep.DeepFit
set_option linter.unusedVariables false
set_option linter.unusedSimpArgs false
namespace Go.Proofs.YtjjdgbhplechbaaGreatDoor.Wk
open Go.RowKit Go.Proofs.YtjjdgbhplechbaaGreatDoor.Kit Go.Proofs.YtjjdgbhplechbaaGreatDoor.Reg Go.Proofs.YtjjdgbhplechbaaGreatDoor.Rect

def spC (s : Sp) : List Value := [.int .i64 s.f, .int .i64 s.t]
theorem spC_len (s : Sp) : (spC s).length = 2 := rfl
def rC (r : R) : List Value := [.int .i64 r.x, .int .i64 r.y, .int .i64 r.w, .int .i64 r.h]
theorem rC_len (r : R) : (rC r).length = 4 := rfl
section
variable {w : World} {B : Nat} {A : Option Addr}
/-- the cells of an element, as the walk names them -/
theorem Rds.sp {l : List Sp} (h : Rds w B 2 A l.length (l.flatMap spC)) {i : Nat} (hi : i < l.length) :
    ∃ ad, A = some ad ∧ ad.block < B ∧ w.cell? (ad.add (i * 2)) = some (.int .i64 l[i].f) ∧ w.cell? ⟨(ad.add (i * 2)).block, (ad.add (i * 2)).off + 1, none⟩ = some (.int .i64 l[i].t) := by
  obtain ⟨ad, e, hb, hc⟩ := Rds.elem spC 2 spC_len h hi
  exact ⟨ad, e, hb, hc 0 _ (by omega) rfl, by rw [add_at ad (i * 2) 0]; exact hc 1 _ (by omega) rfl⟩
theorem Rds.rc {l : List R} (h : Rds w B 4 A l.length (l.flatMap rC)) {i : Nat} (hi : i < l.length) :
    ∃ ad, A = some ad ∧ ad.block < B ∧ w.cell? (ad.add (i * 4)) = some (.int .i64 l[i].x) ∧ w.cell? ⟨(ad.add (i * 4)).block, (ad.add (i * 4)).off + 1, none⟩ = some (.int .i64 l[i].y) ∧
      w.cell? ⟨(ad.add (i * 4)).block, (ad.add (i * 4)).off + 2, none⟩ = some (.int .i64 l[i].w) ∧ w.cell? ⟨(ad.add (i * 4)).block, (ad.add (i * 4)).off + 3, none⟩ = some (.int .i64 l[i].h) := by
  obtain ⟨ad, e, hb, hc⟩ := Rds.elem rC 4 rC_len h hi
  exact ⟨ad, e, hb, hc 0 _ (by omega) rfl, by rw [add_at ad (i * 4) 0]; exact hc 1 _ (by omega) rfl, by rw [add_at ad (i * 4) 1]; exact hc 2 _ (by omega) rfl, by rw [add_at ad (i * 4) 2]; exact hc 3 _ (by omega) rfl⟩
end

/-! among -/
def hitS (s : Sp) (x : Int) : Bool := decide (s.f ≤ x) && decide (x < s.t)
def fIx : List Sp → Int → Int → Int
  | [], _, _ => -1
  | s :: r, x, k => if hitS s x then k else fIx r x (k + 1)
theorem fIx_in (x : Int) : ∀ (l : List Sp) (k : Int), 0 ≤ k → decide (0 ≤ fIx l x k) = spIn l x
  | [], k, _ => rfl
  | s :: r, k, hk => by
    rw [fIx]
    unfold spIn
    rw [show Reg.look (s :: r) x = if s.f ≤ x ∧ x < s.t then some s.v else Reg.look r x from rfl]
    by_cases h : s.f ≤ x ∧ x < s.t
    · rw [if_pos (by simp [hitS, h]), if_pos h]; simp [hk]
    · rw [if_neg (by simp [hitS]; omega), if_neg h, fIx_in x r (k + 1) (by omega)]; rfl
theorem fIx_drop {x : Int} {l : List Sp} {k : Nat} (hk : k < l.length) : fIx (l.drop k) x k = if hitS l[k] x then (k : Int) else fIx (l.drop (k + 1)) x ((k + 1 : Nat) : Int) := by
  rw [List.drop_eq_getElem_cons hk, fIx]; rfl

set_option maxHeartbeats 1000000 in
theorem amongC (f t x : Int) (g : Nat) (w : World) (hg : w.cell? ⟨g, 0, none⟩ = some (.int .i64 x)) :
    Calls Tryz.prog 101 #[.agg #[.int .i64 f, .int .i64 t], .pointer (some ⟨g, 0, none⟩)] w fun e w' => e = .returned (.bool (hitS ⟨f, t, ()⟩ x)) ∧ Below w.heap.size w w' := by
  have hlt := World.block_lt_of_cell? w _ hg
  have hne : ¬ (g = w.heap.size) := by intro h; simp only at hlt; omega
  have hne' : ¬ (w.heap.size = g) := fun h => hne h.symm
  by_cases h : f ≤ x
  · go_enter Tryz.func101, Tryz.ntmps101
    go_wp2
    go_ret
    exact ⟨ret_bool (by simp [hitS, h]), bl_alloc (Below.refl _ _) _⟩
  · have hd : decide (f ≤ x) = false := by simpa using h
    go_enter Tryz.func101, Tryz.ntmps101
    go_wp2
    go_ret
    exact ⟨ret_bool (by simp only [hitS, hd, Bool.false_and]), bl_alloc (Below.refl _ _) _⟩

set_option maxHeartbeats 2000000 in
theorem indexC (A : Option Addr) (c : Nat) (l : List Sp) (x : Int) (g : Nat) (w : World) (hl : l.length ≤ 9223372036854775807) (hg : w.cell? ⟨g, 0, none⟩ = some (.int .i64 x)) (hL : Rds w w.heap.size 2 A l.length (l.flatMap spC)) :
    Calls Tryz.prog 113 #[.slice A l.length c, .func (.func 101) #[] #[.pointer (some ⟨g, 0, none⟩)]] w fun e w' => e = .returned (.int .i64 (fIx l x 0)) ∧ Below w.heap.size w w' := by
  have hlt := World.block_lt_of_cell? w _ hg
  go_enter Tryz.func113, Tryz.ntmps113
  go_wp2_with fail
  go_loopw [8] (fun i wr => ∃ k : Nat, k ≤ l.length ∧ i = .int .i64 k ∧ Hid (fIx l x 0 = fIx (l.drop k) x k) ∧ Below w.heap.size w wr) (fun i _ => l.length - (intOf i).toNat)
  case atStart => exact ⟨0, by omega, rfl, Lib.hid rfl, Below.refl _ _⟩
  case round =>
    obtain ⟨k, hk, rfl, HX, hbr⟩ := hrel
    by_cases hlt' : k < l.length
    · have HD := Lib.hid (fIx_drop (x := x) hlt')
      obtain ⟨ad, rfl, hbl, c0, c1⟩ := Rds.sp (hL.be hbr) hlt'
      have hgr : wr.cell? ⟨g, 0, none⟩ = some (.int .i64 x) := (hbr.cell (p := ⟨g, 0, none⟩) hlt).trans hg
      generalize hs : l[k] = s at *
      have HS := Lib.hid hs
      clear hs
      go_wp2_with fail
      refine (amongC _ _ x g _ hgr).mono ?_
      rintro e w1 ⟨rfl, hb1⟩
      have hb2 := bl_step hbr hb1
      cases hh : hitS s x with
      | true =>
        have HH := Lib.hid hh
        clear hh
        go_wp2_with fail
        go_ret
        exact ⟨ret_int (by rw [HX.out, HD.out]; simp [HH.out]), hb2⟩
      | false =>
        have HH := Lib.hid hh
        clear hh
        go_wp2_with fail
        go_roundw
        case rel => exact ⟨k + 1, by omega, by go_num, Lib.hid (by rw [HX.out, HD.out]; simp [HH.out]), hb2⟩
        case measure => simp [intOf]; omega
    · obtain rfl : k = l.length := by omega
      go_wp2_with fail
      go_ret
      exact ⟨ret_int (by rw [HX.out]; simp [fIx]), hbr⟩

set_option maxHeartbeats 2000000 in
theorem among_any (A : Option Addr) (c : Nat) (l : List Sp) (x : Int) (w : World) (hl : l.length ≤ 9223372036854775807) (hL : Rds w w.heap.size 2 A l.length (l.flatMap spC)) :
    Calls Tryz.prog 97 #[.slice A l.length c, .int .i64 x] w fun e w' => e = .returned (.bool (spIn l x)) ∧ Below w.heap.size w w' := by
  have HI := Lib.hid (fIx_in x l 0 (by omega))
  go_enter Tryz.func97, Tryz.ntmps97
  go_wp2_with fail
  have hc : ∀ (A : Option Addr) (c : Nat) (g : Nat) (W : World), W.cell? ⟨g, 0, none⟩ = some (.int .i64 x) → Rds W W.heap.size 2 A l.length (l.flatMap spC) →
      Calls Tryz.prog 100 #[.slice A l.length c, .func (.func 101) #[] #[.pointer (some ⟨g, 0, none⟩)]] W fun e w' => e = .returned (.bool (spIn l x)) ∧ Below W.heap.size W w' := by
    intro A c g W hg hL
    go_enter Tryz.func100, Tryz.ntmps100
    go_wp2_with fail
    refine (indexC A c l x g W hl hg hL).mono ?_
    rintro e w1 ⟨rfl, hb1⟩
    go_wp2_with fail
    go_ret
    exact ⟨ret_bool HI.out, hb1⟩
  refine (hc A c _ _ (by simp [go_sem]) ((hL.al (Nat.le_refl _) _).more (by simp))).mono ?_
  rintro e w1 ⟨rfl, hb1⟩
  go_wp2_with fail
  go_ret
  exact ⟨rfl, bl_step (bl_alloc (Below.refl _ _) _) hb1⟩
end Go.Proofs.YtjjdgbhplechbaaGreatDoor.Wk
/- The walk of region.edges, and of region.both. -/
namespace Go.Proofs.YtjjdgbhplechbaaGreatDoor.Wk
open Go.RowKit Go.Proofs.YtjjdgbhplechbaaGreatDoor.Kit Go.Proofs.YtjjdgbhplechbaaGreatDoor.Reg Go.Proofs.YtjjdgbhplechbaaGreatDoor.Rect

theorem gb_trans {a b c : World} {row : Option Nat} (h : a.grownBy b row) (k : b.grownBy c row) : a.grownBy c row :=
  ⟨k.os.trans h.os, k.tape.trans h.tape, k.output.trans h.output, Nat.le_trans h.size k.size, fun i hi hne => (k.block i (Nat.lt_of_lt_of_le hi h.size) hne).trans (h.block i hi hne)⟩
abbrev iC (n : Int) : Value := .int .i64 n
/-- What edges hands back: the numbers, sorted, each once; nothing but the row's own block, and what is new, has turned. -/
def EdP (w : World) (v : Value) (zs : List Int) (e : Ending) (w' : World) : Prop :=
  ∃ A c, e = .returned (.slice A (esort zs).length c) ∧ Rds w' w'.heap.size 1 A (esort zs).length ((esort zs).map iC) ∧ w.grownBy w' v.ownBlock
theorem edges_math (zs : List Int) : Lib.compact (zs.mergeSort fun x y => decide (x ≤ y)) = esort zs := compact_sort zs
set_option maxHeartbeats 1000000 in
theorem edges_any (base : Nat) (v : Value) (zs : List Int) (w : World) (hn : zs.length ≤ 1000000000000) (hown : w.ownsRow base 3 1 v zs.length (zs.map iC)) :
    Calls Tryz.prog 90 #[v] w (EdP w v zs) := by
  rcases hown.2 with ⟨rfl, h0⟩ | ⟨g, cap, cur, rfl, hbase, hh, hnc, hcm, hsz, htake⟩
  · obtain rfl : zs = [] := List.length_eq_zero_iff.1 h0
    clear hown h0
    go_enter Tryz.func90, Tryz.ntmps90
    go_wp2_with fail
    refine (Tryz.slices_Sort_int_none none 0 w).mono ?_
    rintro e w1 ⟨rfl, rfl⟩
    go_wp2_with fail
    refine (Tryz.slices_Compact_int_empty none 0 w1).mono ?_
    rintro e w2 ⟨rfl, rfl⟩
    go_wp2_with fail
    go_ret
    exact ⟨none, 0, rfl, Rds.none_, World.grownBy.refl _ _⟩
  · have hlt : g < w.heap.size := (Array.getElem?_eq_some_iff.1 hh).1
    have htake' : cur.toList.take zs.length = zs.map (Value.int .i64) := by simpa using htake
    have hH := holds_of_blockI hh htake'
    clear hown htake htake'
    have S := Tryz.slices_Sort_int g 0 cap zs w hH hlt (by omega)
    have C : ∀ n os, Calls Tryz.prog 96 #[.slice (some ⟨g, 0, none⟩) zs.length cap] (Sort.grow (Sort.putRow (Value.int .i64) (Sort.ahead w n) g 0 (zs.mergeSort fun x y => decide (x ≤ y)).toArray) os) (EdP w (.slice (some ⟨g, 0, none⟩) zs.length cap) zs) := by
      intro n os
      have hl := sort_len zs
      have own1 : (Sort.grow (Sort.putRow (Value.int .i64) (Sort.ahead w n) g 0 (zs.mergeSort fun x y => decide (x ≤ y)).toArray) os).ownsRow base 3 1 (.slice (some ⟨g, 0, none⟩) zs.length cap) zs.length ((zs.mergeSort fun x y => decide (x ≤ y)).map (Value.int .i64)) :=
        ownsRow_sortedI (ss := zs) hl hbase hh hnc hcm hsz
      have g1 : w.grownBy (Sort.grow (Sort.putRow (Value.int .i64) (Sort.ahead w n) g 0 (zs.mergeSort fun x y => decide (x ≤ y)).toArray) os) (some g) := grownBy_sortedI _
      generalize hw1 : Sort.grow (Sort.putRow (Value.int .i64) (Sort.ahead w n) g 0 (zs.mergeSort fun x y => decide (x ≤ y)).toArray) os = w1 at *
      clear hw1
      rcases own1.2 with ⟨h0, _⟩ | ⟨g', cap', cur', hv, _, hh', _, _, hsz', htake'⟩
      · cases h0
      cases hv
      have hH1 : Sort.Holds (Value.int .i64) w1 g 0 (zs.mergeSort fun x y => decide (x ≤ y)).toArray := holds_of_blockI hh' (by rw [hl]; simpa using htake')
      have hc := Tryz.slices_Compact_int g 0 cap (zs.mergeSort fun x y => decide (x ≤ y)) w1 hH1 (by omega) (by omega)
      rw [hl, edges_math] at hc
      refine hc.mono ?_
      rintro e w2 ⟨rfl, q, rfl⟩
      have hle := compact_le (zs.mergeSort fun x y => decide (x ≤ y))
      rw [edges_math, hl] at hle
      have own2 := ownsRow_sortedI (n := q) (os := #[]) (ss := zs) (ts := esort zs ++ List.replicate (zs.length - (esort zs).length) 0) (by simp; omega) hbase hh' hnc hcm hsz'
      rw [Sort.grow_empty] at own2
      refine ⟨_, _, rfl, ?_, ?_⟩
      · have r := Rds.own own2
        refine ⟨by simp, fun h => ?_⟩
        obtain ⟨ad, e, hb, hcell⟩ := r.2 (by omega)
        refine ⟨ad, e, hb, fun j u hu => hcell j u ?_⟩
        rw [List.map_append, List.getElem?_append_left (by have := (List.getElem?_eq_some_iff.1 hu).1; simpa using this)]
        exact hu
      · have g2 : w1.grownBy (Sort.grow (Sort.putRow (Value.int .i64) (Sort.ahead w1 q) g 0 (esort zs ++ List.replicate (zs.length - (esort zs).length) 0).toArray) #[]) (some g) := grownBy_sortedI _
        rw [Sort.grow_empty] at g2
        exact gb_trans g1 g2
    go_enter Tryz.func90, Tryz.ntmps90
    go_wp2_with fail
    refine S.mono ?_
    rintro e w1 ⟨rfl, n, os, rfl⟩
    go_wp2_with fail
    refine (C n os).mono ?_
    rintro e w2 hE
    obtain ⟨A, c, rfl, h1, h2⟩ := hE
    go_wp2_with fail
    go_ret
    exact ⟨A, c, rfl, h1, h2⟩
end Go.Proofs.YtjjdgbhplechbaaGreatDoor.Wk
/- The walk of region.both. -/
namespace Go.Proofs.YtjjdgbhplechbaaGreatDoor.Wk
open Go.RowKit Go.Proofs.YtjjdgbhplechbaaGreatDoor.Kit Go.Proofs.YtjjdgbhplechbaaGreatDoor.Reg Go.Proofs.YtjjdgbhplechbaaGreatDoor.Rect

theorem own_be {w w' : World} {base : Nat} {e : TypeId} {sz : Nat} {v : Value} {n : Nat} {xs : List Value} (h : w.ownsRow base e sz v n xs) (hb : Below w.heap.size w w') : w'.ownsRow base e sz v n xs :=
  h.kept (row := none) ⟨hb.os, hb.tape, hb.output, hb.size, fun i hi _ => hb.block i hi⟩ (by cases v.ownBlock <;> simp)
theorem own_lower {w : World} {base base' : Nat} {e : TypeId} {sz : Nat} {v : Value} {n : Nat} {xs : List Value} (h : w.ownsRow base e sz v n xs) (hb : base' ≤ base) : w.ownsRow base' e sz v n xs := by
  refine ⟨h.1, ?_⟩
  rcases h.2 with h2 | ⟨g, cap, cur, rfl, hg, r⟩
  · exact .inl h2
  · exact .inr ⟨g, cap, cur, rfl, Nat.le_trans hb hg, r⟩

/-! the numbers of lists of spans -/
theorem ends_snoc {α : Type} (l : List (Seg α)) (s : Seg α) : ends (l ++ [s]) = ends l ++ [s.f, s.t] := by simp [ends]
theorem ends_take {α : Type} (l : List (Seg α)) (k : Nat) (h : k < l.length) : ends (l.take (k + 1)) = ends (l.take k) ++ [l[k].f, l[k].t] := by
  rw [List.take_succ_eq_append_getElem h, ends_snoc]
theorem ends_len {α : Type} : ∀ l : List (Seg α), (ends l).length = 2 * l.length
  | [] => rfl
  | s :: r => by have := ends_len r; simp only [ends, List.flatMap_cons, List.length_append, List.length_cons, List.length_nil] at this ⊢; omega

/-! what is put together, step by step -/
theorem gaps_len' : ∀ es : List Int, (gaps es).length = es.length - 1
  | [] => rfl
  | [_] => rfl
  | _ :: b :: r => by have := gaps_len' (b :: r); simp only [gaps, List.length_cons] at this ⊢; omega
theorem gaps_get : ∀ (es : List Int) (k : Nat) (h : k < (gaps es).length), (gaps es)[k] = (es[k]'(by have := gaps_len' es; omega), es[k + 1]'(by have := gaps_len' es; omega))
  | a :: b :: r, 0, h => rfl
  | a :: b :: r, k + 1, h => by
    have := gaps_get (b :: r) k (by simpa [gaps] using h)
    simpa [gaps] using this
def accK {α : Type} [DecidableEq α] (g : Int → Option α) (es : List Int) (k : Nat) : List (Seg α) := (((gaps es).take k).filterMap fun p => (g p.1).map fun v => ⟨p.1, p.2, v⟩).foldl push1 []
theorem accK_all {α : Type} [DecidableEq α] (g : Int → Option α) (es : List Int) : accK g es (gaps es).length = mrg (cut g es) := by
  unfold accK mrg cut; rw [List.take_length]
theorem accK_succ {α : Type} [DecidableEq α] (g : Int → Option α) (es : List Int) (k : Nat) (h : k < (gaps es).length) :
    accK g es (k + 1) = match g (gaps es)[k].1 with | none => accK g es k | some v => push1 (accK g es k) ⟨(gaps es)[k].1, (gaps es)[k].2, v⟩ := by
  unfold accK
  rw [List.take_succ_eq_append_getElem h, List.filterMap_append, List.foldl_append]
  cases hg : g (gaps es)[k].1 <;> simp [List.filterMap_cons, hg]
theorem accK_len {α : Type} [DecidableEq α] (g : Int → Option α) (es : List Int) : ∀ k, k ≤ (gaps es).length → (accK g es k).length ≤ k
  | 0, _ => by simp [accK]
  | k + 1, h => by
    have ih := accK_len g es k (by omega)
    rw [accK_succ g es k (by omega)]
    cases g (gaps es)[k].1 with
    | none => simp only; omega
    | some v =>
      simp only
      unfold push1
      split
      · split
        · rename_i b hb _
          have : (accK g es k) ≠ [] := by intro h0; rw [h0] at hb; cases hb
          have := List.length_pos_iff.2 this
          simp only [List.length_append, List.length_dropLast, List.length_singleton]; omega
        · simp only [List.length_append, List.length_singleton]; omega
      · simp only [List.length_append, List.length_singleton]; omega

/-- What both hands back. -/
def BoP (w : World) (l : List Sp) (e : Ending) (w' : World) : Prop := ∃ v, e = .returned v ∧ w'.ownsRow w.heap.size 135 2 v l.length (l.flatMap spC) ∧ Below w.heap.size w w'
theorem infoI : (Tryz.prog.info? 3).map (fun i => (i.zero, i.size, i.bytes)) = some (some (.int .i64 0), 1, 8) := by kernel_rfl
theorem infoS : (Tryz.prog.info? 135).map (fun i => (i.zero, i.size, i.bytes)) = some (some (.agg #[.int .i64 0, .int .i64 0]), 2, 16) := by kernel_rfl
end Go.Proofs.YtjjdgbhplechbaaGreatDoor.Wk
