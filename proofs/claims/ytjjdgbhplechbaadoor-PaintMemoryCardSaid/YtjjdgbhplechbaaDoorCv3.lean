/- Searching a list of rectangles. -/
import Derived.Test.YtjjdgbhplechbaaDoorCv2
import Derived.Deep.RegionHeld3
import Derived.Deep.DeepCutAuto
import Derived.Deep.QuietTactic
import Derived.BigQuiet
set_option linter.unusedVariables false
set_option linter.unusedSimpArgs false
namespace Go.Proofs.YtjjdgbhplechbaaDoor.Cv
open Go.RowKit Go.Proofs.YtjjdgbhplechbaaDoor.Kit Go.Proofs.YtjjdgbhplechbaaDoor.Rect
attribute [local go_sem high] rEq

def rC (r : R) : List Value := [.int .i64 r.x, .int .i64 r.y, .int .i64 r.w, .int .i64 r.h]
theorem rC_len (r : R) : (rC r).length = 4 := rfl
theorem rC_one (l : List R) : ∀ u ∈ l.flatMap rC, u.oneCell' = true := by
  intro u hu
  obtain ⟨a, _, ha⟩ := List.mem_flatMap.1 hu
  simp only [rC, List.mem_cons, List.not_mem_nil, or_false] at ha
  rcases ha with rfl | rfl | rfl | rfl <;> rfl
theorem own_be {w w' : World} {base : Nat} {e : TypeId} {sz : Nat} {v : Value} {n : Nat} {xs : List Value} (h : w.ownsRow base e sz v n xs) (hb : Below w.heap.size w w') : w'.ownsRow base e sz v n xs :=
  h.kept (row := none) ⟨hb.os, hb.tape, hb.output, hb.size, fun i hi _ => hb.block i hi⟩ (by cases v.ownBlock <;> simp)
section
variable {w : World} {B : Nat} {A : Option Addr}
theorem Rds.rc {l : List R} (h : Rds w B 4 A l.length (l.flatMap rC)) {i : Nat} (hi : i < l.length) :
    ∃ ad, A = some ad ∧ ad.block < B ∧ w.cell? (ad.add (i * 4)) = some (.int .i64 l[i].x) ∧ w.cell? ⟨(ad.add (i * 4)).block, (ad.add (i * 4)).off + 1, none⟩ = some (.int .i64 l[i].y) ∧
      w.cell? ⟨(ad.add (i * 4)).block, (ad.add (i * 4)).off + 2, none⟩ = some (.int .i64 l[i].w) ∧ w.cell? ⟨(ad.add (i * 4)).block, (ad.add (i * 4)).off + 3, none⟩ = some (.int .i64 l[i].h) := by
  obtain ⟨ad, e, hb, hc⟩ := Rds.elem rC 4 rC_len h hi
  exact ⟨ad, e, hb, hc 0 _ (by omega) rfl, by rw [add_at ad (i * 4) 0]; exact hc 1 _ (by omega) rfl, by rw [add_at ad (i * 4) 1]; exact hc 2 _ (by omega) rfl, by rw [add_at ad (i * 4) 2]; exact hc 3 _ (by omega) rfl⟩
end
def fI (p : R → Bool) : List R → Int → Int
  | [], _ => -1
  | s :: r, k => if p s then k else fI p r (k + 1)
theorem fI_in (p : R → Bool) : ∀ (l : List R) (k : Int), 0 ≤ k → decide (0 ≤ fI p l k) = l.any p
  | [], k, _ => rfl
  | s :: r, k, hk => by
    rw [fI, List.any_cons]
    cases h : p s with
    | true => simp [hk]
    | false => simp only [Bool.false_eq_true, if_false, Bool.false_or]; exact fI_in p r (k + 1) (by omega)
theorem fI_drop {p : R → Bool} {l : List R} {k : Nat} (hk : k < l.length) : fI p (l.drop k) k = if p l[k] then (k : Int) else fI p (l.drop (k + 1)) ((k + 1 : Nat) : Int) := by
  rw [List.drop_eq_getElem_cons hk, fI]; rfl

set_option maxHeartbeats 2000000 in
theorem eachC (r : R) (gx gy : Nat) (x y : Int) (w : World) (hr : I64 r) (hx : -9223372036854775808 ≤ x ∧ x ≤ 9223372036854775807) (hy : -9223372036854775808 ≤ y ∧ y ≤ 9223372036854775807) (h1 : w.cell? ⟨gx, 0, none⟩ = some (.int .i64 x)) (h2 : w.cell? ⟨gy, 0, none⟩ = some (.int .i64 y)) :
    Calls Tryd.prog 77 #[.agg #[.int .i64 r.x, .int .i64 r.y, .int .i64 r.w, .int .i64 r.h], .pointer (some ⟨gx, 0, none⟩), .pointer (some ⟨gy, 0, none⟩)] w fun e w' => e = .returned (.bool (rHas r x y)) ∧ Below w.heap.size w w' := by
  have l1 := World.block_lt_of_cell? w _ h1
  have l2 := World.block_lt_of_cell? w _ h2
  simp only at l1 l2
  have n1 : ¬ (gx = w.heap.size) := by omega
  have n1' : ¬ (w.heap.size = gx) := by omega
  have n2 : ¬ (gy = w.heap.size) := by omega
  have n2' : ¬ (w.heap.size = gy) := by omega
  have hr := Lib.hid hr
  have hx := Lib.hid hx
  have hy := Lib.hid hy
  go_enter Tryd.func77, Tryd.ntmps77
  go_wp2_with fail
  refine (Has_any r.x r.y r.w r.h x y _ hr.out hx.out hy.out).mono ?_
  rintro e w1 ⟨rfl, hb1⟩
  go_wp2_with fail
  go_ret
  exact ⟨rfl, bl_step (bl_alloc (Below.refl _ _) _) hb1⟩

set_option maxHeartbeats 2000000 in
theorem indexF (A : Option Addr) (c : Nat) (l : List R) (gx gy : Nat) (x y : Int) (w : World) (hl : l.length ≤ 9223372036854775807) (h64 : ∀ r ∈ l, I64 r) (hx : -9223372036854775808 ≤ x ∧ x ≤ 9223372036854775807) (hy : -9223372036854775808 ≤ y ∧ y ≤ 9223372036854775807) (h1 : w.cell? ⟨gx, 0, none⟩ = some (.int .i64 x)) (h2 : w.cell? ⟨gy, 0, none⟩ = some (.int .i64 y)) (hL : Rds w w.heap.size 4 A l.length (l.flatMap rC)) :
    Calls Tryd.prog 94 #[.slice A l.length c, .func (.func 77) #[] #[.pointer (some ⟨gx, 0, none⟩), .pointer (some ⟨gy, 0, none⟩)]] w fun e w' => e = .returned (.int .i64 (fI (fun r => rHas r x y) l 0)) ∧ Below w.heap.size w w' := by
  have l1 := World.block_lt_of_cell? w _ h1
  have l2 := World.block_lt_of_cell? w _ h2
  have hx := Lib.hid hx
  have hy := Lib.hid hy
  have h64 := Lib.hid h64
  go_enter Tryd.func94, Tryd.ntmps94
  go_wp2_with fail
  go_loopw [8] (fun i wr => ∃ k : Nat, k ≤ l.length ∧ i = .int .i64 k ∧ Hid (fI (fun r => rHas r x y) l 0 = fI (fun r => rHas r x y) (l.drop k) k) ∧ Below w.heap.size w wr) (fun i _ => l.length - (intOf i).toNat)
  case atStart => exact ⟨0, by omega, rfl, Lib.hid rfl, Below.refl _ _⟩
  case round =>
    obtain ⟨k, hk, rfl, HX, hbr⟩ := hrel
    by_cases hlt' : k < l.length
    · have HD := Lib.hid (fI_drop (p := fun r => rHas r x y) hlt')
      obtain ⟨ad, rfl, hbl, c0, c1, c2, c3⟩ := Rds.rc (hL.be hbr) hlt'
      have g1 : wr.cell? ⟨gx, 0, none⟩ = some (.int .i64 x) := (hbr.cell (p := ⟨gx, 0, none⟩) l1).trans h1
      have g2 : wr.cell? ⟨gy, 0, none⟩ = some (.int .i64 y) := (hbr.cell (p := ⟨gy, 0, none⟩) l2).trans h2
      have h6 := Lib.hid (h64.out l[k] (List.getElem_mem hlt'))
      generalize hs : l[k] = s at *
      have HS := Lib.hid hs
      clear hs
      go_wp2_with fail
      refine (eachC s gx gy x y _ h6.out hx.out hy.out g1 g2).mono ?_
      rintro e w1 ⟨rfl, hb1⟩
      have hb2 := bl_step hbr hb1
      cases hh : rHas s x y with
      | true =>
        have HH := Lib.hid hh
        clear hh
        go_wp2_with fail
        go_ret
        exact ⟨ret_int (by rw [HX.out, HD.out]; simp [HH.out]), hb2⟩
      | false =>
        have HH := Lib.hid hh
        clear hh
        go_wp2_with fail
        go_roundw
        case rel => exact ⟨k + 1, by omega, by go_num, Lib.hid (by rw [HX.out, HD.out]; simp [HH.out]), hb2⟩
        case measure => simp [intOf]; omega
    · obtain rfl : k = l.length := by omega
      go_wp2_with fail
      go_ret
      exact ⟨ret_int (by rw [HX.out]; simp [fI]), hbr⟩
theorem contF (A : Option Addr) (c : Nat) (l : List R) (gx gy : Nat) (x y : Int) (w : World) (hl : l.length ≤ 9223372036854775807) (h64 : ∀ r ∈ l, I64 r) (hx : -9223372036854775808 ≤ x ∧ x ≤ 9223372036854775807) (hy : -9223372036854775808 ≤ y ∧ y ≤ 9223372036854775807) (h1 : w.cell? ⟨gx, 0, none⟩ = some (.int .i64 x)) (h2 : w.cell? ⟨gy, 0, none⟩ = some (.int .i64 y)) (hL : Rds w w.heap.size 4 A l.length (l.flatMap rC)) :
    Calls Tryd.prog 76 #[.slice A l.length c, .func (.func 77) #[] #[.pointer (some ⟨gx, 0, none⟩), .pointer (some ⟨gy, 0, none⟩)]] w fun e w' => e = .returned (.bool (l.any fun r => rHas r x y)) ∧ Below w.heap.size w w' := by
  have HI := Lib.hid (fI_in (fun r => rHas r x y) l 0 (by omega))
  go_enter Tryd.func76, Tryd.ntmps76
  go_wp2_with fail
  refine (indexF A c l gx gy x y w hl h64 hx hy h1 h2 hL).mono ?_
  rintro e w1 ⟨rfl, hb1⟩
  go_wp2_with fail
  go_ret
  exact ⟨ret_bool HI.out, hb1⟩
set_option maxHeartbeats 2000000 in
theorem indexR (A : Option Addr) (c : Nat) (l : List R) (v : R) (w : World) (hl : l.length ≤ 9223372036854775807) (hL : Rds w w.heap.size 4 A l.length (l.flatMap rC)) :
    Calls Tryd.prog 93 #[.slice A l.length c, .agg #[.int .i64 v.x, .int .i64 v.y, .int .i64 v.w, .int .i64 v.h]] w fun e w' => e = .returned (.int .i64 (fI (fun r => eqR v r) l 0)) ∧ Below w.heap.size w w' := by
  go_enter Tryd.func93, Tryd.ntmps93
  go_wp2_with fail
  generalize hwv : w.alloc _ = w0
  have B0 : Bk w0 w.heap.size 32 #[.int .i64 v.x, .int .i64 v.y, .int .i64 v.w, .int .i64 v.h] := hwv ▸ Bk.new _ _ _
  have hb0 : Below w.heap.size w w0 := hwv ▸ bl_alloc (Below.refl _ _) _
  have hL0 := (hL.be hb0).more hb0.size
  clear hwv
  go_loopw [8] (fun i wr => ∃ k : Nat, k ≤ l.length ∧ i = .int .i64 k ∧ Hid (fI (fun r => eqR v r) l 0 = fI (fun r => eqR v r) (l.drop k) k) ∧ Below w0.heap.size w0 wr) (fun i _ => l.length - (intOf i).toNat)
  case atStart => exact ⟨0, by omega, rfl, Lib.hid rfl, Below.refl _ _⟩
  case round =>
    obtain ⟨k, hk, rfl, HX, hbr⟩ := hrel
    by_cases hlt' : k < l.length
    · have HD := Lib.hid (fI_drop (p := fun r => eqR v r) hlt')
      obtain ⟨ad, rfl, hbl, c0, c1, c2, c3⟩ := Rds.rc (hL0.be hbr) hlt'
      obtain ⟨b0, b1, b2, b3⟩ := (B0.be hbr).c4
      have i0 : (0 : Int) ≤ (k : Int) := by omega
      have i1 : (k : Int) < (l.length : Int) := by omega
      generalize hs : l[k] = s at *
      have HS := Lib.hid hs
      clear hs
      cases hh : eqR v s with
      | true =>
        have HH := Lib.hid hh
        have hh2 : eqR ⟨v.x, v.y, v.w, v.h⟩ ⟨s.x, s.y, s.w, s.h⟩ = true := hh
        clear hh
        go_wp2_with fail
        go_quiet (fail)
        go_wp2_with fail
        go_ret
        exact ⟨ret_int (by rw [HX.out, HD.out]; simp [HH.out]), bl_step hb0 (bl_drewN hbr _)⟩
      | false =>
        have HH := Lib.hid hh
        have hh2 : eqR ⟨v.x, v.y, v.w, v.h⟩ ⟨s.x, s.y, s.w, s.h⟩ = false := hh
        clear hh
        go_wp2_with fail
        go_quiet (fail)
        go_wp2_with fail
        go_roundw
        case rel => exact ⟨k + 1, by omega, by go_num, Lib.hid (by rw [HX.out, HD.out]; simp [HH.out]), bl_drewN hbr _⟩
        case measure => simp [intOf]; omega
    · obtain rfl : k = l.length := by omega
      go_wp2_with fail
      go_ret
      exact ⟨ret_int (by rw [HX.out]; simp [fI]), bl_step hb0 hbr⟩
theorem contR (A : Option Addr) (c : Nat) (l : List R) (v : R) (w : World) (hl : l.length ≤ 9223372036854775807) (hL : Rds w w.heap.size 4 A l.length (l.flatMap rC)) :
    Calls Tryd.prog 75 #[.slice A l.length c, .agg #[.int .i64 v.x, .int .i64 v.y, .int .i64 v.w, .int .i64 v.h]] w fun e w' => e = .returned (.bool (l.any fun r => eqR v r)) ∧ Below w.heap.size w w' := by
  have HI := Lib.hid (fI_in (fun r => eqR v r) l 0 (by omega))
  go_enter Tryd.func75, Tryd.ntmps75
  go_wp2_with fail
  refine (indexR A c l v _ hl ((hL.al (Nat.le_refl _) _).more (by simp))).mono ?_
  rintro e w1 ⟨rfl, hb1⟩
  go_wp2_with fail
  go_ret
  exact ⟨ret_bool HI.out, bl_step (bl_alloc (Below.refl _ _) _) hb1⟩
end Go.Proofs.YtjjdgbhplechbaaDoor.Cv
