/- The walks of slices.Equal at spans, region.row. -/
import Derived.Test.YtjjdgbhplechbaaGreatDoorRg4
import Derived.Laws.StructEq
set_option linter.unusedVariables false
set_option linter.unusedSimpArgs false
namespace Go.Proofs.YtjjdgbhplechbaaGreatDoor.Wk
open Go.RowKit Go.Proofs.YtjjdgbhplechbaaGreatDoor.Kit Go.Proofs.YtjjdgbhplechbaaGreatDoor.Reg Go.Proofs.YtjjdgbhplechbaaGreatDoor.Rect

/-- A slice of spans that reads as a list. -/
def SpR (w : World) (v : Value) (l : List Sp) : Prop := ∃ A c, v = .slice A l.length c ∧ Rds w w.heap.size 2 A l.length (l.flatMap spC)
theorem SpR.be {w w' : World} {v : Value} {l : List Sp} (h : SpR w v l) (hb : Below w.heap.size w w') : SpR w' v l := by
  obtain ⟨A, c, rfl, h⟩ := h
  exact ⟨A, c, rfl, (h.be hb).more hb.size⟩
theorem SpR.nil (w : World) : SpR w (.slice none 0 0) [] := ⟨none, 0, rfl, Rds.none_⟩
theorem SpR.own {w : World} {base : Nat} {v : Value} {l : List Sp} (h : w.ownsRow base 135 2 v l.length (l.flatMap spC)) : SpR w v l := by
  obtain ⟨A, c, rfl, _⟩ := own_form h
  exact ⟨A, c, rfl, Rds.own h⟩
/-- a band, and the value of its spans -/
def bdP (p : Bd × Value) : List Value := [iC p.1.f, iC p.1.t, p.2]
theorem bdP_len (p : Bd × Value) : (bdP p).length = 3 := rfl
def BdR (w : World) (A : Option Addr) (P : List (Bd × Value)) : Prop := Rds w w.heap.size 3 A P.length (P.flatMap bdP) ∧ ∀ p ∈ P, SpR w p.2 p.1.v
theorem BdR.be {w w' : World} {A : Option Addr} {P : List (Bd × Value)} (h : BdR w A P) (hb : Below w.heap.size w w') : BdR w' A P := ⟨(h.1.be hb).more hb.size, fun p hp => (h.2 p hp).be hb⟩
theorem BdR.at_ {w : World} {B : Nat} {A : Option Addr} {l : List (Bd × Value)} (h : Rds w B 3 A l.length (l.flatMap bdP)) {i : Nat} (hi : i < l.length) :
    ∃ ad, A = some ad ∧ ad.block < B ∧ w.cell? (ad.add (i * 3)) = some (iC l[i].1.f) ∧ w.cell? ⟨(ad.add (i * 3)).block, (ad.add (i * 3)).off + 1, none⟩ = some (iC l[i].1.t) ∧ w.cell? ⟨(ad.add (i * 3)).block, (ad.add (i * 3)).off + 2, none⟩ = some l[i].2 := by
  obtain ⟨ad, e, hb, hc⟩ := Rds.elem bdP 3 bdP_len h hi
  exact ⟨ad, e, hb, hc 0 _ (by omega) rfl, by rw [add_at ad (i * 3) 0]; exact hc 1 _ (by omega) rfl, by rw [add_at ad (i * 3) 1]; exact hc 2 _ (by omega) rfl⟩

set_option maxHeartbeats 1000000 in
theorem eqS (d : Nat) (w : World) (x0 x1 y0 y1 : Int) :
    (Op.equalIn (d + 2) 135 (.agg #[.int .i64 x0, .int .i64 x1]) (.agg #[.int .i64 y0, .int .i64 y1])).run Tryz.prog w = .ok (x0 == y0 && x1 == y1) w := by
  have hu := Tryz.underlying135
  have h3 := Tryz.underlying3
  have hp : Tryz.prog.stoodInHeld 135 = false := by kernel_rfl
  rw [run_equalIn_struct w (d + 1) 135 _ _ (by simp only [Program.fieldsOf, hu]) hp]
  by_cases c0 : x0 = y0 <;> by_cases c1 : x1 = y1
  all_goals (go_simp; try simp [c0, c1])
attribute [local go_sem high] eqS
theorem eq_step {la lb : List Sp} (hl : la.length = lb.length) {k : Nat} (hk : k < la.length) (h : la.take k = lb.take k) : (la.take (k + 1) = lb.take (k + 1)) ↔ la[k] = lb[k]'(by omega) := by
  rw [List.take_succ_eq_append_getElem hk, List.take_succ_eq_append_getElem (l := lb) (by omega), h, List.append_cancel_left_eq]
  simp
theorem sp_ext (a b : Sp) : a = b ↔ a.f = b.f ∧ a.t = b.t := by cases a; cases b; simp
set_option maxHeartbeats 2000000 in
theorem spEq_any (A B : Option Addr) (c d : Nat) (la lb : List Sp) (w : World) (na : la.length ≤ 1000000000000) (nb : lb.length ≤ 1000000000000) (hA : Rds w w.heap.size 2 A la.length (la.flatMap spC)) (hB : Rds w w.heap.size 2 B lb.length (lb.flatMap spC)) :
    Calls Tryz.prog 94 #[.slice A la.length c, .slice B lb.length d] w fun e w' => e = .returned (.bool (decide (la = lb))) ∧ Below w.heap.size w w' := by
  by_cases hl : la.length = lb.length
  · have hn : (((la.length : Nat) : Int) != ((lb.length : Nat) : Int)) = false := by simp [hl]
    have HL := Lib.hid hl
    clear hl
    go_enter Tryz.func94, Tryz.ntmps94
    go_wp2_with fail
    go_loopw [13] (fun i wr => ∃ k : Nat, k ≤ la.length ∧ i = .int .i64 k ∧ Hid (la.take k = lb.take k) ∧ Below w.heap.size w wr) (fun i _ => la.length - (intOf i).toNat)
    case atStart => exact ⟨0, by omega, rfl, Lib.hid rfl, Below.refl _ _⟩
    case round =>
      obtain ⟨k, hk, rfl, HE, hbr⟩ := hrel
      by_cases hlt : k < la.length
      · have hlt' : k < lb.length := by have := HL.out; omega
        obtain ⟨ad, rfl, hbl, c0, c1⟩ := Rds.sp (hA.be hbr) hlt
        obtain ⟨bd, rfl, hbl2, d0, d1⟩ := Rds.sp (hB.be hbr) hlt'
        have i0 : (0 : Int) ≤ (k : Int) := by omega
        have i1 : (k : Int) < (la.length : Int) := by omega
        have i2 : (k : Int) < (lb.length : Int) := by omega
        have HS := Lib.hid (eq_step HL.out hlt HE.out)
        generalize la[k] = a at *
        generalize lb[k]'(by omega) = b at *
        by_cases hab : a = b
        · have HA := Lib.hid hab
          have e0 : (a.f == b.f) = true := by simp [hab]
          have e1 : (a.t == b.t) = true := by simp [hab]
          clear hab
          go_wp2_with fail
          go_quiet (fail)
          go_wp2_with fail
          go_roundw
          case rel => exact ⟨k + 1, by omega, by go_num, Lib.hid (HS.out.2 HA.out), bl_drewN hbr _⟩
          case measure => simp [intOf]; omega
        · have HA := Lib.hid hab
          have e0 : (a.f == b.f && a.t == b.t) = false := by
            rw [Bool.eq_false_iff]
            intro h
            simp only [Bool.and_eq_true, beq_iff_eq] at h
            exact hab ((sp_ext a b).2 h)
          clear hab
          go_wp2_with fail
          go_quiet (fail)
          go_wp2_with fail
          go_ret
          refine ⟨ret_bool ?_, bl_drewN hbr _⟩
          symm
          rw [decide_eq_false_iff_not]
          intro h
          exact HA.out (HS.out.1 (by rw [h]))
      · obtain rfl : k = la.length := by omega
        go_wp2_with fail
        go_ret
        refine ⟨ret_bool ?_, hbr⟩
        symm
        rw [decide_eq_true_eq]
        have := HE.out
        rw [List.take_length] at this
        rw [this, HL.out, List.take_length]
  · have hn : (((la.length : Nat) : Int) != ((lb.length : Nat) : Int)) = true := by
      rw [bne_iff_ne]; omega
    have HL := Lib.hid hl
    clear hl
    go_enter Tryz.func94, Tryz.ntmps94
    go_wp2_with fail
    go_ret
    refine ⟨ret_bool ?_, Below.refl _ _⟩
    symm
    rw [decide_eq_false_iff_not]
    intro h
    exact HL.out (by rw [h])

/-! a row's spans -/
def findB (P : List (Bd × Value)) (y : Int) : Value := match P.find? fun p => decide (p.1.f ≤ y) && decide (y < p.1.t) with | some p => p.2 | none => .slice none 0 0
theorem findB_row {w : World} {P : List (Bd × Value)} (h : ∀ p ∈ P, SpR w p.2 p.1.v) (y : Int) : SpR w (findB P y) (rowB (P.map (·.1)) y) := by
  induction P with
  | nil => exact SpR.nil w
  | cons p P ih =>
    unfold findB rowB
    rw [List.find?_cons, List.map_cons, show Reg.look (p.1 :: P.map (·.1)) y = if p.1.f ≤ y ∧ y < p.1.t then some p.1.v else Reg.look (P.map (·.1)) y from rfl]
    by_cases hc : p.1.f ≤ y ∧ y < p.1.t
    · simp only [hc, decide_true, Bool.and_self, and_self, if_true, Option.getD_some]
      exact h p (by simp)
    · have hd : (decide (p.1.f ≤ y) && decide (y < p.1.t)) = false := by
        rw [Bool.eq_false_iff]; simp only [ne_eq, Bool.and_eq_true, decide_eq_true_eq]; exact hc
      rw [hd, if_neg hc]
      exact ih fun q hq => h q (by simp [hq])
set_option maxHeartbeats 4000000 in
theorem row_any (A : Option Addr) (c : Nat) (P : List (Bd × Value)) (y : Int) (w : World) (hn : P.length ≤ 1000000000000) (hA : Rds w w.heap.size 3 A P.length (P.flatMap bdP)) (hS : ∀ p ∈ P, SpR w p.2 p.1.v) :
    Calls Tryz.prog 92 #[.slice A P.length c, .int .i64 y] w fun e w' => e = .returned (findB P y) ∧ Below w.heap.size w w' := by
  go_enter Tryz.func92, Tryz.ntmps92
  go_wp2_with fail
  go_loopw [9] (fun i wr => ∃ k : Nat, k ≤ P.length ∧ i = .int .i64 k ∧ Hid (findB P y = findB (P.drop k) y) ∧ Below w.heap.size w wr) (fun i _ => P.length - (intOf i).toNat)
  case atStart => exact ⟨0, by omega, rfl, Lib.hid rfl, Below.refl _ _⟩
  case round =>
    obtain ⟨k, hk, rfl, HX, hbr⟩ := hrel
    by_cases hlt : k < P.length
    · obtain ⟨ad, rfl, hbl, c0, c1, c2⟩ := BdR.at_ (hA.be hbr) hlt
      have hd : findB (P.drop k) y = if P[k].1.f ≤ y ∧ y < P[k].1.t then P[k].2 else findB (P.drop (k + 1)) y := by
        rw [List.drop_eq_getElem_cons hlt]
        unfold findB
        rw [List.find?_cons]
        by_cases hc : P[k].1.f ≤ y ∧ y < P[k].1.t
        · simp only [hc, decide_true, Bool.and_self, and_self, if_true]
        · have hd : (decide (P[k].1.f ≤ y) && decide (y < P[k].1.t)) = false := by
            rw [Bool.eq_false_iff]; simp only [ne_eq, Bool.and_eq_true, decide_eq_true_eq]; exact hc
          rw [hd, if_neg hc]
      have HD := Lib.hid hd
      clear hd
      obtain ⟨A', c', hv, _⟩ := hS P[k] (List.getElem_mem hlt)
      generalize P[k] = p at *
      obtain ⟨⟨pf, pt, pv⟩, v⟩ := p
      simp only at c0 c1 c2 HD hv
      subst hv
      by_cases h0 : pf ≤ y
      · by_cases h1 : y < pt
        · have HH := Lib.hid (And.intro h0 h1)
          go_wp2_with fail
          go_ret
          exact ⟨by rw [HX.out, HD.out, if_pos HH.out]; rfl, bl_alloc hbr _⟩
        · have HH := Lib.hid h1
          go_wp2_with fail
          go_roundw
          case rel => exact ⟨k + 1, by omega, by go_num, Lib.hid (by rw [HX.out, HD.out, if_neg fun h => HH.out h.2]), bl_alloc hbr _⟩
          case measure => simp [intOf]; omega
      · have hd : decide (pf ≤ y) = false := by simpa using h0
        have HH := Lib.hid h0
        clear h0
        go_wp2_with fail
        go_roundw
        case rel => exact ⟨k + 1, by omega, by go_num, Lib.hid (by rw [HX.out, HD.out, if_neg fun h => HH.out h.1]), bl_alloc hbr _⟩
        case measure => simp [intOf]; omega
    · obtain rfl : k = P.length := by omega
      go_wp2_with fail
      go_ret
      exact ⟨by rw [HX.out, List.drop_length]; rfl, hbr⟩
end Go.Proofs.YtjjdgbhplechbaaGreatDoor.Wk
