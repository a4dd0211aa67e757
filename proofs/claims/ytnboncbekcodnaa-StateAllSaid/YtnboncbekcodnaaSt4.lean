/- The walks: places; puts. -/
import Derived.Test.YtnboncbekcodnaaSt3
set_option linter.unusedVariables false
set_option linter.unusedSimpArgs false
namespace Go.Proofs.Ytnboncbekcodnaa.St
open Go.RowKit Go.Proofs.Ytnboncbekcodnaa.Kit

theorem own_low {w : World} {b b' : Nat} {e : TypeId} {sz : Nat} {v : Value} {n : Nat} {xs : List Value} (h : w.ownsRow b e sz v n xs) (hb : b' ≤ b) : w.ownsRow b' e sz v n xs :=
  ⟨h.1, h.2.imp id fun ⟨g', cap', cur, h1, h2, h3⟩ => ⟨g', cap', cur, h1, by omega, h3⟩⟩

theorem foldl_take (l m : List Ch) (k : Nat) (hk : k < m.length) : (m.take (k + 1)).foldl putC l = putC ((m.take k).foldl putC l) m[k] := by
  rw [List.take_succ_eq_append_getElem hk, List.foldl_append]; rfl
theorem foldl_len (l m : List Ch) : (m.foldl putC l).length ≤ l.length + m.length := by
  induction m generalizing l with
  | nil => simp
  | cons a m ih => have := ih (putC l a); have := (put_len l a).2; simp only [List.foldl_cons, List.length_cons]; omega

set_option maxHeartbeats 8000000 in
theorem places_any (A B : Option Addr) (c cb : Nat) (l m : List Ch) (w : World) (hl : l.length ≤ 1000) (hm : m.length ≤ 1000) (hr : Rds w w.heap.size 3 A l.length (l.flatMap chC)) (hrm : Rds w w.heap.size 3 B m.length (m.flatMap chC)) :
    Calls Try.prog 29 #[.slice A l.length c, .slice B m.length cb] w fun e w' => ∃ A' c', e = .returned (.slice A' (m.foldl putC l).length c') ∧
      w'.ownsRow w.heap.size 24 3 (.slice A' (m.foldl putC l).length c') (m.foldl putC l).length ((m.foldl putC l).flatMap chC) ∧ Below w.heap.size w w' := by
  go_enter Try.func29, Try.ntmps29
  go_wp2_with fail
  generalize hwv : w.alloc _ = wv
  have Bs : Bk wv w.heap.size 22 #[.slice A l.length c] := by rw [← hwv]; exact Bk.new _ _ _
  have hbv : Below w.heap.size w wv := by rw [← hwv]; exact bl_alloc (Below.refl _ _) _
  clear hwv
  refine (allChild (some ⟨w.heap.size, 0, none⟩) 1 [⟨A, l.length, c, l.flatMap chC⟩] _ (Rds.block Bs rfl Bs.lt) (by intro p hp; simp at hp; subst hp; exact (hr.be hbv).more hbv.size) (by intro p hp; simp at hp; subst hp; exact chC_one l) (by simp) (by simp [total]; omega)).mono ?_
  rintro e w1 ⟨v1, rfl, hown, hb1⟩
  have hown1 : w1.ownsRow w.heap.size 24 3 v1 l.length (l.flatMap chC) := own_low (by simpa [total, cat] using hown) hbv.size
  clear hown
  obtain ⟨A1, c1, rfl, hform⟩ := own_form hown1
  have hbw : Below w.heap.size w w1 := bl_step hbv hb1
  clear Bs hb1 hbv hr hform
  go_wp2_with fail
  go_loopw [5, 7, 13] (fun s p j wr => ∃ k A2 c2, k ≤ m.length ∧ j = .int .i64 (k : Nat) ∧ s = .slice A2 ((m.take k).foldl putC l).length c2 ∧ wr.ownsRow w.heap.size 24 3 (.slice A2 ((m.take k).foldl putC l).length c2) ((m.take k).foldl putC l).length (((m.take k).foldl putC l).flatMap chC) ∧ Below w.heap.size w wr) (fun _ _ j _ => m.length - (intOf j).toNat)
  case atStart => exact ⟨0, A1, c1, by omega, rfl, rfl, hown1, hbw⟩
  case round =>
    obtain ⟨k, A2, c2, hk, rfl, rfl, hown, hbr⟩ := hrel
    have hln := foldl_len l (m.take k)
    have hlt' : (m.take k).length ≤ m.length := by simp; omega
    by_cases hlt : k < m.length
    · obtain ⟨ad, rfl, hbl, c0, c1, c2⟩ := at3 (hrm.be hbr) hlt
      have HT := Lib.hid (foldl_take l m k hlt)
      generalize hL : (m.take k).foldl putC l = L at *
      go_wp2_with fail
      refine (put_any A2 _ L m[k] _ (by omega) ((Rds.own hown).al (Nat.le_refl _) _ |>.more (by simp))).mono ?_
      rintro e w2 ⟨A3, c3, rfl, hown2, hb2⟩
      have hown3 := own_low hown2 (by have := hbr.size; simp; omega : w.heap.size ≤ _)
      have hb3 : Below w.heap.size w w2 := bl_step (bl_alloc hbr _) hb2
      go_wp2_with fail
      go_roundw
      case rel => exact ⟨k + 1, A3, c3, by omega, by go_num, by rw [HT.out], by rw [HT.out]; exact hown3, hb3⟩
      case measure => simp [intOf]; omega
    · obtain rfl : k = m.length := by omega
      rw [List.take_length] at *
      go_wp2
      go_ret
      exact ⟨_, _, rfl, hown, hbr⟩

set_option maxHeartbeats 8000000 in
theorem puts_any (A B : Option Addr) (c cb : Nat) (l m : List Ch) (w : World) (hl : l.length ≤ 1000) (hm : m.length ≤ 1000) (hr : Rds w w.heap.size 3 A l.length (l.flatMap chC)) (hrm : Rds w w.heap.size 3 B m.length (m.flatMap chC)) :
    Calls Try.prog 35 #[.slice A l.length c, .slice B m.length cb] w fun e w' => ∃ A' c', e = .returned (.slice A' (m.foldl putC l).length c') ∧
      w'.ownsRow w.heap.size 24 3 (.slice A' (m.foldl putC l).length c') (m.foldl putC l).length ((m.foldl putC l).flatMap chC) ∧ Below w.heap.size w w' := by
  obtain ⟨i0, hi0, hz0, hz1, hz2⟩ := info_parts infoChild
  go_enter Try.func35, Try.ntmps35
  go_wp2_with (at_builtin; refine wpList_app _ rfl (.const (.slice none 0 0)) (.tmp 7) _ rfl w.heap.size 24 i0 _ 3 24 Try.underlying22 hi0 hz0 hz1 hz2 rfl (by omega) (.slice none 0 0) 0 [] rfl (World.ownsRow_nil _ _ _ _) w.heap.size A l.length c (l.flatMap chC) rfl hr (chC_one l) (by simp only [maxLen]; omega) (by omega) (Nat.le_refl _) ?_; intro v1 w1 hown1 hg1 hat1)
  have hbw : Below w.heap.size w w1 := (Below.refl _ _).grown hg1 (Nat.le_refl _) (by simp [Value.ownBlock])
  rw [Nat.zero_add, List.nil_append] at hown1
  obtain ⟨A1, c1, rfl, hform⟩ := own_form hown1
  clear hr hform hg1 hat1
  go_loopw [5, 6] (fun s j wr => ∃ k A2 c2, k ≤ m.length ∧ j = .int .i64 (k : Nat) ∧ s = .slice A2 ((m.take k).foldl putC l).length c2 ∧ wr.ownsRow w.heap.size 24 3 (.slice A2 ((m.take k).foldl putC l).length c2) ((m.take k).foldl putC l).length (((m.take k).foldl putC l).flatMap chC) ∧ Below w.heap.size w wr) (fun _ j _ => m.length - (intOf j).toNat)
  case atStart => exact ⟨0, A1, c1, by omega, rfl, rfl, hown1, hbw⟩
  case round =>
    obtain ⟨k, A2, c2, hk, rfl, rfl, hown, hbr⟩ := hrel
    have hln := foldl_len l (m.take k)
    have hlt' : (m.take k).length ≤ m.length := by simp; omega
    by_cases hlt : k < m.length
    · obtain ⟨ad, rfl, hbl, c0, c1, c2⟩ := at3 (hrm.be hbr) hlt
      have HT := Lib.hid (foldl_take l m k hlt)
      generalize hL : (m.take k).foldl putC l = L at *
      go_wp2_with fail
      refine (rput_any A2 _ L m[k] _ (by omega) (Rds.own hown)).mono ?_
      rintro e w2 ⟨A3, c3, rfl, hown2, hb2⟩
      have hown3 := own_low hown2 hbr.size
      have hb3 : Below w.heap.size w w2 := bl_step hbr hb2
      go_wp2_with fail
      go_roundw
      case rel => exact ⟨k + 1, A3, c3, by omega, by go_num, by rw [HT.out], by rw [HT.out]; exact hown3, hb3⟩
      case measure => simp [intOf]; omega
    · obtain rfl : k = m.length := by omega
      rw [List.take_length] at *
      go_wp2
      go_ret
      exact ⟨_, _, rfl, hown, hbr⟩
end Go.Proofs.Ytnboncbekcodnaa.St
