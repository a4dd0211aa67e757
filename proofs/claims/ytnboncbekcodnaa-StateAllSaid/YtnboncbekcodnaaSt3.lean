/- The walks: copies of slices; places; the reference's Find, Put, puts. -/
import Derived.Test.YtnboncbekcodnaaSt2
set_option linter.unusedVariables false
set_option linter.unusedSimpArgs false
namespace Go.Proofs.Ytnboncbekcodnaa.St
open Go.RowKit Go.Proofs.Ytnboncbekcodnaa.Kit

set_option maxHeartbeats 2000000 in
theorem rRects_any (A : Option Addr) (n c : Nat) (xs : List Value) (w : World) (hn : n ≤ 1000000) (hr : Rds w w.heap.size 4 A n xs) (h1 : ∀ u ∈ xs, u.oneCell' = true) :
    Calls Try.prog 33 #[.slice A n c] w fun e w' => ∃ A' c', e = .returned (.slice A' n c') ∧ w'.ownsRow w.heap.size 47 4 (.slice A' n c') n xs ∧ Below w.heap.size w w' := by
  obtain ⟨i0, hi0, hz0, hz1, hz2⟩ := info_parts infoRect
  go_enter Try.func33, Try.ntmps33
  go_wp2_with (at_builtin; refine wpList_app _ rfl (.const (.slice none 0 0)) (.tmp 3) _ rfl w.heap.size 47 i0 _ 4 32 Try.underlying30 hi0 hz0 hz1 hz2 rfl (by omega) (.slice none 0 0) 0 [] rfl (World.ownsRow_nil _ _ _ _) w.heap.size A n c xs rfl hr h1 (by simp only [maxLen]; omega) (by omega) (Nat.le_refl _) ?_; intro v2 w2 hown2 hg2 hat2)
  go_ret
  rw [Nat.zero_add, List.nil_append] at hown2
  obtain ⟨A2, c2, rfl, _⟩ := own_form hown2
  exact ⟨_, _, rfl, hown2, (Below.refl _ _).grown hg2 (Nat.le_refl _) (by simp [Value.ownBlock])⟩

set_option maxHeartbeats 2000000 in
theorem rInts_any (A : Option Addr) (n c : Nat) (xs : List Value) (w : World) (hn : n ≤ 1000000) (hr : Rds w w.heap.size 1 A n xs) (h1 : ∀ u ∈ xs, u.oneCell' = true) :
    Calls Try.prog 34 #[.slice A n c] w fun e w' => ∃ A' c', e = .returned (.slice A' n c') ∧ w'.ownsRow w.heap.size 3 1 (.slice A' n c') n xs ∧ Below w.heap.size w w' := by
  obtain ⟨i0, hi0, hz0, hz1, hz2⟩ := info_parts infoInt
  go_enter Try.func34, Try.ntmps34
  go_wp2_with (at_builtin; refine wpList_app _ rfl (.const (.slice none 0 0)) (.tmp 3) _ rfl w.heap.size 3 i0 _ 1 8 Try.underlying31 hi0 hz0 hz1 hz2 rfl (by omega) (.slice none 0 0) 0 [] rfl (World.ownsRow_nil _ _ _ _) w.heap.size A n c xs rfl hr h1 (by simp only [maxLen]; omega) (by omega) (Nat.le_refl _) ?_; intro v2 w2 hown2 hg2 hat2)
  go_ret
  rw [Nat.zero_add, List.nil_append] at hown2
  obtain ⟨A2, c2, rfl, _⟩ := own_form hown2
  exact ⟨_, _, rfl, hown2, (Below.refl _ _).grown hg2 (Nat.le_refl _) (by simp [Value.ownBlock])⟩

set_option maxHeartbeats 2000000 in
theorem lRects_any (A : Option Addr) (n c : Nat) (xs : List Value) (w : World) (hn : n ≤ 1000000) (hr : Rds w w.heap.size 4 A n xs) (h1 : ∀ u ∈ xs, u.oneCell' = true) :
    Calls Try.prog 36 #[.slice A n c] w fun e w' => ∃ A' c', e = .returned (.slice A' n c') ∧ w'.ownsRow w.heap.size 47 4 (.slice A' n c') n xs ∧ Below w.heap.size w w' := by
  obtain ⟨i0, hi0, hz0, hz1, hz2⟩ := info_parts infoRect
  go_enter Try.func36, Try.ntmps36
  go_wp2_with (at_builtin; refine wpList_app _ rfl (.const (.slice none 0 0)) (.tmp 3) _ rfl w.heap.size 47 i0 _ 4 32 Try.underlying30 hi0 hz0 hz1 hz2 rfl (by omega) (.slice none 0 0) 0 [] rfl (World.ownsRow_nil _ _ _ _) w.heap.size A n c xs rfl hr h1 (by simp only [maxLen]; omega) (by omega) (Nat.le_refl _) ?_; intro v2 w2 hown2 hg2 hat2)
  go_ret
  rw [Nat.zero_add, List.nil_append] at hown2
  obtain ⟨A2, c2, rfl, _⟩ := own_form hown2
  exact ⟨_, _, rfl, hown2, (Below.refl _ _).grown hg2 (Nat.le_refl _) (by simp [Value.ownBlock])⟩

set_option maxHeartbeats 2000000 in
theorem lInts_any (A : Option Addr) (n c : Nat) (xs : List Value) (w : World) (hn : n ≤ 1000000) (hr : Rds w w.heap.size 1 A n xs) (h1 : ∀ u ∈ xs, u.oneCell' = true) :
    Calls Try.prog 37 #[.slice A n c] w fun e w' => ∃ A' c', e = .returned (.slice A' n c') ∧ w'.ownsRow w.heap.size 3 1 (.slice A' n c') n xs ∧ Below w.heap.size w w' := by
  obtain ⟨i0, hi0, hz0, hz1, hz2⟩ := info_parts infoInt
  go_enter Try.func37, Try.ntmps37
  go_wp2_with (at_builtin; refine wpList_app _ rfl (.const (.slice none 0 0)) (.tmp 3) _ rfl w.heap.size 3 i0 _ 1 8 Try.underlying31 hi0 hz0 hz1 hz2 rfl (by omega) (.slice none 0 0) 0 [] rfl (World.ownsRow_nil _ _ _ _) w.heap.size A n c xs rfl hr h1 (by simp only [maxLen]; omega) (by omega) (Nat.le_refl _) ?_; intro v2 w2 hown2 hg2 hat2)
  go_ret
  rw [Nat.zero_add, List.nil_append] at hown2
  obtain ⟨A2, c2, rfl, _⟩ := own_form hown2
  exact ⟨_, _, rfl, hown2, (Below.refl _ _).grown hg2 (Nat.le_refl _) (by simp [Value.ownBlock])⟩

set_option maxHeartbeats 4000000 in
theorem rfind_any (A : Option Addr) (c : Nat) (l : List Ch) (i : Int) (w : World) (hl : l.length ≤ 1000000) (hr : Rds w w.heap.size 3 A l.length (l.flatMap chC)) :
    Calls Try.prog 22 #[.slice A l.length c, .int .i64 i] w fun e w' => e = .returned (.tuple #[.agg #[.int .i64 (opC (findC l i)).id, .int .i64 (opC (findC l i)).x, .int .i64 (opC (findC l i)).y], .bool (findC l i).isSome]) ∧ Below w.heap.size w w' := by
  go_enter Try.func22, Try.ntmps22
  go_wp2
  generalize hwv : w.alloc _ = wv
  have Bz : Bk wv w.heap.size 24 #[.int .i64 0, .int .i64 0, .int .i64 0] := by rw [← hwv]; exact Bk.new _ _ _
  have hbv : Below w.heap.size w wv := by rw [← hwv]; exact bl_alloc (Below.refl _ _) _
  clear hwv
  have hz := Bz.lt
  have hz0 := Bz.cell 0
  have hz1 := Bz.cell 1
  have hz2 := Bz.cell 2
  have hzf := Bz.frz
  replace hr := hr.be hbv
  go_loop [6] (fun j => ∃ k : Nat, k ≤ l.length ∧ j = .int .i64 k ∧ (∀ j (hj : j < l.length), j < k → l[j].id ≠ i)) (fun j => l.length - (intOf j).toNat)
  case atStart => exact ⟨0, by omega, rfl, fun j _ h => absurd h (by omega)⟩
  case round =>
    obtain ⟨k, hk, rfl, hno⟩ := hrel
    have HNO := Lib.hid hno
    clear hno
    by_cases hlt : k < l.length
    · obtain ⟨ad, rfl, hbl, c0, c1, c2⟩ := at3 hr hlt
      by_cases he : l[k].id = i
      · have HF := Lib.hid (find_at l i k hlt HNO.out he)
        have hE : (l[k].id == i) = true := by rw [beq_iff_eq]; exact he
        clear he
        go_wp2
        rw [HF.out]
        have hI : (Try.prog.info? 24).map (·.size) = some (#[.int .i64 l[k].id, .int .i64 l[k].x, .int .i64 l[k].y] : Array Value).size := by kernel_rfl
        refine post_cell_tmp w.heap.size 24 #[.int .i64 l[k].id, .int .i64 l[k].x, .int .i64 l[k].y] Try.results22 Try.underlying24 rfl hI rfl ?bk rfl ?fin
        case bk => exact (((Bz.st 0 _).st 1 _).st 2 _)
        case fin =>
          refine ⟨rfl, ?_⟩
          exact bl_set (bl_set (bl_set hbv (Nat.le_refl _) _) (Nat.le_refl _) _) (Nat.le_refl _) _
      · have hE : (l[k].id == i) = false := by rw [beq_eq_false_iff_ne]; exact he
        have HE := Lib.hid he
        clear he
        go_wp2
        go_round
        case rel =>
          refine ⟨k + 1, by omega, by go_num, fun j hj hjk => ?_⟩
          rcases Nat.lt_or_ge j k with h | h
          · exact HNO.out j hj h
          · obtain rfl : j = k := by omega
            exact HE.out
        case measure => simp [intOf]; omega
    · obtain rfl : k = l.length := by omega
      have HF := Lib.hid (find_none l i (fun j hj => HNO.out j hj hj))
      go_wp2
      rw [HF.out]
      have hI : (Try.prog.info? 24).map (·.size) = some (#[.int .i64 0, .int .i64 0, .int .i64 0] : Array Value).size := by kernel_rfl
      refine post_cell_tmp w.heap.size 24 #[.int .i64 0, .int .i64 0, .int .i64 0] Try.results22 Try.underlying24 rfl hI rfl ?bk rfl ?fin
      case bk => exact (((Bz.st 0 _).st 1 _).st 2 _)
      case fin =>
        refine ⟨rfl, ?_⟩
        exact bl_set (bl_set (bl_set hbv (Nat.le_refl _) _) (Nat.le_refl _) _) (Nat.le_refl _) _

set_option maxHeartbeats 8000000 in
theorem rput_any (A : Option Addr) (c : Nat) (l : List Ch) (d : Ch) (w : World) (hl : l.length ≤ 1000000) (hr : Rds w w.heap.size 3 A l.length (l.flatMap chC)) :
    Calls Try.prog 25 #[.slice A l.length c, .agg #[.int .i64 d.id, .int .i64 d.x, .int .i64 d.y]] w fun e w' => ∃ A' c', e = .returned (.slice A' (putC l d).length c') ∧
      w'.ownsRow w.heap.size 24 3 (.slice A' (putC l d).length c') (putC l d).length ((putC l d).flatMap chC) ∧ Below w.heap.size w w' := by
  obtain ⟨i0, hi0, hz0, hz1, hz2⟩ := info_parts infoChild
  go_enter Try.func25, Try.ntmps25
  go_wp2_with (at_builtin; refine wpList_app _ rfl (.const (.slice none 0 0)) (.tmp 7) _ rfl (w.heap.size + 1) 24 i0 _ 3 24 Try.underlying22 hi0 hz0 hz1 hz2 rfl (by omega) (.slice none 0 0) 0 [] rfl (World.ownsRow_nil _ _ _ _) w.heap.size A l.length c (l.flatMap chC) rfl (hr.al (Nat.le_refl _) _) (chC_one l) (by simp only [maxLen]; omega) (by omega) (by simp) ?_; intro v1 w1 hown1 hg1 hat1)
  have Bd : Bk w1 w.heap.size 24 #[.int .i64 d.id, .int .i64 d.x, .int .i64 d.y] := (Bk.new _ _ _).gr hg1 (by simp [Value.ownBlock])
  have hbw : Below w.heap.size w w1 := (bl_alloc (Below.refl _ _) _).grown hg1 (by simp) (by simp [Value.ownBlock])
  have hz1' : w.heap.size + 1 ≤ w1.heap.size := by have := hg1.size; simpa using this
  rw [Nat.zero_add, List.nil_append] at hown1
  clear hr hg1 hat1
  obtain ⟨A1, c1, rfl, hform⟩ := own_form hown1
  go_loopw [6] (fun j wr => ∃ k : Nat, k ≤ l.length ∧ j = .int .i64 k ∧ Bk wr w.heap.size 24 #[.int .i64 d.id, .int .i64 d.x, .int .i64 d.y] ∧ wr.ownsRow (w.heap.size + 1) 24 3 (.slice A1 l.length c1) l.length (l.flatMap chC) ∧ Below w.heap.size w wr ∧ w.heap.size + 1 ≤ wr.heap.size ∧ (∀ j (hj : j < l.length), j < k → l[j].id ≠ d.id)) (fun j _ => l.length - (intOf j).toNat)
  case atStart => exact ⟨0, by omega, rfl, Bd, hown1, hbw, hz1', fun j _ h => absurd h (by omega)⟩
  case round =>
    obtain ⟨k, hk, rfl, Bd, hown, hbr, hzr, hno⟩ := hrel
    have HNO := Lib.hid hno
    clear hno
    have d0 := Bd.cell 0
    have d1 := Bd.cell 1
    have d2 := Bd.cell 2
    have dz := Bd.lt
    by_cases hlt : k < l.length
    · obtain ⟨g, rfl, hg1, hg2⟩ := hform (by omega)
      obtain ⟨o0, o1, o2, of⟩ := own3 hown hlt
      have j0 : (0 : Int) ≤ (k : Int) := by omega
      have j1 : (k : Int) < (l.length : Int) := by omega
      by_cases he : l[k].id = d.id
      · have HF := Lib.hid (put_at l d k hlt HNO.out he)
        have hE : (l[k].id == d.id) = true := by rw [beq_iff_eq]; exact he
        clear he
        go_wp2_with fail
        go_quiet (fail)
        go_wp2
        go_ret
        rw [HF.out]
        have s1 := (World.ownsRow.stored (w := wr.drewN nq) hown (k * 3) (.int .i64 d.id)).1
        have s2 := (s1.stored (k * 3 + 1) (.int .i64 d.x)).1
        have s3 := (s2.stored (k * 3 + 2) (.int .i64 d.y)).1
        rw [set3 l k hlt d] at s3
        have hln : (l.set k d).length = l.length := List.length_set
        rw [hln]
        refine ⟨_, _, rfl, ⟨s3.1, s3.2.imp id fun ⟨g', cap', cur, h1, h2, h3⟩ => ⟨g', cap', cur, h1, by omega, h3⟩⟩, ?_⟩
        exact bl_set (bl_set (bl_set (bl_drewN hbr _) (by show w.heap.size ≤ g; omega) _) (by show w.heap.size ≤ g; omega) _) (by show w.heap.size ≤ g; omega) _
      · have hE : (l[k].id == d.id) = false := by rw [beq_eq_false_iff_ne]; exact he
        have HE := Lib.hid he
        clear he
        go_wp2_with fail
        go_quiet (fail)
        go_wp2
        go_roundw
        case rel =>
          refine ⟨k + 1, by omega, by go_num, Bd.drN _, hown, bl_drewN hbr _, hzr, fun j hj hjk => ?_⟩
          rcases Nat.lt_or_ge j k with h | h
          · exact HNO.out j hj h
          · obtain rfl : j = k := by omega
            exact HE.out
        case measure => simp [intOf]; omega
    · obtain rfl : k = l.length := by omega
      have HF := Lib.hid (put_none l d (by intro a ha; obtain ⟨j, hj, rfl⟩ := List.getElem_of_mem ha; exact HNO.out j hj hj))
      go_wp2_with (at_builtin; go_must (refine wpList_app _ rfl (.tmp 28) (.tmp 30) _ rfl (w.heap.size + 1) 24 i0 _ 3 24 Try.underlying22 hi0 hz0 hz1 hz2 rfl (by omega) _ _ _ rfl (hown.alloc _) (wr.heap.size + 1) (some ⟨wr.heap.size, 0, none⟩) 1 1 (chC d) rfl (Rds.block (cs := #[.int .i64 d.id, .int .i64 d.x, .int .i64 d.y]) (Bk.new _ _ _) rfl (by omega)) (by intro u hu; exact chC_one [d] u (by simpa using hu)) (by simp only [maxLen]; omega) (by omega) (by simp; omega) ?_); intro v2 w2 hown2 hg2 hat2)
      go_ret
      rw [HF.out]
      obtain ⟨A2, c2, rfl, _⟩ := own_form hown2
      have e1 : (l ++ [d]).length = l.length + 1 := by simp
      have e2 : (l ++ [d]).flatMap chC = l.flatMap chC ++ chC d := by simp
      rw [e1, e2]
      refine ⟨_, _, rfl, ⟨hown2.1, hown2.2.imp id fun ⟨g', cap', cur, h1, h2, h3⟩ => ⟨g', cap', cur, h1, by omega, h3⟩⟩, ?_⟩
      refine (bl_alloc hbr _).grown hg2 (by simp; omega) ?_
      intro g hg
      have := (hown.lt g hg).1
      omega

end Go.Proofs.Ytnboncbekcodnaa.St
