/- The walks through state: Find, Put, places. -/
import Derived.Test.YtnboncbekcodnaaRows
import Derived.Test.YtnboncbekcodnaaSt1
import Derived.Test.YtnboncbekcodnaaStMath
import Derived.Deep.RegionHeld3
import Derived.Deep.DeepCutAuto
import Derived.Deep.QuietTactic
import Derived.BigQuiet
import Derived.Deep.DeepMust
set_option linter.unusedVariables false
set_option linter.unusedSimpArgs false
namespace Go.Proofs.Ytnboncbekcodnaa.St
open Go.RowKit Go.Proofs.Ytnboncbekcodnaa.Kit

def opC (o : Option Ch) : Ch := o.getD zC
set_option maxHeartbeats 4000000 in
theorem find_any (A : Option Addr) (c : Nat) (l : List Ch) (i : Int) (w : World) (hl : l.length ≤ 1000000) (hr : Rds w w.heap.size 3 A l.length (l.flatMap chC)) :
    Calls Try.prog 9 #[.slice A l.length c, .int .i64 i] w fun e w' => e = .returned (.tuple #[.agg #[.int .i64 (opC (findC l i)).id, .int .i64 (opC (findC l i)).x, .int .i64 (opC (findC l i)).y], .bool (findC l i).isSome]) ∧ Below w.heap.size w w' := by
  go_enter Try.func9, Try.ntmps9
  go_wp2
  generalize hwv : w.alloc _ = wv
  have Bz : Bk wv w.heap.size 24 #[.int .i64 0, .int .i64 0, .int .i64 0] := by rw [← hwv]; exact Bk.new _ _ _
  have hbv : Below w.heap.size w wv := by rw [← hwv]; exact bl_alloc (Below.refl _ _) _
  clear hwv
  go_loopw [7, 10] (fun p j wr => ∃ k : Nat, k ≤ l.length ∧ j = .int .i64 k ∧ Bk wr w.heap.size 24 #[.int .i64 0, .int .i64 0, .int .i64 0] ∧ Below w.heap.size w wr ∧ (∀ j (hj : j < l.length), j < k → l[j].id ≠ i)) (fun _ j _ => l.length - (intOf j).toNat)
  case atStart => exact ⟨0, by omega, rfl, Bz, hbv, fun j _ h => absurd h (by omega)⟩
  case round =>
    obtain ⟨k, hk, rfl, Bz, hbr, hno⟩ := hrel
    have HNO := Lib.hid hno
    clear hno
    by_cases hlt : k < l.length
    · obtain ⟨ad, rfl, hbl, c0, c1, c2⟩ := at3 (hr.be hbr) hlt
      by_cases he : l[k].id = i
      · have HF := Lib.hid (find_at l i k hlt HNO.out he)
        have hE : (l[k].id == i) = true := by rw [beq_iff_eq]; exact he
        clear he
        have hz := Bz.lt
        have hz0 := Bz.cell 0
        have hz1 := Bz.cell 1
        have hz2 := Bz.cell 2
        have hzf := Bz.frz
        go_wp2
        rw [HF.out]
        have hI : (Try.prog.info? 24).map (·.size) = some (#[.int .i64 l[k].id, .int .i64 l[k].x, .int .i64 l[k].y] : Array Value).size := by kernel_rfl
        refine post_cell_tmp w.heap.size 24 #[.int .i64 l[k].id, .int .i64 l[k].x, .int .i64 l[k].y] Try.results9 Try.underlying24 rfl hI rfl ?bk rfl ?fin
        case bk => exact ((((Bz.st 0 _).st 1 _).st 2 _).al _)
        case fin =>
          refine ⟨rfl, ?_⟩
          exact bl_alloc (bl_set (bl_set (bl_set hbr (Nat.le_refl _) _) (Nat.le_refl _) _) (Nat.le_refl _) _) _
      · have hE : (l[k].id == i) = false := by rw [beq_eq_false_iff_ne]; exact he
        have HE := Lib.hid he
        clear he
        go_wp2
        go_roundw
        case rel =>
          refine ⟨k + 1, by omega, by go_num, Bz.al _, bl_alloc hbr _, fun j hj hjk => ?_⟩
          rcases Nat.lt_or_ge j k with h | h
          · exact HNO.out j hj h
          · obtain rfl : j = k := by omega
            exact HE.out
        case measure => simp [intOf]; omega
    · obtain rfl : k = l.length := by omega
      have HF := Lib.hid (find_none l i (fun j hj => HNO.out j hj hj))
      have hz := Bz.lt
      have hz0 := Bz.cell 0
      have hz1 := Bz.cell 1
      have hz2 := Bz.cell 2
      have hzf := Bz.frz
      go_wp2
      rw [HF.out]
      have hI : (Try.prog.info? 24).map (·.size) = some (#[.int .i64 0, .int .i64 0, .int .i64 0] : Array Value).size := by kernel_rfl
      refine post_cell_tmp w.heap.size 24 #[.int .i64 0, .int .i64 0, .int .i64 0] Try.results9 Try.underlying24 rfl hI rfl ?bk rfl ?fin
      case bk => exact (((Bz.st 0 _).st 1 _).st 2 _)
      case fin =>
        refine ⟨rfl, ?_⟩
        exact bl_set (bl_set (bl_set hbr (Nat.le_refl _) _) (Nat.le_refl _) _) (Nat.le_refl _) _

theorem chC_one (l : List Ch) : ∀ u ∈ l.flatMap chC, u.oneCell' = true := by
  intro u hu
  obtain ⟨a, _, ha⟩ := List.mem_flatMap.1 hu
  simp only [chC, List.mem_cons, List.not_mem_nil, or_false] at ha
  rcases ha with rfl | rfl | rfl <;> rfl

set_option maxHeartbeats 8000000 in
theorem put_any (A : Option Addr) (c : Nat) (l : List Ch) (d : Ch) (w : World) (hl : l.length ≤ 1000000) (hr : Rds w w.heap.size 3 A l.length (l.flatMap chC)) :
    Calls Try.prog 8 #[.slice A l.length c, .agg #[.int .i64 d.id, .int .i64 d.x, .int .i64 d.y]] w fun e w' => ∃ A' c', e = .returned (.slice A' (putC l d).length c') ∧
      w'.ownsRow w.heap.size 24 3 (.slice A' (putC l d).length c') (putC l d).length ((putC l d).flatMap chC) ∧ Below w.heap.size w w' := by
  go_enter Try.func8, Try.ntmps8
  go_wp2_with fail
  generalize hwv : (w.alloc _).alloc _ = wv
  have Bd : Bk wv w.heap.size 24 #[.int .i64 d.id, .int .i64 d.x, .int .i64 d.y] := by rw [← hwv]; exact (Bk.new _ _ _).al _
  have Bs : Bk wv (w.heap.size + 1) 22 #[.slice A l.length c] := by rw [← hwv]; exact Bk.new' _ _ _ (by simp)
  have hbv : Below w.heap.size w wv := by rw [← hwv]; exact bl_alloc (bl_alloc (Below.refl _ _) _) _
  clear hwv
  refine (allChild (some ⟨w.heap.size + 1, 0, none⟩) 1 [⟨A, l.length, c, l.flatMap chC⟩] _ (Rds.block Bs rfl Bs.lt) (by intro p hp; simp at hp; subst hp; exact (hr.be hbv).more hbv.size) (by intro p hp; simp at hp; subst hp; exact chC_one l) (by simp) (by simp [total]; omega)).mono ?_
  rintro e w1 ⟨v1, rfl, hown, hb1⟩
  have hown1 : w1.ownsRow wv.heap.size 24 3 v1 l.length (l.flatMap chC) := by simpa [total, cat] using hown
  clear hown
  obtain ⟨A1, c1, rfl, hform⟩ := own_form hown1
  have hsz := hbv.size
  replace Bd := Bd.be hb1
  have hbw : Below w.heap.size w w1 := bl_step hbv hb1
  have hz1 := hb1.size
  clear Bs hb1 hbv hr
  go_wp2_with fail
  go_loopw [5, 11] (fun i j wr => ∃ k : Nat, k ≤ l.length ∧ j = .int .i64 k ∧ Bk wr w.heap.size 24 #[.int .i64 d.id, .int .i64 d.x, .int .i64 d.y] ∧ wr.ownsRow wv.heap.size 24 3 (.slice A1 l.length c1) l.length (l.flatMap chC) ∧ Below w.heap.size w wr ∧ wv.heap.size ≤ wr.heap.size ∧ (∀ j (hj : j < l.length), j < k → l[j].id ≠ d.id)) (fun _ j _ => l.length - (intOf j).toNat)
  case atStart => exact ⟨0, by omega, rfl, Bd, hown1, hbw, hz1, fun j _ h => absurd h (by omega)⟩
  case round =>
    obtain ⟨k, hk, rfl, Bd, hown, hbr, hzr, hno⟩ := hrel
    have HNO := Lib.hid hno
    clear hno
    by_cases hlt : k < l.length
    · obtain ⟨g, rfl, hg1, hg2⟩ := hform (by omega)
      obtain ⟨o0, o1, o2, of⟩ := own3 hown hlt
      have d0 := Bd.cell 0
      have d1 := Bd.cell 1
      have d2 := Bd.cell 2
      have dz := Bd.lt
      by_cases he : l[k].id = d.id
      · have HF := Lib.hid (put_at l d k hlt HNO.out he)
        have hE : (l[k].id == d.id) = true := by rw [beq_iff_eq]; exact he
        clear he
        have i0 : (0 : Int) ≤ (k : Int) := by omega
        have i1 : (k : Int) < (l.length : Int) := by omega
        go_wp2_with fail
        go_quiet (fail)
        go_wp2
        go_ret
        rw [HF.out]
        have s1 := (World.ownsRow.stored (w := wr.drewN nq) hown (k * 3) (.int .i64 d.id)).1
        have s2 := (s1.stored (k * 3 + 1) (.int .i64 d.x)).1
        have s3 := (s2.stored (k * 3 + 2) (.int .i64 d.y)).1
        rw [set3 l k hlt d] at s3
        have hln : (l.set k d).length = l.length := List.length_set
        rw [hln]
        refine ⟨_, _, rfl, ⟨s3.1, s3.2.imp id fun ⟨g', cap', cur, h1, h2, h3⟩ => ⟨g', cap', cur, h1, by omega, h3⟩⟩, ?_⟩
        exact bl_set (bl_set (bl_set (bl_drewN hbr _) (by show w.heap.size ≤ g; omega) _) (by show w.heap.size ≤ g; omega) _) (by show w.heap.size ≤ g; omega) _
      · have hE : (l[k].id == d.id) = false := by rw [beq_eq_false_iff_ne]; exact he
        have HE := Lib.hid he
        clear he
        have i0 : (0 : Int) ≤ (k : Int) := by omega
        have i1 : (k : Int) < (l.length : Int) := by omega
        go_wp2_with fail
        go_quiet (fail)
        go_wp2
        go_roundw
        case rel =>
          refine ⟨k + 1, by omega, by go_num, Bd.drN _, hown, bl_drewN hbr _, hzr, fun j hj hjk => ?_⟩
          rcases Nat.lt_or_ge j k with h | h
          · exact HNO.out j hj h
          · obtain rfl : j = k := by omega
            exact HE.out
        case measure => simp [intOf]; omega
    · obtain rfl : k = l.length := by omega
      have HF := Lib.hid (put_none l d (by intro a ha; obtain ⟨j, hj, rfl⟩ := List.getElem_of_mem ha; exact HNO.out j hj hj))
      obtain ⟨i0, hi0, hz0, hz1, hz2⟩ := info_parts infoChild
      have d0 := Bd.cell 0
      have d1 := Bd.cell 1
      have d2 := Bd.cell 2
      have dz := Bd.lt
      go_wp2_with (at_builtin; go_must (refine wpList_app _ rfl (.tmp 28) (.tmp 30) _ rfl wv.heap.size 24 i0 _ 3 24 Try.underlying22 hi0 hz0 hz1 hz2 rfl (by omega) _ _ _ rfl (hown.alloc _) (wr.heap.size + 1) (some ⟨wr.heap.size, 0, none⟩) 1 1 (chC d) rfl (Rds.block (cs := #[.int .i64 d.id, .int .i64 d.x, .int .i64 d.y]) (Bk.new _ _ _) rfl (by omega)) (by intro u hu; exact chC_one [d] u (by simpa using hu)) (by simp only [maxLen]; omega) (by omega) (by simp; omega) ?_); intro v2 w2 hown2 hg2 hat2)
      go_ret
      rw [HF.out]
      obtain ⟨A2, c2, rfl, _⟩ := own_form hown2
      have e1 : (l ++ [d]).length = l.length + 1 := by simp
      have e2 : (l ++ [d]).flatMap chC = l.flatMap chC ++ chC d := by simp
      rw [e1, e2]
      refine ⟨_, _, rfl, ⟨hown2.1, hown2.2.imp id fun ⟨g', cap', cur, h1, h2, h3⟩ => ⟨g', cap', cur, h1, by omega, h3⟩⟩, ?_⟩
      refine (bl_alloc hbr _).grown hg2 (by simp; omega) ?_
      intro g hg
      have := (hown.lt g hg).1
      omega
end Go.Proofs.Ytnboncbekcodnaa.St
