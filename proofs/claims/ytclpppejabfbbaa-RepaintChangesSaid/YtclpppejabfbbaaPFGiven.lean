/- The region's functions, walked by hand, in the form that the printed texts ask for. -/
import Derived.Test.YtclpppejabfbbaaPFx0
import Derived.Test.YtclpppejabfbbaaRg9
import Derived.Test.YtclpppejabfbbaaRf5
set_option linter.unusedVariables false
set_option linter.unusedSimpArgs false

set_option linter.unusedSectionVars false
namespace Go.Proofs.Ytclpppejabfbbaa.PF
open Go.RowKit Go.Proofs.YtclpppejabfbbaaW.PrintWords Go.Proofs.Ytclpppejabfbbaa.Reg Go.Proofs.Ytclpppejabfbbaa.Rect Go.Proofs.Ytclpppejabfbbaa.Wk Go.Proofs.Ytclpppejabfbbaa.Kit

def toR (s : S26) : R := ⟨s.f0, s.f1, s.f2, s.f3⟩
def ofR (r : R) : S26 := ⟨r.x, r.y, r.w, r.h⟩
theorem to_of (r : R) : toR (ofR r) = r := rfl
theorem of_to (s : S26) : ofR (toR s) = s := rfl
def i64b (n : Int) : Bool := decide (-9223372036854775808 ≤ n) && decide (n ≤ 9223372036854775807)
def okS (s : S26) : Bool := i64b s.f0 && (i64b s.f1 && (i64b s.f2 && i64b s.f3))
def okL (l : List S26) : Bool := decide (l.length ≤ 200000) && l.all okS
theorem i64b_iff {n : Int} : i64b n = true ↔ -9223372036854775808 ≤ n ∧ n ≤ 9223372036854775807 := by simp [i64b]
theorem okL_64 {l : List S26} (h : okL l = true) : (l.map toR).length ≤ 200000 ∧ ∀ r ∈ l.map toR, I64 r := by
  simp only [okL, Bool.and_eq_true, decide_eq_true_eq, List.all_eq_true] at h
  refine ⟨by simpa using h.1, fun r hr => ?_⟩
  obtain ⟨s, hs, rfl⟩ := List.mem_map.1 hr
  have := h.2 s hs
  simp only [okS, Bool.and_eq_true, i64b_iff] at this
  exact this
theorem chunk (l : List R) (j : Nat) (hj : j < l.length) : ((l.flatMap rC).drop (j * 4)).take 4 = rC l[j] := by
  induction l generalizing j with
  | nil => simp at hj
  | cons a l ih =>
    cases j with
    | zero => simp [rC]
    | succ j =>
      rw [show (j + 1) * 4 = 4 + j * 4 by omega, List.flatMap_cons, ← List.drop_drop, List.drop_left' (rC_len a)]
      exact ih j (by simpa using hj)
theorem rds_of_C {w : World} {A : Option Addr} {l : List S26} (h : Kd.C k26 w A l.length l) : Rds w w.heap.size 4 A (l.map toR).length ((l.map toR).flatMap rC) := by
  refine ⟨by rw [flat_len rC 4 rC_len], fun hn => ?_⟩
  obtain ⟨ad, rfl, hc⟩ := h.2.2 (by simpa using hn)
  have key : ∀ (i : Nat) (hi : i < l.length) (j : Nat) (u : Value), (rC (toR l[i]))[j]? = some u → w.cell? (ad.add (i * 4 + j)) = some u := by
    intro i hi j u hu
    obtain ⟨c, _, hK, hcell⟩ := hc i l[i] (List.getElem?_eq_getElem hi)
    obtain rfl := k26_open hK
    exact hcell j u hu
  have h0 := World.block_lt_of_cell? w _ (key 0 (by simpa using hn) 0 _ rfl)
  rw [add_blk] at h0
  refine ⟨ad, rfl, h0, fun j u hu => ?_⟩
  have hl : j < (l.map toR).length * 4 := by
    rw [← flat_len rC 4 rC_len]
    exact (List.getElem?_eq_some_iff.1 hu).1
  have hj : j / 4 < l.length := by rw [List.length_map] at hl; omega
  have e : j = j / 4 * 4 + j % 4 := by omega
  rw [e, flat_at rC 4 rC_len (l.map toR) (j / 4) (by simpa using hj) (j % 4) (by omega)] at hu
  rw [e]
  exact key _ hj _ u (by simpa using hu)
theorem R_of_own {w : World} {base : Nat} {v : Value} {l : List R} (h : w.ownsRow base 26 4 v l.length (l.flatMap rC)) : Kd.R k26 26 w base (fun _ => True) v (l.map ofR) := by
  refine ⟨fun _ _ => trivial, l.flatMap rC, by rw [List.length_map]; exact h, by rw [flat_len rC 4 rC_len, List.length_map]; rfl, fun j p hj => ?_⟩
  rw [List.getElem?_map] at hj
  obtain ⟨r, hr, rfl⟩ := Option.map_eq_some_iff.1 hj
  obtain ⟨hlt, rfl⟩ := List.getElem?_eq_some_iff.1 hr
  have := chunk l j hlt
  show k26.M w base _ (ofR l[j]) (((l.flatMap rC).drop (j * 4)).take 4)
  rw [this]
  exact k26_mkM w base _ (ofR l[j])
theorem RcP_R {w : World} {l : List R} {e : Ending} {w' : World} (h : RcP w l e w') : ∃ v0_, e = .returned v0_ ∧ Kd.R k26 26 w' w.heap.size (fun _ => True) v0_ (l.map ofR) ∧ Below w.heap.size w w' := by
  obtain ⟨v, rfl, h1, h2⟩ := h
  exact ⟨v, rfl, R_of_own h1, h2⟩

def region_Check.f (l0 : List S26) : Option Bool := if okL l0 = true then some (bandsF (l0.map toR)).isSome else none
def region_Union.f (l0 l1 : List S26) : Option (List S26) := if (okL l0 && okL l1) = true then some ((joinF (· || ·) (l0.map toR) (l1.map toR)).map ofR) else none
def tableaulaw00_Rects.f (l0 : List S26) : Option (List S26) := if okL l0 = true then some l0 else none
def okM (l : List S26) : Bool := decide (l.length ≤ 10000) && l.all fun s => rChk (toR s)
theorem okM_64 {l : List S26} (h : okM l = true) : (l.map toR).length ≤ 10000 ∧ ∀ r ∈ l.map toR, chkR r := by
  simp only [okM, Bool.and_eq_true, decide_eq_true_eq, List.all_eq_true] at h
  refine ⟨by simpa using h.1, fun r hr => ?_⟩
  obtain ⟨s, hs, rfl⟩ := List.mem_map.1 hr
  exact chk_iff.1 (h.2 s hs)
def tableauref08_make1.f (l0 l1 : List S26) (a2 : Int) : Option (List S26) := if (okM l0 && okM l1) = true then some ((makeR (opN a2) (l0.map toR) (l1.map toR)).map ofR) else none
theorem map_back (l : List S26) : (l.map toR).map ofR = l := by
  rw [List.map_map]; exact List.map_id'' (fun s => of_to s) l
section
variable (A0 : Option Addr) (c0 : Nat) (l0 : List S26)
theorem region_Check.calls (r : Bool) (w : World) (hr0 : Kd.C k26 w A0 l0.length l0) (hc0 : l0.length ≤ c0) (h : region_Check.f l0 = some r) :
    Calls Try.prog 15 #[.slice A0 l0.length c0] w fun e w' => e = .returned (.bool r) ∧ Below w.heap.size w w' := by
  unfold region_Check.f at h
  split at h
  · rename_i hk
    obtain ⟨h1, h2⟩ := okL_64 hk
    obtain rfl := Option.some.inj h
    have := RCheck_any A0 c0 (l0.map toR) w (by omega) h2 (rds_of_C hr0)
    rwa [List.length_map] at this
  · cases h
theorem tableaulaw00_Rects.calls (r : List S26) (w : World) (hr0 : Kd.C k26 w A0 l0.length l0) (hc0 : l0.length ≤ c0) (h : tableaulaw00_Rects.f l0 = some r) :
    Calls Try.prog 22 #[.slice A0 l0.length c0] w fun e w' => ∃ v0_, e = .returned v0_ ∧ Kd.R k26 26 w' w.heap.size (fun _ => True) v0_ r ∧ Below w.heap.size w w' := by
  unfold tableaulaw00_Rects.f at h
  split at h
  · rename_i hk
    obtain ⟨h1, h2⟩ := okL_64 hk
    obtain rfl := Option.some.inj h
    have := Rects_any A0 c0 (l0.map toR) w (by omega) (rds_of_C hr0)
    rw [List.length_map] at this
    refine this.mono fun e w' hp => ?_
    have := RcP_R hp
    rwa [map_back] at this
  · cases h
variable (A1 : Option Addr) (c1 : Nat) (l1 : List S26)
theorem tableauref08_make1.calls (a2 : Int) (r : List S26) (w : World) (hr0 : Kd.C k26 w A0 l0.length l0) (hc0 : l0.length ≤ c0) (hr1 : Kd.C k26 w A1 l1.length l1) (hc1 : l1.length ≤ c1) (h : tableauref08_make1.f l0 l1 a2 = some r) :
    Calls Try.prog 58 #[.slice A0 l0.length c0, .slice A1 l1.length c1, .int .i64 a2] w fun e w' => ∃ v0_, e = .returned v0_ ∧ Kd.R k26 26 w' w.heap.size (fun _ => True) v0_ r ∧ Below w.heap.size w w' := by
  unfold tableauref08_make1.f at h
  split at h
  · rename_i hk
    rw [Bool.and_eq_true] at hk
    obtain ⟨h1, h2⟩ := okM_64 hk.1
    obtain ⟨h3, h4⟩ := okM_64 hk.2
    obtain rfl := Option.some.inj h
    have := rfMake1_any A0 A1 c0 c1 (l0.map toR) (l1.map toR) a2 w h1 h3 h2 h4 (rds_of_C hr0) (rds_of_C hr1)
    rw [List.length_map, List.length_map] at this
    exact this.mono fun e w' hp => RcP_R hp
  · cases h
variable (r : List S26) (w : World) (hr0 : Kd.C k26 w A0 l0.length l0) (hc0 : l0.length ≤ c0) (hr1 : Kd.C k26 w A1 l1.length l1) (hc1 : l1.length ≤ c1)
include hr0 hc0 hr1 hc1
theorem region_Union.calls (h : region_Union.f l0 l1 = some r) :
    Calls Try.prog 12 #[.slice A0 l0.length c0, .slice A1 l1.length c1] w fun e w' => ∃ v0_, e = .returned v0_ ∧ Kd.R k26 26 w' w.heap.size (fun _ => True) v0_ r ∧ Below w.heap.size w w' := by
  unfold region_Union.f at h
  split at h
  · rename_i hk
    rw [Bool.and_eq_true] at hk
    obtain ⟨h1, h2⟩ := okL_64 hk.1
    obtain ⟨h3, h4⟩ := okL_64 hk.2
    obtain rfl := Option.some.inj h
    have := Union_any A0 A1 c0 c1 (l0.map toR) (l1.map toR) w h1 h3 h2 h4 (rds_of_C hr0) (rds_of_C hr1)
    rw [List.length_map, List.length_map] at this
    exact this.mono fun e w' hp => RcP_R hp
  · cases h
end
end Go.Proofs.Ytclpppejabfbbaa.PF
