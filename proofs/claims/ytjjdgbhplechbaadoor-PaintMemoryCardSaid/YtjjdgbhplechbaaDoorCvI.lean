/- Images in memory; an image by its buffer. Printed by gen_find.py. -/
import Derived.Test.YtjjdgbhplechbaaDoorCvD2
set_option linter.unusedVariables false
set_option linter.unusedSimpArgs false
namespace Go.Proofs.YtjjdgbhplechbaaDoor.Cv
open Go.RowKit Go.Proofs.YtjjdgbhplechbaaDoor.Kit

/-- an image, and where its points lie -/
structure Im where
  b : Int
  w : Int
  h : Int
  P : List Int
  A : Option Addr
  c : Nat
def zIm : Im := ⟨0, 0, 0, [], none, 0⟩
def imC (g : Im) : List Value := [.int .i64 g.b, .int .i64 g.w, .int .i64 g.h, .slice g.A g.P.length g.c]
theorem imC_len (g : Im) : (imC g).length = 4 := rfl
def findI (l : List Im) (i : Int) : Option Im := l.find? fun g => g.b == i
def opI (o : Option Im) : Im := o.getD zIm
theorem findI_at (l : List Im) (i : Int) (k : Nat) (hk : k < l.length) (hno : ∀ j (hj : j < l.length), j < k → l[j].b ≠ i) (h : l[k].b = i) : findI l i = some l[k] := by
  unfold findI
  induction l generalizing k with
  | nil => simp at hk
  | cons a l ih =>
    cases k with
    | zero => simp only [List.getElem_cons_zero] at h; rw [List.find?_cons_of_pos (by simpa using h)]; rfl
    | succ k =>
      have h0 := hno 0 (by simp) (by omega)
      simp only [List.getElem_cons_zero] at h0
      rw [List.find?_cons_of_neg (by simpa using h0)]
      exact ih k (by simpa using hk) (fun j hj hjk => by have := hno (j + 1) (by simpa using hj) (by omega); simpa using this) (by simpa using h)
theorem findI_none (l : List Im) (i : Int) (hno : ∀ j (hj : j < l.length), l[j].b ≠ i) : findI l i = none := by
  unfold findI
  rw [List.find?_eq_none]
  intro g hg
  obtain ⟨j, hj, rfl⟩ := List.mem_iff_getElem.1 hg
  simpa using hno j hj
/-- the images at A lie below block B -/
structure RdI (w : World) (B : Nat) (A : Option Addr) (l : List Im) : Prop where
  row : Rds w B 4 A l.length (l.flatMap imC)
  each : ∀ g ∈ l, Rds w B 1 g.A g.P.length (g.P.map (Value.int .u32))
  u32 : ∀ g ∈ l, ∀ v ∈ g.P, 0 ≤ v ∧ v < 4294967296
theorem RdI.be {w w' : World} {B : Nat} {A : Option Addr} {l : List Im} (h : RdI w B A l) (hb : Below B w w') : RdI w' B A l := ⟨h.row.be hb, fun g hg => (h.each g hg).be hb, h.u32⟩
theorem RdI.more {w : World} {B B' : Nat} {A : Option Addr} {l : List Im} (h : RdI w B A l) (hb : B ≤ B') : RdI w B' A l := ⟨h.row.more hb, fun g hg => (h.each g hg).more hb, h.u32⟩
theorem at4 {w : World} {B : Nat} {A : Option Addr} {l : List Im} (h : Rds w B 4 A l.length (l.flatMap imC)) {i : Nat} (hi : i < l.length) :
    ∃ ad, A = some ad ∧ ad.block < B ∧ w.cell? (ad.add (i * 4)) = some (.int .i64 l[i].b) ∧ w.cell? ⟨(ad.add (i * 4)).block, (ad.add (i * 4)).off + 1, none⟩ = some (.int .i64 l[i].w) ∧
      w.cell? ⟨(ad.add (i * 4)).block, (ad.add (i * 4)).off + 2, none⟩ = some (.int .i64 l[i].h) ∧ w.cell? ⟨(ad.add (i * 4)).block, (ad.add (i * 4)).off + 3, none⟩ = some (.slice l[i].A l[i].P.length l[i].c) := by
  obtain ⟨ad, e, hb, hc⟩ := Rds.elem imC 4 imC_len h hi
  exact ⟨ad, e, hb, hc 0 _ (by omega) rfl, by rw [add_at ad (i * 4) 0]; exact hc 1 _ (by omega) rfl, by rw [add_at ad (i * 4) 1]; exact hc 2 _ (by omega) rfl, by rw [add_at ad (i * 4) 2]; exact hc 3 _ (by omega) rfl⟩
set_option maxRecDepth 100000 in
set_option maxHeartbeats 4000000 in
theorem find_any (A : Option Addr) (c : Nat) (l : List Im) (i : Int) (w : World) (hl : l.length ≤ 1000000) (hr : Rds w w.heap.size 4 A l.length (l.flatMap imC)) :
    Calls Tryd.prog 34 #[.slice A l.length c, .int .i64 i] w fun e w' => e = .returned (.tuple #[.agg (imC (opI (findI l i))).toArray, .bool (findI l i).isSome]) ∧ Below w.heap.size w w' := by
  go_enter Tryd.func34, Tryd.ntmps34
  go_wp2
  generalize hwv : w.alloc _ = wv
  have Bz : Bk wv w.heap.size 73 #[.int .i64 0, .int .i64 0, .int .i64 0, .slice none 0 0] := by rw [← hwv]; exact Bk.new _ _ _
  have hbv : Below w.heap.size w wv := by rw [← hwv]; exact bl_alloc (Below.refl _ _) _
  clear hwv
  go_loopw [7, 10] (fun p j wr => ∃ k : Nat, k ≤ l.length ∧ j = .int .i64 k ∧ Bk wr w.heap.size 73 #[.int .i64 0, .int .i64 0, .int .i64 0, .slice none 0 0] ∧ Below w.heap.size w wr ∧ (∀ j (hj : j < l.length), j < k → l[j].b ≠ i)) (fun _ j _ => l.length - (intOf j).toNat)
  case atStart => exact ⟨0, by omega, rfl, Bz, hbv, fun j _ h => absurd h (by omega)⟩
  case round =>
    obtain ⟨k, hk, rfl, Bz, hbr, hno⟩ := hrel
    have HNO := Lib.hid hno
    clear hno
    by_cases hlt : k < l.length
    · obtain ⟨ad, rfl, hbl, c0, c1, c2, c3⟩ := at4 (hr.be hbr) hlt
      by_cases he : l[k].b = i
      · have HF := Lib.hid (findI_at l i k hlt HNO.out he)
        have hE : (l[k].b == i) = true := by rw [beq_iff_eq]; exact he
        clear he
        have hz := Bz.lt
        have hz0 := Bz.cell 0
        have hz1 := Bz.cell 1
        have hz2 := Bz.cell 2
        have hz3 := Bz.cell 3
        have hzf := Bz.frz
        go_wp2
        rw [HF.out]
        have hI : (Tryd.prog.info? 73).map (·.size) = some (#[.int .i64 l[k].b, .int .i64 l[k].w, .int .i64 l[k].h, .slice l[k].A l[k].P.length l[k].c] : Array Value).size := by kernel_rfl
        refine post_cell_tmp w.heap.size 73 #[.int .i64 l[k].b, .int .i64 l[k].w, .int .i64 l[k].h, .slice l[k].A l[k].P.length l[k].c] Tryd.results34 Tryd.underlying73 rfl hI rfl ?bk rfl ?fin
        case bk => exact (((((Bz.st 0 _).st 1 _).st 2 _).st 3 _).al _)
        case fin =>
          refine ⟨rfl, ?_⟩
          exact bl_alloc (bl_set (bl_set (bl_set (bl_set hbr (Nat.le_refl _) _) (Nat.le_refl _) _) (Nat.le_refl _) _) (Nat.le_refl _) _) _
      · have hE : (l[k].b == i) = false := by rw [beq_eq_false_iff_ne]; exact he
        have HE := Lib.hid he
        clear he
        go_wp2
        go_roundw
        case rel =>
          refine ⟨k + 1, by omega, by go_num, Bz.al _, bl_alloc hbr _, fun j hj hjk => ?_⟩
          rcases Nat.lt_or_ge j k with h | h
          · exact HNO.out j hj h
          · obtain rfl : j = k := by omega
            exact HE.out
        case measure => simp [intOf]; omega
    · obtain rfl : k = l.length := by omega
      have HF := Lib.hid (findI_none l i (fun j hj => HNO.out j hj hj))
      have hz := Bz.lt
      have hz0 := Bz.cell 0
      have hz1 := Bz.cell 1
      have hz2 := Bz.cell 2
      have hz3 := Bz.cell 3
      have hzf := Bz.frz
      go_wp2
      rw [HF.out]
      have hI : (Tryd.prog.info? 73).map (·.size) = some (#[.int .i64 0, .int .i64 0, .int .i64 0, .slice none 0 0] : Array Value).size := by kernel_rfl
      refine post_cell_tmp w.heap.size 73 #[.int .i64 0, .int .i64 0, .int .i64 0, .slice none 0 0] Tryd.results34 Tryd.underlying73 rfl hI rfl ?bk rfl ?fin
      case bk => exact ((((Bz.st 0 _).st 1 _).st 2 _).st 3 _)
      case fin =>
        refine ⟨rfl, ?_⟩
        exact bl_set (bl_set (bl_set (bl_set hbr (Nat.le_refl _) _) (Nat.le_refl _) _) (Nat.le_refl _) _) (Nat.le_refl _) _
set_option maxRecDepth 100000 in
set_option maxHeartbeats 4000000 in
theorem rfind_any (A : Option Addr) (c : Nat) (l : List Im) (i : Int) (w : World) (hl : l.length ≤ 1000000) (hr : Rds w w.heap.size 4 A l.length (l.flatMap imC)) :
    Calls Tryd.prog 30 #[.slice A l.length c, .int .i64 i] w fun e w' => e = .returned (.tuple #[.agg (imC (opI (findI l i))).toArray, .bool (findI l i).isSome]) ∧ Below w.heap.size w w' := by
  go_enter Tryd.func30, Tryd.ntmps30
  go_wp2
  generalize hwv : w.alloc _ = wv
  have Bz : Bk wv w.heap.size 62 #[.int .i64 0, .int .i64 0, .int .i64 0, .slice none 0 0] := by rw [← hwv]; exact Bk.new _ _ _
  have hbv : Below w.heap.size w wv := by rw [← hwv]; exact bl_alloc (Below.refl _ _) _
  clear hwv
  have hz := Bz.lt
  have hz0 := Bz.cell 0
  have hz1 := Bz.cell 1
  have hz2 := Bz.cell 2
  have hz3 := Bz.cell 3
  have hzf := Bz.frz
  replace hr := hr.be hbv
  go_loop [6] (fun j => ∃ k : Nat, k ≤ l.length ∧ j = .int .i64 k ∧ (∀ j (hj : j < l.length), j < k → l[j].b ≠ i)) (fun j => l.length - (intOf j).toNat)
  case atStart => exact ⟨0, by omega, rfl, fun j _ h => absurd h (by omega)⟩
  case round =>
    obtain ⟨k, hk, rfl, hno⟩ := hrel
    have HNO := Lib.hid hno
    clear hno
    by_cases hlt : k < l.length
    · obtain ⟨ad, rfl, hbl, c0, c1, c2, c3⟩ := at4 hr hlt
      by_cases he : l[k].b = i
      · have HF := Lib.hid (findI_at l i k hlt HNO.out he)
        have hE : (l[k].b == i) = true := by rw [beq_iff_eq]; exact he
        clear he
        go_wp2
        rw [HF.out]
        have hI : (Tryd.prog.info? 62).map (·.size) = some (#[.int .i64 l[k].b, .int .i64 l[k].w, .int .i64 l[k].h, .slice l[k].A l[k].P.length l[k].c] : Array Value).size := by kernel_rfl
        refine post_cell_tmp w.heap.size 62 #[.int .i64 l[k].b, .int .i64 l[k].w, .int .i64 l[k].h, .slice l[k].A l[k].P.length l[k].c] Tryd.results30 Tryd.underlying62 rfl hI rfl ?bk rfl ?fin
        case bk => exact ((((Bz.st 0 _).st 1 _).st 2 _).st 3 _)
        case fin =>
          refine ⟨rfl, ?_⟩
          exact bl_set (bl_set (bl_set (bl_set hbv (Nat.le_refl _) _) (Nat.le_refl _) _) (Nat.le_refl _) _) (Nat.le_refl _) _
      · have hE : (l[k].b == i) = false := by rw [beq_eq_false_iff_ne]; exact he
        have HE := Lib.hid he
        clear he
        go_wp2
        go_round
        case rel =>
          refine ⟨k + 1, by omega, by go_num, fun j hj hjk => ?_⟩
          rcases Nat.lt_or_ge j k with h | h
          · exact HNO.out j hj h
          · obtain rfl : j = k := by omega
            exact HE.out
        case measure => simp [intOf]; omega
    · obtain rfl : k = l.length := by omega
      have HF := Lib.hid (findI_none l i (fun j hj => HNO.out j hj hj))
      go_wp2
      rw [HF.out]
      have hI : (Tryd.prog.info? 62).map (·.size) = some (#[.int .i64 0, .int .i64 0, .int .i64 0, .slice none 0 0] : Array Value).size := by kernel_rfl
      refine post_cell_tmp w.heap.size 62 #[.int .i64 0, .int .i64 0, .int .i64 0, .slice none 0 0] Tryd.results30 Tryd.underlying62 rfl hI rfl ?bk rfl ?fin
      case bk => exact ((((Bz.st 0 _).st 1 _).st 2 _).st 3 _)
      case fin =>
        refine ⟨rfl, ?_⟩
        exact bl_set (bl_set (bl_set (bl_set hbv (Nat.le_refl _) _) (Nat.le_refl _) _) (Nat.le_refl _) _) (Nat.le_refl _) _
end Go.Proofs.YtjjdgbhplechbaaDoor.Cv
