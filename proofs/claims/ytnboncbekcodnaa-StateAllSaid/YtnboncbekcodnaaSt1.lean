/- Contracts of slices.Grow, slices.Concat and state.all, at three element types. -/
import Derived.Test.YtnboncbekcodnaaRows
import Derived.Test.YtnboncbekcodnaaSl
set_option linter.unusedVariables false
set_option linter.unusedSimpArgs false
namespace Go.Proofs.Ytnboncbekcodnaa.St
open Go.RowKit Go.Proofs.Ytnboncbekcodnaa.Kit

/-- The slices of a list of slices: address, length, capacity, cells. -/
structure Part where
  A : Option Addr
  n : Nat
  c : Nat
  xs : List Value
def Part.v (p : Part) : Value := .slice p.A p.n p.c
def total (L : List Part) : Nat := (L.map (·.n)).sum
def cat (L : List Part) : List Value := L.flatMap (·.xs)
theorem total_snoc (L : List Part) (p : Part) : total (L ++ [p]) = total L + p.n := by simp [total]
theorem cat_snoc (L : List Part) (p : Part) : cat (L ++ [p]) = cat L ++ p.xs := by simp [cat]
theorem total_take (L : List Part) (k : Nat) (h : k < L.length) : total (L.take (k + 1)) = total (L.take k) + L[k].n := by
  rw [List.take_succ_eq_append_getElem h, total_snoc]
theorem cat_take (L : List Part) (k : Nat) (h : k < L.length) : cat (L.take (k + 1)) = cat (L.take k) ++ L[k].xs := by
  rw [List.take_succ_eq_append_getElem h, cat_snoc]
theorem total_le (L : List Part) (k : Nat) : total (L.take k) ≤ total L := by
  have h : total L = total (L.take k) + total (L.drop k) := by
    unfold total
    rw [← List.sum_append, ← List.map_append, List.take_append_drop]
  omega

theorem infoChild : (Try.prog.info? 24).map (fun i => (i.zero, i.size, i.bytes)) = some (some (.agg #[.int .i64 0, .int .i64 0, .int .i64 0]), 3, 24) := by kernel_rfl
set_option maxHeartbeats 2000000 in
theorem growChild (m : Nat) (w : World) (hm : m ≤ 1000000000) :
    Calls Try.prog 41 #[.slice none 0 0, .int .i64 (m : Int)] w fun e w' => ∃ v, e = .returned v ∧ w'.ownsRow w.heap.size 24 3 v 0 [] ∧ Below w.heap.size w w' := by
  by_cases h0 : 0 < m
  · obtain ⟨i0, hi0, hz0, hz1, hz2⟩ := info_parts infoChild
    go_enter Try.func41, Try.ntmps41
    go_wp2_with (at_builtin; refine wpList_app_make _ rfl (.tmp 20) (.tmp 21) _ _ rfl w.heap.size 24 .i64 i0 _ 3 24 Try.underlying22 Try.underlying3 hi0 hz0 hz1 hz2 rfl (by omega) m rfl rfl h0 (by simp only [maxLen]; omega) (by omega) (Nat.le_refl _) ?_; intro g cap w1 hown hg hcap; have hb1 := (Below.refl w.heap.size w).grown hg (Nat.le_refl _) (by simp))
    go_ret
    exact ⟨_, rfl, hown, hb1⟩
  · obtain rfl : m = 0 := by omega
    go_enter Try.func41, Try.ntmps41
    go_wp2
    go_ret
    exact ⟨_, rfl, World.ownsRow_nil _ _ _ _, Below.refl _ _⟩
set_option maxHeartbeats 4000000 in
theorem concatChild (A : Option Addr) (c : Nat) (L : List Part) (w : World) (hL : Rds w w.heap.size 1 A L.length (L.map Part.v)) (hP : ∀ p ∈ L, Rds w w.heap.size 3 p.A p.n p.xs) (h1 : ∀ p ∈ L, ∀ u ∈ p.xs, u.oneCell' = true)
    (hn : L.length ≤ 1000) (ht : total L ≤ 1000000000) :
    Calls Try.prog 38 #[.slice A L.length c] w fun e w' => ∃ v, e = .returned v ∧ w'.ownsRow w.heap.size 24 3 v (total L) (cat L) ∧ Below w.heap.size w w' := by
  obtain ⟨i0, hi0, hz0, hz1, hz2⟩ := info_parts infoChild
  go_enter Try.func38, Try.ntmps38
  go_wp2
  go_loop [3, 5, 11] (fun s x i => ∃ k : Nat, k ≤ L.length ∧ i = .int .i64 k ∧ s = .int .i64 (total (L.take k) : Nat)) (fun _ _ i => L.length - (intOf i).toNat)
  case atStart => exact ⟨0, by omega, rfl, rfl⟩
  case round =>
    obtain ⟨k, hk, rfl, rfl⟩ := hrel
    have htk := total_le L k
    by_cases hlt : k < L.length
    · have hts := total_take L k hlt
      have htk1 := total_le L (k + 1)
      have HTS := Lib.hid hts
      have hb1 : total (L.take k) + L[k].n ≤ 1000000000 := by omega
      clear hts htk1
      obtain ⟨ad, rfl, hbl, hc⟩ := hL.2 (by omega)
      have hc0 : w.cell? (ad.add k) = some (.slice L[k].A L[k].n L[k].c) := hc k _ (by rw [List.getElem?_map, List.getElem?_eq_getElem hlt]; rfl)
      clear hc
      generalize L[k].n = nk at *
      go_wp2
      go_round
      case rel => exact ⟨k + 1, by omega, by go_num, by rw [HTS.out]; go_num⟩
      case measure => simp [intOf]; omega
    · obtain rfl : k = L.length := by omega
      rw [List.take_length]
      go_wp2_with fail
      refine (growChild (total L) _ ht).mono ?_
      rintro e w1 ⟨v1, rfl, hown1, hbw1⟩
      go_wp2_with fail
      go_loopw [6, 8, 27] (fun v x i wr => ∃ k : Nat, k ≤ L.length ∧ i = .int .i64 k ∧ wr.ownsRow w.heap.size 24 3 v (total (L.take k)) (cat (L.take k)) ∧ Below w.heap.size w wr) (fun _ _ i _ => L.length - (intOf i).toNat)
      case atStart => exact ⟨0, by omega, rfl, hown1, hbw1⟩
      case round =>
        obtain ⟨k, hk, rfl, hown, hbr⟩ := hrel
        have htk := total_le L k
        by_cases hlt : k < L.length
        · have hts := total_take L k hlt
          have htk1 := total_le L (k + 1)
          have HTS := Lib.hid hts
          have HCS := Lib.hid (cat_take L k hlt)
          have hb1 : total (L.take k) + L[k].n ≤ 1000000000 := by omega
          clear hts htk1
          obtain ⟨ad, rfl, hbl, hc⟩ := (hL.be hbr).2 (by omega)
          have hc0 : wr.cell? (ad.add k) = some (.slice L[k].A L[k].n L[k].c) := hc k _ (by rw [List.getElem?_map, List.getElem?_eq_getElem hlt]; rfl)
          have hmem : L[k] ∈ L := List.getElem_mem hlt
          have hPk := (hP _ hmem).be hbr
          have h1k := h1 _ hmem
          clear hc
          generalize L[k] = p at *
          go_wp2_with (at_builtin; refine wpList_app _ rfl (.tmp 31) (.tmp 32) _ rfl w.heap.size 24 i0 _ 3 24 Try.underlying22 hi0 hz0 hz1 hz2 rfl (by omega) _ _ _ rfl hown w.heap.size p.A p.n p.c p.xs rfl hPk h1k (by simp only [maxLen]; omega) (by omega) hbr.size ?_; intro v2 w2 hown2 hg2 hat2)
          go_roundw
          case rel =>
            refine ⟨k + 1, by omega, by go_num, by rw [HTS.out, HCS.out]; exact hown2, hbr.grown hg2 hbr.size ?_⟩
            intro g hg
            exact (hown.lt g hg).1
          case measure => simp [intOf]; omega
        · obtain rfl : k = L.length := by omega
          rw [List.take_length] at hown
          go_wp2
          go_ret
          exact ⟨_, rfl, hown, hbr⟩
set_option maxHeartbeats 2000000 in
theorem allChild (A : Option Addr) (c : Nat) (L : List Part) (w : World) (hL : Rds w w.heap.size 1 A L.length (L.map Part.v)) (hP : ∀ p ∈ L, Rds w w.heap.size 3 p.A p.n p.xs) (h1 : ∀ p ∈ L, ∀ u ∈ p.xs, u.oneCell' = true)
    (hn : L.length ≤ 1000) (ht : total L ≤ 1000000000) :
    Calls Try.prog 26 #[.slice A L.length c] w fun e w' => ∃ v, e = .returned v ∧ w'.ownsRow w.heap.size 24 3 v (total L) (cat L) ∧ Below w.heap.size w w' := by
  go_enter Try.func26, Try.ntmps26
  go_wp2_with fail
  refine (concatChild A c L _ hL hP h1 hn ht).mono ?_
  rintro e w1 ⟨v1, rfl, hown1, hbw1⟩
  go_wp2
  go_ret
  exact ⟨_, rfl, hown1, hbw1⟩

theorem infoRect : (Try.prog.info? 47).map (fun i => (i.zero, i.size, i.bytes)) = some (some (.agg #[.int .i64 0, .int .i64 0, .int .i64 0, .int .i64 0]), 4, 32) := by kernel_rfl
set_option maxHeartbeats 2000000 in
theorem growRect (m : Nat) (w : World) (hm : m ≤ 1000000000) :
    Calls Try.prog 42 #[.slice none 0 0, .int .i64 (m : Int)] w fun e w' => ∃ v, e = .returned v ∧ w'.ownsRow w.heap.size 47 4 v 0 [] ∧ Below w.heap.size w w' := by
  by_cases h0 : 0 < m
  · obtain ⟨i0, hi0, hz0, hz1, hz2⟩ := info_parts infoRect
    go_enter Try.func42, Try.ntmps42
    go_wp2_with (at_builtin; refine wpList_app_make _ rfl (.tmp 20) (.tmp 21) _ _ rfl w.heap.size 47 .i64 i0 _ 4 32 Try.underlying30 Try.underlying3 hi0 hz0 hz1 hz2 rfl (by omega) m rfl rfl h0 (by simp only [maxLen]; omega) (by omega) (Nat.le_refl _) ?_; intro g cap w1 hown hg hcap; have hb1 := (Below.refl w.heap.size w).grown hg (Nat.le_refl _) (by simp))
    go_ret
    exact ⟨_, rfl, hown, hb1⟩
  · obtain rfl : m = 0 := by omega
    go_enter Try.func42, Try.ntmps42
    go_wp2
    go_ret
    exact ⟨_, rfl, World.ownsRow_nil _ _ _ _, Below.refl _ _⟩
set_option maxHeartbeats 4000000 in
theorem concatRect (A : Option Addr) (c : Nat) (L : List Part) (w : World) (hL : Rds w w.heap.size 1 A L.length (L.map Part.v)) (hP : ∀ p ∈ L, Rds w w.heap.size 4 p.A p.n p.xs) (h1 : ∀ p ∈ L, ∀ u ∈ p.xs, u.oneCell' = true)
    (hn : L.length ≤ 1000) (ht : total L ≤ 1000000000) :
    Calls Try.prog 39 #[.slice A L.length c] w fun e w' => ∃ v, e = .returned v ∧ w'.ownsRow w.heap.size 47 4 v (total L) (cat L) ∧ Below w.heap.size w w' := by
  obtain ⟨i0, hi0, hz0, hz1, hz2⟩ := info_parts infoRect
  go_enter Try.func39, Try.ntmps39
  go_wp2
  go_loop [3, 5, 11] (fun s x i => ∃ k : Nat, k ≤ L.length ∧ i = .int .i64 k ∧ s = .int .i64 (total (L.take k) : Nat)) (fun _ _ i => L.length - (intOf i).toNat)
  case atStart => exact ⟨0, by omega, rfl, rfl⟩
  case round =>
    obtain ⟨k, hk, rfl, rfl⟩ := hrel
    have htk := total_le L k
    by_cases hlt : k < L.length
    · have hts := total_take L k hlt
      have htk1 := total_le L (k + 1)
      have HTS := Lib.hid hts
      have hb1 : total (L.take k) + L[k].n ≤ 1000000000 := by omega
      clear hts htk1
      obtain ⟨ad, rfl, hbl, hc⟩ := hL.2 (by omega)
      have hc0 : w.cell? (ad.add k) = some (.slice L[k].A L[k].n L[k].c) := hc k _ (by rw [List.getElem?_map, List.getElem?_eq_getElem hlt]; rfl)
      clear hc
      generalize L[k].n = nk at *
      go_wp2
      go_round
      case rel => exact ⟨k + 1, by omega, by go_num, by rw [HTS.out]; go_num⟩
      case measure => simp [intOf]; omega
    · obtain rfl : k = L.length := by omega
      rw [List.take_length]
      go_wp2_with fail
      refine (growRect (total L) _ ht).mono ?_
      rintro e w1 ⟨v1, rfl, hown1, hbw1⟩
      go_wp2_with fail
      go_loopw [6, 8, 27] (fun v x i wr => ∃ k : Nat, k ≤ L.length ∧ i = .int .i64 k ∧ wr.ownsRow w.heap.size 47 4 v (total (L.take k)) (cat (L.take k)) ∧ Below w.heap.size w wr) (fun _ _ i _ => L.length - (intOf i).toNat)
      case atStart => exact ⟨0, by omega, rfl, hown1, hbw1⟩
      case round =>
        obtain ⟨k, hk, rfl, hown, hbr⟩ := hrel
        have htk := total_le L k
        by_cases hlt : k < L.length
        · have hts := total_take L k hlt
          have htk1 := total_le L (k + 1)
          have HTS := Lib.hid hts
          have HCS := Lib.hid (cat_take L k hlt)
          have hb1 : total (L.take k) + L[k].n ≤ 1000000000 := by omega
          clear hts htk1
          obtain ⟨ad, rfl, hbl, hc⟩ := (hL.be hbr).2 (by omega)
          have hc0 : wr.cell? (ad.add k) = some (.slice L[k].A L[k].n L[k].c) := hc k _ (by rw [List.getElem?_map, List.getElem?_eq_getElem hlt]; rfl)
          have hmem : L[k] ∈ L := List.getElem_mem hlt
          have hPk := (hP _ hmem).be hbr
          have h1k := h1 _ hmem
          clear hc
          generalize L[k] = p at *
          go_wp2_with (at_builtin; refine wpList_app _ rfl (.tmp 31) (.tmp 32) _ rfl w.heap.size 47 i0 _ 4 32 Try.underlying30 hi0 hz0 hz1 hz2 rfl (by omega) _ _ _ rfl hown w.heap.size p.A p.n p.c p.xs rfl hPk h1k (by simp only [maxLen]; omega) (by omega) hbr.size ?_; intro v2 w2 hown2 hg2 hat2)
          go_roundw
          case rel =>
            refine ⟨k + 1, by omega, by go_num, by rw [HTS.out, HCS.out]; exact hown2, hbr.grown hg2 hbr.size ?_⟩
            intro g hg
            exact (hown.lt g hg).1
          case measure => simp [intOf]; omega
        · obtain rfl : k = L.length := by omega
          rw [List.take_length] at hown
          go_wp2
          go_ret
          exact ⟨_, rfl, hown, hbr⟩
set_option maxHeartbeats 2000000 in
theorem allRect (A : Option Addr) (c : Nat) (L : List Part) (w : World) (hL : Rds w w.heap.size 1 A L.length (L.map Part.v)) (hP : ∀ p ∈ L, Rds w w.heap.size 4 p.A p.n p.xs) (h1 : ∀ p ∈ L, ∀ u ∈ p.xs, u.oneCell' = true)
    (hn : L.length ≤ 1000) (ht : total L ≤ 1000000000) :
    Calls Try.prog 27 #[.slice A L.length c] w fun e w' => ∃ v, e = .returned v ∧ w'.ownsRow w.heap.size 47 4 v (total L) (cat L) ∧ Below w.heap.size w w' := by
  go_enter Try.func27, Try.ntmps27
  go_wp2_with fail
  refine (concatRect A c L _ hL hP h1 hn ht).mono ?_
  rintro e w1 ⟨v1, rfl, hown1, hbw1⟩
  go_wp2
  go_ret
  exact ⟨_, rfl, hown1, hbw1⟩

theorem infoInt : (Try.prog.info? 3).map (fun i => (i.zero, i.size, i.bytes)) = some (some (.int .i64 0), 1, 8) := by kernel_rfl
set_option maxHeartbeats 2000000 in
theorem growInt (m : Nat) (w : World) (hm : m ≤ 1000000000) :
    Calls Try.prog 43 #[.slice none 0 0, .int .i64 (m : Int)] w fun e w' => ∃ v, e = .returned v ∧ w'.ownsRow w.heap.size 3 1 v 0 [] ∧ Below w.heap.size w w' := by
  by_cases h0 : 0 < m
  · obtain ⟨i0, hi0, hz0, hz1, hz2⟩ := info_parts infoInt
    go_enter Try.func43, Try.ntmps43
    go_wp2_with (at_builtin; refine wpList_app_make _ rfl (.tmp 20) (.tmp 21) _ _ rfl w.heap.size 3 .i64 i0 _ 1 8 Try.underlying31 Try.underlying3 hi0 hz0 hz1 hz2 rfl (by omega) m rfl rfl h0 (by simp only [maxLen]; omega) (by omega) (Nat.le_refl _) ?_; intro g cap w1 hown hg hcap; have hb1 := (Below.refl w.heap.size w).grown hg (Nat.le_refl _) (by simp))
    go_ret
    exact ⟨_, rfl, hown, hb1⟩
  · obtain rfl : m = 0 := by omega
    go_enter Try.func43, Try.ntmps43
    go_wp2
    go_ret
    exact ⟨_, rfl, World.ownsRow_nil _ _ _ _, Below.refl _ _⟩
set_option maxHeartbeats 4000000 in
theorem concatInt (A : Option Addr) (c : Nat) (L : List Part) (w : World) (hL : Rds w w.heap.size 1 A L.length (L.map Part.v)) (hP : ∀ p ∈ L, Rds w w.heap.size 1 p.A p.n p.xs) (h1 : ∀ p ∈ L, ∀ u ∈ p.xs, u.oneCell' = true)
    (hn : L.length ≤ 1000) (ht : total L ≤ 1000000000) :
    Calls Try.prog 40 #[.slice A L.length c] w fun e w' => ∃ v, e = .returned v ∧ w'.ownsRow w.heap.size 3 1 v (total L) (cat L) ∧ Below w.heap.size w w' := by
  obtain ⟨i0, hi0, hz0, hz1, hz2⟩ := info_parts infoInt
  go_enter Try.func40, Try.ntmps40
  go_wp2
  go_loop [3, 5, 11] (fun s x i => ∃ k : Nat, k ≤ L.length ∧ i = .int .i64 k ∧ s = .int .i64 (total (L.take k) : Nat)) (fun _ _ i => L.length - (intOf i).toNat)
  case atStart => exact ⟨0, by omega, rfl, rfl⟩
  case round =>
    obtain ⟨k, hk, rfl, rfl⟩ := hrel
    have htk := total_le L k
    by_cases hlt : k < L.length
    · have hts := total_take L k hlt
      have htk1 := total_le L (k + 1)
      have HTS := Lib.hid hts
      have hb1 : total (L.take k) + L[k].n ≤ 1000000000 := by omega
      clear hts htk1
      obtain ⟨ad, rfl, hbl, hc⟩ := hL.2 (by omega)
      have hc0 : w.cell? (ad.add k) = some (.slice L[k].A L[k].n L[k].c) := hc k _ (by rw [List.getElem?_map, List.getElem?_eq_getElem hlt]; rfl)
      clear hc
      generalize L[k].n = nk at *
      go_wp2
      go_round
      case rel => exact ⟨k + 1, by omega, by go_num, by rw [HTS.out]; go_num⟩
      case measure => simp [intOf]; omega
    · obtain rfl : k = L.length := by omega
      rw [List.take_length]
      go_wp2_with fail
      refine (growInt (total L) _ ht).mono ?_
      rintro e w1 ⟨v1, rfl, hown1, hbw1⟩
      go_wp2_with fail
      go_loopw [6, 8, 27] (fun v x i wr => ∃ k : Nat, k ≤ L.length ∧ i = .int .i64 k ∧ wr.ownsRow w.heap.size 3 1 v (total (L.take k)) (cat (L.take k)) ∧ Below w.heap.size w wr) (fun _ _ i _ => L.length - (intOf i).toNat)
      case atStart => exact ⟨0, by omega, rfl, hown1, hbw1⟩
      case round =>
        obtain ⟨k, hk, rfl, hown, hbr⟩ := hrel
        have htk := total_le L k
        by_cases hlt : k < L.length
        · have hts := total_take L k hlt
          have htk1 := total_le L (k + 1)
          have HTS := Lib.hid hts
          have HCS := Lib.hid (cat_take L k hlt)
          have hb1 : total (L.take k) + L[k].n ≤ 1000000000 := by omega
          clear hts htk1
          obtain ⟨ad, rfl, hbl, hc⟩ := (hL.be hbr).2 (by omega)
          have hc0 : wr.cell? (ad.add k) = some (.slice L[k].A L[k].n L[k].c) := hc k _ (by rw [List.getElem?_map, List.getElem?_eq_getElem hlt]; rfl)
          have hmem : L[k] ∈ L := List.getElem_mem hlt
          have hPk := (hP _ hmem).be hbr
          have h1k := h1 _ hmem
          clear hc
          generalize L[k] = p at *
          go_wp2_with (at_builtin; refine wpList_app _ rfl (.tmp 31) (.tmp 32) _ rfl w.heap.size 3 i0 _ 1 8 Try.underlying31 hi0 hz0 hz1 hz2 rfl (by omega) _ _ _ rfl hown w.heap.size p.A p.n p.c p.xs rfl hPk h1k (by simp only [maxLen]; omega) (by omega) hbr.size ?_; intro v2 w2 hown2 hg2 hat2)
          go_roundw
          case rel =>
            refine ⟨k + 1, by omega, by go_num, by rw [HTS.out, HCS.out]; exact hown2, hbr.grown hg2 hbr.size ?_⟩
            intro g hg
            exact (hown.lt g hg).1
          case measure => simp [intOf]; omega
        · obtain rfl : k = L.length := by omega
          rw [List.take_length] at hown
          go_wp2
          go_ret
          exact ⟨_, rfl, hown, hbr⟩
set_option maxHeartbeats 2000000 in
theorem allInt (A : Option Addr) (c : Nat) (L : List Part) (w : World) (hL : Rds w w.heap.size 1 A L.length (L.map Part.v)) (hP : ∀ p ∈ L, Rds w w.heap.size 1 p.A p.n p.xs) (h1 : ∀ p ∈ L, ∀ u ∈ p.xs, u.oneCell' = true)
    (hn : L.length ≤ 1000) (ht : total L ≤ 1000000000) :
    Calls Try.prog 28 #[.slice A L.length c] w fun e w' => ∃ v, e = .returned v ∧ w'.ownsRow w.heap.size 3 1 v (total L) (cat L) ∧ Below w.heap.size w w' := by
  go_enter Try.func28, Try.ntmps28
  go_wp2_with fail
  refine (concatInt A c L _ hL hP h1 hn ht).mono ?_
  rintro e w1 ⟨v1, rfl, hown1, hbw1⟩
  go_wp2
  go_ret
  exact ⟨_, rfl, hown1, hbw1⟩

end Go.Proofs.Ytnboncbekcodnaa.St
