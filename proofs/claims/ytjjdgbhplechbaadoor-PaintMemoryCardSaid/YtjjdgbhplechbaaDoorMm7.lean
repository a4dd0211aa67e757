/- The bytes of a memory that is written point by point. No program's walk. -/
import Derived.Test.YtjjdgbhplechbaaDoorMm6
set_option linter.unusedVariables false
set_option linter.unusedSimpArgs false
namespace Go.Proofs.YtjjdgbhplechbaaDoor.Mm
open Go.RowKit Go.Proofs.YtjjdgbhplechbaaDoor.Kit Go.Proofs.YtjjdgbhplechbaaDoor.Cv Go.Proofs.YtjjdgbhplechbaaDoor.Pix
theorem bt_wr {L M : List Int} {k : Nat} (h : k + M.length ≤ L.length) (i : Nat) : bt (wrB L M k) i = if k ≤ i ∧ i < k + M.length then M.getD (i - k) 0 else bt L i := by
  have hm : min k L.length = k := by omega
  unfold bt wrB
  simp only [List.getD_eq_getElem?_getD]
  by_cases h1 : i < k
  · rw [if_neg (by omega), List.getElem?_append_left (by simp; omega), List.getElem?_append_left (by simp; omega), List.getElem?_take, if_pos h1]
  · by_cases h2 : i < k + M.length
    · rw [if_pos ⟨by omega, h2⟩, List.getElem?_append_left (by simp; omega), List.getElem?_append_right (by simp; omega)]
      simp [hm]
    · rw [if_neg (by omega), List.getElem?_append_right (by simp; omega), List.getElem?_drop]
      simp only [List.length_append, List.length_take, hm]
      rw [show k + M.length + (i - (k + M.length)) = i by omega]
def c4 (v : Int) : List Int := [v % 256, v / 256 % 256, v / 65536 % 256, v / 16777216 % 256]
theorem wdk_in {L : List Int} {j : Nat} {v : Int} (h : j + 4 ≤ L.length) (h0 : 0 ≤ v) (h1 : v < 4294967296) : wdk (wrB L (c4 v) j) j 4 = v := by
  show bt (wrB L (c4 v) j) j + bt (wrB L (c4 v) j) (j + 1) * 256 + bt (wrB L (c4 v) j) (j + 2) * 65536 + bt (wrB L (c4 v) j) (j + 3) * 16777216 = v
  have hl : (c4 v).length = 4 := rfl
  rw [bt_wr (by rw [hl]; exact h), bt_wr (by rw [hl]; exact h), bt_wr (by rw [hl]; exact h), bt_wr (by rw [hl]; exact h), hl, if_pos (by omega), if_pos (by omega), if_pos (by omega), if_pos (by omega)]
  rw [show j - j = 0 by omega, show j + 1 - j = 1 by omega, show j + 2 - j = 2 by omega, show j + 3 - j = 3 by omega]
  show v % 256 + v / 256 % 256 * 256 + v / 65536 % 256 * 65536 + v / 16777216 % 256 * 16777216 = v
  omega
theorem wdk_out {L : List Int} {i j : Nat} {v : Int} (h : j + 4 ≤ L.length) (hij : i + 4 ≤ j ∨ j + 4 ≤ i) : wdk (wrB L (c4 v) j) i 4 = wdk L i 4 := by
  show bt (wrB L (c4 v) j) i + bt (wrB L (c4 v) j) (i + 1) * 256 + bt (wrB L (c4 v) j) (i + 2) * 65536 + bt (wrB L (c4 v) j) (i + 3) * 16777216 = bt L i + bt L (i + 1) * 256 + bt L (i + 2) * 65536 + bt L (i + 3) * 16777216
  have hl : (c4 v).length = 4 := rfl
  rw [bt_wr (by rw [hl]; exact h), bt_wr (by rw [hl]; exact h), bt_wr (by rw [hl]; exact h), bt_wr (by rw [hl]; exact h), hl, if_neg (by omega), if_neg (by omega), if_neg (by omega), if_neg (by omega)]
theorem wr_bd {L : List Int} {j : Nat} {v : Int} (hL : ∀ u ∈ L, 0 ≤ u ∧ u < 256) : ∀ u ∈ wrB L (c4 v) j, 0 ≤ u ∧ u < 256 := by
  intro u hu
  unfold wrB at hu
  rcases List.mem_append.1 hu with hu | hu
  · rcases List.mem_append.1 hu with hu | hu
    · exact hL u (List.mem_of_mem_take hu)
    · unfold c4 at hu
      simp only [List.mem_cons, List.not_mem_nil, or_false] at hu
      omega
  · exact hL u (List.mem_of_mem_drop hu)
/-- the bytes, the points of the rows above y written, and x of row y -/
structure Put (L : List Int) (off sd W : Nat) (C : List Int) (y x : Nat) : Prop where
  len : L.length = 1000
  bd : ∀ u ∈ L, 0 ≤ u ∧ u < 256
  eq : ∀ y' x', x' < W → (y' < y ∨ (y' = y ∧ x' < x)) → wdk L (off + sd * y' + 4 * x') 4 = C.getD (y' * W + x') 0
theorem Put.start (off sd W : Nat) (C : List Int) : Put (List.replicate 1000 0) off sd W C 0 0 :=
  ⟨List.length_replicate, fun u hu => by obtain rfl := (List.mem_replicate.1 hu).2; omega, fun y' x' _ h => by omega⟩
theorem Put.row {L C : List Int} {off sd W y : Nat} (h : Put L off sd W C y W) : Put L off sd W C (y + 1) 0 :=
  ⟨h.len, h.bd, fun y' x' hx hy => h.eq y' x' hx (by omega)⟩
theorem Put.step {L C : List Int} {off sd W y x : Nat} {v : Int} (h : Put L off sd W C y x) (hx : x < W) (hs : 4 * W ≤ sd) (hj : off + sd * y + 4 * x + 4 ≤ 1000) (hv : C.getD (y * W + x) 0 = v) (h0 : 0 ≤ v) (h1 : v < 4294967296) :
    Put (wrB L (c4 v) (off + sd * y + 4 * x)) off sd W C y (x + 1) := by
  have hl := h.len
  refine ⟨by rw [wrB_len (by show _ + 4 ≤ _; omega)]; exact hl, wr_bd h.bd, fun y' x' hx' hy => ?_⟩
  by_cases he : y' = y ∧ x' = x
  · obtain ⟨rfl, rfl⟩ := he
    rw [wdk_in (by omega) h0 h1, hv]
  · rw [wdk_out (by omega) ?_]
    · exact h.eq y' x' hx' (by omega)
    · left
      rcases Nat.lt_or_ge y' y with hlt | hge
      · have := Nat.mul_le_mul_left sd (show y' + 1 ≤ y from hlt)
        rw [Nat.mul_succ] at this
        omega
      · obtain rfl : y' = y := by omega
        omega
theorem Put.px {L C : List Int} {off sd W H y x : Nat} (h : Put L off sd W C H 0) (hy : y < H) (hx : x < W) : (ldL L off sd W (H * W))[y * W + x]? = some (ld (C.getD (y * W + x) 0) 1) := by
  have hlt : y * W + x < H * W := by
    have := Nat.mul_le_mul_right W (show y + 1 ≤ H from hy)
    rw [Nat.succ_mul] at this
    omega
  have e1 : (y * W + x) / W = y := by rw [Nat.mul_comm, Nat.mul_add_div (by omega), Nat.div_eq_of_lt hx]; omega
  have e2 : (y * W + x) % W = x := by rw [Nat.mul_comm, Nat.mul_add_mod, Nat.mod_eq_of_lt hx]
  unfold ldL
  rw [List.getElem?_map, List.getElem?_range hlt, Option.map_some, e1, e2, h.eq y x hx (.inl hy)]
theorem ld_bd {v : Int} (f : Int) (h0 : 0 ≤ v) (h1 : v < 4294967296) : 0 ≤ ld v f ∧ ld v f < 4294967296 := by
  unfold ld
  split
  · exact ⟨h0, h1⟩
  · split <;> omega
theorem ldL_bd {L : List Int} {off sd W n : Nat} (h : ∀ v ∈ L, 0 ≤ v ∧ v < 256) : ∀ v ∈ ldL L off sd W n, 0 ≤ v ∧ v < 4294967296 := by
  intro v hv
  obtain ⟨i, _, rfl⟩ := List.mem_map.1 hv
  have := wdk_bd h (off + sd * (i / W) + 4 * (i % W))
  exact ld_bd 1 this.1 this.2
end Go.Proofs.YtjjdgbhplechbaaDoor.Mm
