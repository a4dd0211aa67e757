/- Plain laws on colours: parts, join, cut, scale, over, as numbers; no program. -/
import Derived.Laws.BitsAllLaws
import Derived.Laws.BitsLemmas
import Derived.RowKit
set_option linter.unusedVariables false
set_option linter.unusedSimpArgs false
namespace Go.Proofs.YtjjdgbhplechbaaDoor.Pix
open Go.RowKit

def cut (n : Int) : Int := if n < 0 then 0 else if 255 < n then 255 else n
def pa (v : Int) : Int := v / 16777216 % 256
def pr (v : Int) : Int := v / 65536 % 256
def pg (v : Int) : Int := v / 256 % 256
def pb (v : Int) : Int := v % 256
def jn (a r g b : Int) : Int := cut a * 16777216 + cut r * 65536 + cut g * 256 + cut b
def scl (x y : Int) : Int := (cut x * cut y + 127) / 255
def ovr (u o : Int) : Int :=
  jn (pa o + scl (pa u) (255 - pa o)) (pr o + scl (pr u) (255 - pa o)) (pg o + scl (pg u) (255 - pa o)) (pb o + scl (pb u) (255 - pa o))
def ld (v f : Int) : Int := if f = 0 then v else if f = 1 then v % 16777216 + 4278190080 else 0

theorem cut_bd (n : Int) : 0 ≤ cut n ∧ cut n ≤ 255 := by unfold cut; split <;> (try split) <;> omega
theorem cut_id {n : Int} (h0 : 0 ≤ n) (h1 : n ≤ 255) : cut n = n := by unfold cut; rw [if_neg (by omega), if_neg (by omega)]
theorem pa_bd (n : Int) : 0 ≤ pa n ∧ pa n ≤ 255 := by unfold pa; omega
theorem pr_bd (n : Int) : 0 ≤ pr n ∧ pr n ≤ 255 := by unfold pr; omega
theorem pg_bd (n : Int) : 0 ≤ pg n ∧ pg n ≤ 255 := by unfold pg; omega
theorem pb_bd (n : Int) : 0 ≤ pb n ∧ pb n ≤ 255 := by unfold pb; omega
theorem mul_bd {x y : Int} (h0 : 0 ≤ x) (h1 : x ≤ 255) (h2 : 0 ≤ y) (h3 : y ≤ 255) : 0 ≤ x * y ∧ x * y ≤ 65025 := by
  refine ⟨Int.mul_nonneg h0 h2, ?_⟩
  have := Int.mul_le_mul h1 h3 h2 (by omega)
  omega
theorem scl_bd (x y : Int) : 0 ≤ scl x y ∧ scl x y ≤ 255 := by
  have hx := cut_bd x
  have hy := cut_bd y
  have := mul_bd hx.1 hx.2 hy.1 hy.2
  unfold scl; omega
theorem jn_bd (a r g b : Int) : 0 ≤ jn a r g b ∧ jn a r g b < 4294967296 := by
  have h1 := cut_bd a
  have h2 := cut_bd r
  have h3 := cut_bd g
  have h4 := cut_bd b
  unfold jn; omega
theorem ovr_bd (u o : Int) : 0 ≤ ovr u o ∧ ovr u o < 4294967296 := jn_bd _ _ _ _
theorem pa_jn (a r g b : Int) : pa (jn a r g b) = cut a := by
  have h1 := cut_bd a
  have h2 := cut_bd r
  have h3 := cut_bd g
  have h4 := cut_bd b
  unfold pa jn; omega
theorem pr_jn (a r g b : Int) : pr (jn a r g b) = cut r := by
  have h1 := cut_bd a
  have h2 := cut_bd r
  have h3 := cut_bd g
  have h4 := cut_bd b
  unfold pr jn; omega
theorem pg_jn (a r g b : Int) : pg (jn a r g b) = cut g := by
  have h1 := cut_bd a
  have h2 := cut_bd r
  have h3 := cut_bd g
  have h4 := cut_bd b
  unfold pg jn; omega
theorem pb_jn (a r g b : Int) : pb (jn a r g b) = cut b := by
  have h1 := cut_bd a
  have h2 := cut_bd r
  have h3 := cut_bd g
  have h4 := cut_bd b
  unfold pb jn; omega
theorem jn_parts {u : Int} (h0 : 0 ≤ u) (h1 : u < 4294967296) : jn (pa u) (pr u) (pg u) (pb u) = u := by
  have h2 := pa_bd u
  have h3 := pr_bd u
  have h4 := pg_bd u
  have h5 := pb_bd u
  unfold jn
  rw [cut_id h2.1 h2.2, cut_id h3.1 h3.2, cut_id h4.1 h4.2, cut_id h5.1 h5.2]
  unfold pa pr pg pb; omega
theorem scl_0 (x : Int) : scl x 0 = 0 := by unfold scl; rw [cut_id (n := 0) (by omega) (by omega)]; simp
theorem scl_0l (x : Int) : scl 0 x = 0 := by unfold scl; rw [cut_id (n := 0) (by omega) (by omega)]; simp
theorem scl_255 {x : Int} (h0 : 0 ≤ x) (h1 : x ≤ 255) : scl x 255 = x := by
  unfold scl; rw [cut_id (n := 255) (by omega) (by omega), cut_id h0 h1]; omega
theorem scl_comm (x y : Int) : scl x y = scl y x := by unfold scl; rw [Int.mul_comm]
theorem scl_mono {a b c : Int} (h : b ≤ c) : scl a b ≤ scl a c := by
  have ha := cut_bd a
  have hbc : cut b ≤ cut c := by unfold cut; split <;> (try split) <;> (try split) <;> (try split) <;> omega
  have := Int.mul_le_mul_of_nonneg_left hbc ha.1
  unfold scl; omega
/-- With a 255 the upper one is seen. -/
theorem ovr_full {u o : Int} (h0 : 0 ≤ o) (h1 : o < 4294967296) (h : pa o = 255) : ovr u o = o := by
  unfold ovr
  rw [h]
  simp only [show (255 : Int) - 255 = 0 from rfl, scl_0, Int.add_zero]
  rw [← h]; exact jn_parts h0 h1
theorem ovr_none {u : Int} (h0 : 0 ≤ u) (h1 : u < 4294967296) : ovr u 0 = u := by
  have h2 := pa_bd u
  have h3 := pr_bd u
  have h4 := pg_bd u
  have h5 := pb_bd u
  have e : pa 0 = 0 ∧ pr 0 = 0 ∧ pg 0 = 0 ∧ pb 0 = 0 := by decide
  unfold ovr
  rw [e.1, e.2.1, e.2.2.1, e.2.2.2]
  simp only [Int.sub_zero, Int.zero_add]
  rw [scl_255 h2.1 h2.2, scl_255 h3.1 h3.2, scl_255 h4.1 h4.2, scl_255 h5.1 h5.2, jn_parts h0 h1]
theorem ovr_under {o : Int} (h0 : 0 ≤ o) (h1 : o < 4294967296) : ovr 0 o = o := by
  have e : pa 0 = 0 ∧ pr 0 = 0 ∧ pg 0 = 0 ∧ pb 0 = 0 := by decide
  unfold ovr
  rw [e.1, e.2.1, e.2.2.1, e.2.2.2]
  simp only [scl_0l, Int.add_zero]
  exact jn_parts h0 h1
theorem pa_ovr {u o : Int} (h : pa u = 255) : pa (ovr u o) = 255 := by
  have h2 := pa_bd o
  unfold ovr
  rw [pa_jn, h]
  unfold scl
  rw [cut_id (n := 255) (by omega) (by omega), cut_id (n := 255 - pa o) (by omega) (by omega)]
  have : pa o + (255 * (255 - pa o) + 127) / 255 = 255 := by omega
  rw [this]; rfl

/-! the bits as the walk spells them -/
theorem and255 {x : Int} (h0 : 0 ≤ x) (h1 : x < 4294967296) : bits .and .u32 x 255 = x % 256 :=
  bits_mask .u32 32 (by decide) (fun n h₀ h₁ => by rw [IntKind.wrap_u32]; omega) 8 (by decide) x h0 h1
theorem and24 {x : Int} (h0 : 0 ≤ x) (h1 : x < 4294967296) : bits .and .u32 x 16777215 = x % 16777216 :=
  bits_mask .u32 32 (by decide) (fun n h₀ h₁ => by rw [IntKind.wrap_u32]; omega) 24 (by decide) x h0 h1
theorem or_low {x y : Int} (h0 : 0 ≤ x) (hm : x % 256 = 0) (h1 : x < 4294967296) (h2 : 0 ≤ y) (h3 : y < 256) : bits .or .u32 x y = x + y :=
  bits_join .u32 32 (by decide) (fun n h₀ h₁ => by rw [IntKind.wrap_u32]; omega) 8 x y h0 (by simpa using hm) h1 h2 h3 (by omega)
theorem shl_eq (a n : Nat) : a <<< n = 2 ^ n * a := by rw [Nat.shiftLeft_eq, Nat.mul_comm]
theorem nat_or_high (hi lo : Nat) (h1 : hi < 256) (h2 : lo < 16777216) : (hi * 16777216 + lo) ||| 4278190080 = 4278190080 + lo := by
  have e1 : hi * 16777216 + lo = 2 ^ 24 * hi ||| lo := by
    rw [← Nat.two_pow_add_eq_or_of_lt (by omega : lo < 2 ^ 24)]; omega
  have e2 : (4278190080 : Nat) = 2 ^ 24 * 255 := by decide
  have e3 : ∀ h : Fin 256, h.val ||| 255 = 255 := by decide +kernel
  have e4 : hi ||| 255 = 255 := e3 ⟨hi, h1⟩
  rw [e1, e2, Nat.or_comm (2 ^ 24 * hi) lo, Nat.or_assoc, ← shl_eq hi, ← shl_eq 255, ← Nat.shiftLeft_or_distrib, e4, shl_eq, Nat.or_comm, ← Nat.two_pow_add_eq_or_of_lt (by omega : lo < 2 ^ 24)]
theorem or_high {v : Int} (h0 : 0 ≤ v) (h1 : v < 4294967296) : bits .or .u32 v 4278190080 = v % 16777216 + 4278190080 := by
  rw [u32_or v 4278190080 h0 h1 (by omega) (by omega)]
  have h := nat_or_high (v.toNat / 16777216) (v.toNat % 16777216) (by omega) (by omega)
  have e : v.toNat / 16777216 * 16777216 + v.toNat % 16777216 = v.toNat := by omega
  rw [e] at h
  rw [show (4278190080 : Int).toNat = 4278190080 from rfl, h]
  omega
end Go.Proofs.YtjjdgbhplechbaaDoor.Pix
