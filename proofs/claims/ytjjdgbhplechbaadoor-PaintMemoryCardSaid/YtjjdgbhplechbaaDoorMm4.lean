/- Word: four bytes of a memory of one key. Printed by gen_word.py. -/
import Derived.Test.YtjjdgbhplechbaaDoorMm3
import Derived.Test.YtjjdgbhplechbaaDoorPixWalk
set_option linter.unusedVariables false
set_option linter.unusedSimpArgs false
namespace Go.Proofs.YtjjdgbhplechbaaDoor.Mm
open Go.RowKit Go.Proofs.YtjjdgbhplechbaaDoor.Kit Go.Proofs.YtjjdgbhplechbaaDoor.Cv Go.Proofs.YtjjdgbhplechbaaDoor.Pix
def bt (L : List Int) (i : Nat) : Int := L.getD i 0
theorem bt_bd {L : List Int} (h : ∀ v ∈ L, 0 ≤ v ∧ v < 256) (i : Nat) : 0 ≤ bt L i ∧ bt L i < 256 := by
  unfold bt
  rw [List.getD_eq_getElem?_getD]
  cases e : L[i]? with
  | none => simp
  | some v => exact h v (List.mem_of_getElem? e)
theorem bt_in {L : List Int} {i : Nat} (h : i < L.length) : L[i] = bt L i := by unfold bt; simp [h]
theorem bt_out {L : List Int} {i : Nat} (h : ¬ i < L.length) : bt L i = 0 := by unfold bt; rw [List.getD_eq_getElem?_getD, List.getElem?_eq_none (by omega)]; rfl
/-- the first k of four bytes from i on, as a number -/
def wdk (L : List Int) (i : Nat) : Nat → Int
  | 0 => 0
  | 1 => bt L i
  | 2 => bt L i + bt L (i + 1) * 256
  | 3 => bt L i + bt L (i + 1) * 256 + bt L (i + 2) * 65536
  | _ => bt L i + bt L (i + 1) * 256 + bt L (i + 2) * 65536 + bt L (i + 3) * 16777216
theorem or_up (n : Nat) (p : Int) (hp : p = ((2 ^ n : Nat) : Int)) {v x : Int} (h0 : 0 ≤ v) (h1 : v < p) (x0 : 0 ≤ x) (hv : v < 4294967296) (hx : x * p < 4294967296) : bits .or .u32 v (x * p) = v + x * p := by
  have hxp : 0 ≤ x * p := Int.mul_nonneg x0 (by omega)
  rw [u32_or v (x * p) h0 hv hxp hx]
  obtain ⟨a, rfl⟩ : ∃ a : Nat, v = (a : Int) := ⟨v.toNat, by omega⟩
  obtain ⟨b, rfl⟩ : ∃ b : Nat, x = (b : Int) := ⟨x.toNat, by omega⟩
  subst hp
  have e : ((b : Int) * ((2 ^ n : Nat) : Int)) = ((2 ^ n * b : Nat) : Int) := by rw [Nat.mul_comm]; simp
  rw [e]
  have h2 : a < 2 ^ n := by exact_mod_cast h1
  have h3 : ((a : Int)).toNat = a := by simp
  have h4 : (((2 ^ n * b : Nat) : Int)).toNat = 2 ^ n * b := by exact Int.toNat_natCast _
  rw [h3, h4, Nat.or_comm, ← Nat.two_pow_add_eq_or_of_lt h2]
  omega
set_option maxRecDepth 100000 in
set_option maxHeartbeats 16000000 in
theorem mword_any (m g b : Nat) (key : Int) (L : List Int) (i : Nat) (w : World) (h : Mb w m g b key L) (hL : L.length ≤ 65536) (hB : ∀ v ∈ L, 0 ≤ v ∧ v < 256) (hi : i ≤ 1000000000) :
    Calls Tryd.prog 65 #[.pointer (some ⟨m, 0, none⟩), .int .i64 key, .int .i64 (i : Int)] w fun e w' => e = .returned (.int .u32 (wdk L i 4)) ∧ Below w.heap.size w w' := by
  obtain ⟨⟨s, hme⟩, hby, hbg, hbm⟩ := h
  have hm := hme.hd.cell 0
  have hlk : (Instr.lookup 117 (.map (some g)) (.int .i64 key) false).run Tryd.prog w = .ok (.slice (some ⟨b, 0, none⟩) L.length L.length) w := by simpa using look_1 hme.mp false
  have hbd := Lib.hid (bt_bd hB)
  have hby := Lib.hid hby
  clear hme hB
  go_enter Tryd.func65, Tryd.ntmps65
  go_wp2_with fail
  clear hlk hm
  go_loopw [8, 9, 10, 17] (fun s8 _ _ s17 wr => ∃ k : Nat, k ≤ 4 ∧ s17 = .int .i64 (k : Int) ∧ s8 = .int .u32 (wdk L i k) ∧ wr = w) (fun _ _ _ s17 _ => 4 - (intOf s17).toNat)
  case atStart => exact ⟨0, by omega, rfl, rfl, rfl⟩
  case round =>
    obtain ⟨k, hk, rfl, rfl, rfl⟩ := hrel
    by_cases hlt : k < 4
    · have dk : decide ((k : Int) < 4) = true := by simp; omega
      have d0 : decide ((0 : Int) ≤ (i : Int) + (k : Int)) = true := by simp; omega
      have g1 : IntKind.i64.wrap ((i : Int) + (k : Int)) = (i : Int) + (k : Int) := i64_in (by omega) (by omega)
      by_cases hin : i + k < L.length
      · have dl : decide ((i : Int) + (k : Int) < (L.length : Int)) = true := by simp; omega
        have hc : wr.cell? ⟨b, i + k, none⟩ = some (.int .u8 (bt L (i + k))) := by
          rw [hby.out.cell]
          unfold byV
          simp only [List.getElem?_toArray, List.getElem?_map, List.getElem?_eq_getElem hin, Option.map_some, bt_in hin]
        have j0 : (0 : Int) ≤ (i : Int) + (k : Int) := by omega
        have j1 : (i : Int) + (k : Int) < (L.length : Int) := by omega
        have htn : ((i : Int) + (k : Int)).toNat = i + k := by omega
        have b0 := hbd.out i
        have b1 := hbd.out (i + 1)
        have b2 := hbd.out (i + 2)
        have b3 := hbd.out (i + 3)
        obtain ⟨x0, e0⟩ : ∃ x, bt L i = x := ⟨_, rfl⟩
        obtain ⟨x1, e1⟩ : ∃ x, bt L (i + 1) = x := ⟨_, rfl⟩
        obtain ⟨x2, e2⟩ : ∃ x, bt L (i + 2) = x := ⟨_, rfl⟩
        obtain ⟨x3, e3⟩ : ∃ x, bt L (i + 3) = x := ⟨_, rfl⟩
        have W1 : wdk L i 1 = x0 := by rw [← e0]; rfl
        have W2 : wdk L i 2 = x0 + x1 * 256 := by rw [← e0, ← e1]; rfl
        have W3 : wdk L i 3 = x0 + x1 * 256 + x2 * 65536 := by rw [← e0, ← e1, ← e2]; rfl
        have W4 : wdk L i 4 = x0 + x1 * 256 + x2 * 65536 + x3 * 16777216 := by rw [← e0, ← e1, ← e2, ← e3]; rfl
        rw [e0] at b0
        rw [e1] at b1
        rw [e2] at b2
        rw [e3] at b3
        obtain ⟨x0l, x0h⟩ := b0
        obtain ⟨x1l, x1h⟩ := b1
        obtain ⟨x2l, x2h⟩ := b2
        obtain ⟨x3l, x3h⟩ := b3
        have W1 := Lib.hid W1
        have W2 := Lib.hid W2
        have W3 := Lib.hid W3
        have W4 := Lib.hid W4
        have hk4 : k = 0 ∨ k = 1 ∨ k = 2 ∨ k = 3 := by omega
        rcases hk4 with rfl | rfl | rfl | rfl
        · rw [show bt L (i + 0) = x0 from e0] at hc
          have f1 : bits .or .u32 (0) (x0) = x0 := by have := or_up 0 1 rfl (v := 0) (x := x0) (by omega) (by omega) x0l (by omega) (by omega); simpa using this
          have dl1 : decide (i < L.length) = true := by simp; omega
          have dl2 : decide ((i : Int) < (L.length : Int)) = true := by simp; omega
          have dl3 : decide ((0 : Int) ≤ (i : Int)) = true := by simp
          have g3 : IntKind.i64.wrap (i : Int) = (i : Int) := i64_in (by omega) (by omega)
          have k0 : (0 : Int) ≤ (i : Int) := by omega
          have k1 : (i : Int) < (L.length : Int) := by omega
          have k2 : ((i : Int)).toNat = i := by omega
          have k3 : wr.cell? ⟨b, i, none⟩ = some (.int .u8 x0) := hc
          go_wp2_with fail
          go_roundw
          case rel => exact ⟨1, by omega, by go_num, by rw [W1.out] <;> first | rfl | exact congrArg (Value.int .u32) f1, by first | rfl | trivial⟩
          case measure => simp [intOf]
        · rw [show bt L (i + 1) = x1 from e1] at hc
          rw [W1.out]
          have f1 : bits .or .u32 (x0) (x1 * 256) = x0 + x1 * 256 := by exact or_up 8 256 rfl (by omega) (by omega) x1l (by omega) (by omega)
          skip
          go_wp2_with fail
          go_roundw
          case rel => exact ⟨2, by omega, by go_num, by rw [W2.out] <;> first | rfl | exact congrArg (Value.int .u32) f1, by first | rfl | trivial⟩
          case measure => simp [intOf]
        · rw [show bt L (i + 2) = x2 from e2] at hc
          rw [W2.out]
          have f1 : bits .or .u32 (x0 + x1 * 256) (x2 * 65536) = x0 + x1 * 256 + x2 * 65536 := by exact or_up 16 65536 rfl (by omega) (by omega) x2l (by omega) (by omega)
          skip
          go_wp2_with fail
          go_roundw
          case rel => exact ⟨3, by omega, by go_num, by rw [W3.out] <;> first | rfl | exact congrArg (Value.int .u32) f1, by first | rfl | trivial⟩
          case measure => simp [intOf]
        · rw [show bt L (i + 3) = x3 from e3] at hc
          rw [W3.out]
          have f1 : bits .or .u32 (x0 + x1 * 256 + x2 * 65536) (x3 * 16777216) = x0 + x1 * 256 + x2 * 65536 + x3 * 16777216 := by exact or_up 24 16777216 rfl (by omega) (by omega) x3l (by omega) (by omega)
          skip
          go_wp2_with fail
          go_roundw
          case rel => exact ⟨4, by omega, by go_num, by rw [W4.out] <;> first | rfl | exact congrArg (Value.int .u32) f1, by first | rfl | trivial⟩
          case measure => simp [intOf]
      · have dl : decide ((i : Int) + (k : Int) < (L.length : Int)) = false := by simp; omega
        have hz : wdk L i (k + 1) = wdk L i k := by
          have z := bt_out hin
          have hk4 : k = 0 ∨ k = 1 ∨ k = 2 ∨ k = 3 := by omega
          rcases hk4 with rfl | rfl | rfl | rfl
          · show bt L i = 0; exact z
          · show bt L i + bt L (i + 1) * 256 = bt L i; rw [z]; omega
          · show bt L i + bt L (i + 1) * 256 + bt L (i + 2) * 65536 = bt L i + bt L (i + 1) * 256; rw [z]; omega
          · show bt L i + bt L (i + 1) * 256 + bt L (i + 2) * 65536 + bt L (i + 3) * 16777216 = bt L i + bt L (i + 1) * 256 + bt L (i + 2) * 65536; rw [z]; omega
        have hz := Lib.hid hz
        have hlt := Lib.hid hlt
        go_wp2_with fail
        go_roundw
        case rel => exact ⟨k + 1, hlt.out, by go_num, by rw [hz.out], by first | rfl | trivial⟩
        case measure => have := hlt.out; simp [intOf]; omega
    · obtain rfl : k = 4 := by omega
      go_wp2_with fail
      go_ret
      exact ⟨rfl, Below.refl _ _⟩
end Go.Proofs.YtjjdgbhplechbaaDoor.Mm
