/- A copy of points. -/
import Derived.Test.YtjjdgbhplechbaaDoorCvI
set_option linter.unusedVariables false
set_option linter.unusedSimpArgs false
namespace Go.Proofs.YtjjdgbhplechbaaDoor.Cv
open Go.RowKit Go.Proofs.YtjjdgbhplechbaaDoor.Kit
theorem words_any (A : Option Addr) (c : Nat) (P : List Int) (w : World) (hn : P.length ≤ 1000000) (hr : Rds w w.heap.size 1 A P.length (P.map (Value.int .u32))) :
    Calls Tryd.prog 44 #[.slice A P.length c] w fun e w' => ∃ A' c', e = .returned (.slice A' P.length c') ∧ w'.ownsRow w.heap.size 22 1 (.slice A' P.length c') P.length (P.map (Value.int .u32)) ∧ Below w.heap.size w w' := by
  obtain ⟨iU, hiU, zU0, zU1, zU2⟩ := info_parts infoU
  go_enter Tryd.func44, Tryd.ntmps44
  go_wp2_with (at_builtin; go_must (refine wpList_app _ rfl (.const (.slice none 0 0)) (.tmp 3) _ rfl w.heap.size 22 iU _ 1 4 Tryd.underlying34 hiU zU0 zU1 zU2 rfl (by omega) (.slice none 0 0) 0 [] rfl (World.ownsRow_nil _ _ _ _) w.heap.size A P.length c (P.map (Value.int .u32)) rfl hr (px_one P) (by simp only [maxLen]; omega) (by omega) (Nat.le_refl _) ?_); intro v1 w1 hown1 hg1 hat1)
  go_ret
  rw [Nat.zero_add, List.nil_append] at hown1
  obtain ⟨A', c', rfl, _⟩ := own_form hown1
  exact ⟨A', c', rfl, hown1, (Below.refl _ _).grown hg1 (Nat.le_refl _) (by simp [Value.ownBlock])⟩
end Go.Proofs.YtjjdgbhplechbaaDoor.Cv
