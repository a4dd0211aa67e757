/- PaintPlays, walked. Printed by gen_plays23.py. -/
import Derived.Test.YtjjdgbhplechbaaGreatDoorCvPt
set_option linter.unusedVariables false
set_option linter.unusedSimpArgs false
namespace Go.Proofs.YtjjdgbhplechbaaGreatDoor.Cv
open Go.RowKit Go.Proofs.YtjjdgbhplechbaaGreatDoor.Kit Go.Proofs.YtjjdgbhplechbaaGreatDoor.Rect Go.Proofs.YtjjdgbhplechbaaGreatDoor.Pix
theorem paintV_pl {W H : Nat} {clip : List R} {m l : List Im} (h : m.map pl = l.map pl) (L : List Int) (v : Vw) : paintV W H clip m L v = paintV W H clip l L v := by
  have e := find_pl h v.b
  unfold paintV
  cases h1 : findI m v.b with
  | none =>
    cases h2 : findI l v.b with
    | none => rfl
    | some a => rw [h1, h2] at e; simp at e
  | some g =>
    cases h2 : findI l v.b with
    | none => rw [h1, h2] at e; simp at e
    | some a =>
      rw [h1, h2] at e
      simp only [Option.map_some, Option.some.injEq, pl, Prod.mk.injEq] at e
      obtain ⟨_, e1, e2, e3⟩ := e
      simp only [e1, e2, e3]
theorem foldP_pl {W H : Nat} {clip : List R} {m l : List Im} (h : m.map pl = l.map pl) (vs : List Vw) (L : List Int) : vs.foldl (paintV W H clip m) L = vs.foldl (paintV W H clip l) L := by
  have : paintV W H clip m = paintV W H clip l := by funext L v; exact paintV_pl h L v
  rw [this]
theorem drawn_len {W H : Nat} {l : List R} {f : Nat → Nat → Int → Int} {L : List Int} : (drawn W H l f L).length = L.length := pnt_len
theorem partL_clip {W H : Nat} {c1 c2 : List R} {m : List Im} {vs : List Vw} {back : Int} {L : List Int} (hW : 0 < W) (hL : L.length = W * H) (h : ∀ x y : Nat, x < W → y < H → inn c1 (x : Int) (y : Int) = inn c2 (x : Int) (y : Int)) : partL W H back vs m c1 L = partL W H back vs m c2 L := by
  unfold partL
  rw [drawn_clip hW hL h]
  exact foldP_clip hW h vs _ (by rw [drawn_len]; exact hL)
/-- painted everywhere: All, and the reference's Part -/
theorem all_part {W H : Nat} {m l : List Im} {vs : List Vw} {back : Int} {L : List Int} (hm : m.map pl = l.map pl) (hW : 0 < W) (hW2 : W ≤ 48) (hH2 : H ≤ 48) (hL : L.length = W * H) : allL W H back vs m L = partL W H back vs l [evR] L := by
  rw [show allL W H back vs m L = partL W H back vs m [⟨0, 0, (W : Int), (H : Int)⟩] L from rfl]
  rw [partL_clip hW hL (c2 := [evR]) (fun x y hx hy => by rw [inn_ev (by omega) (by omega)]; exact inn_field hW2 hH2 hx hy)]
  exact foldP_pl hm vs _
theorem h64_ev : ∀ r ∈ [evR], I64 r := by intro r hr; obtain rfl := List.mem_singleton.1 hr; unfold I64 evR; simp only; omega
theorem px_rds {w : World} {q n : Nat} {L : List Int} (h : Bk w q 22 (pxV L)) (hn : L.length = n) : Rds w w.heap.size 1 (some ⟨q, 0, none⟩) n (L.map (Value.int .u32)) := by
  have := Rds.block (n := n) (sz := 1) h (by rw [px_size, Nat.mul_one, hn]) h.lt
  simpa [pxV] using this
theorem same_wn (A B : Option Addr) (n : Nat) (L : List Int) (w : World) (hL : L.length = n) (hn : n ≤ 1000000) (hA : Rds w w.heap.size 1 A n (L.map (Value.int .u32))) (hB : Rds w w.heap.size 1 B n (L.map (Value.int .u32))) :
    Calls Tryz.prog 14 #[.slice A n n, .slice B n n] w fun e w' => e = .returned (.bool true) ∧ Below w.heap.size w w' := by
  subst hL
  exact same_words A B _ _ L w hn hA hB

end Go.Proofs.YtjjdgbhplechbaaGreatDoor.Cv
