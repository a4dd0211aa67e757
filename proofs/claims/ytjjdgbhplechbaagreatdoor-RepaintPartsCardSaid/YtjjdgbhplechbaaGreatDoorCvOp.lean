/- Calls on a canvas: tableaulaw14.play. Printed by gen_op.py. -/
import Derived.Test.YtjjdgbhplechbaaGreatDoorCvPla
set_option linter.unusedVariables false
set_option linter.unusedSimpArgs false
namespace Go.Proofs.YtjjdgbhplechbaaGreatDoor.Cv
open Go.RowKit Go.Proofs.YtjjdgbhplechbaaGreatDoor.Kit Go.Proofs.YtjjdgbhplechbaaGreatDoor.Rect Go.Proofs.YtjjdgbhplechbaaGreatDoor.Pix
/-- a call -/
structure Op where
  k : Int
  x : Int
  y : Int
  w : Int
  h : Int
  col : Int
  P : List Int
  PA : Option Addr
  pc : Nat
  cl : List R
  CA : Option Addr
  cc : Nat
def opC (o : Op) : List Value := [.int .i64 o.k, .int .i64 o.x, .int .i64 o.y, .int .i64 o.w, .int .i64 o.h, .int .u32 o.col, .slice o.PA o.P.length o.pc, .slice o.CA o.cl.length o.cc]
theorem opC_len (o : Op) : (opC o).length = 8 := rfl
/-- what hangs on a call lies below block B -/
structure OpOk (w : World) (B : Nat) (o : Op) : Prop where
  p : Rds w B 1 o.PA o.P.length (o.P.map (Value.int .u32))
  c : Rds w B 4 o.CA o.cl.length (o.cl.flatMap rC)
  u32 : ∀ v ∈ o.P, 0 ≤ v ∧ v < 4294967296
  col : 0 ≤ o.col ∧ o.col < 4294967296
  i64 : ∀ r ∈ o.cl, I64 r
theorem OpOk.be {w w' : World} {B : Nat} {o : Op} (h : OpOk w B o) (hb : Below B w w') : OpOk w' B o := ⟨h.p.be hb, h.c.be hb, h.u32, h.col, h.i64⟩
structure RdO (w : World) (B : Nat) (A : Option Addr) (l : List Op) : Prop where
  row : Rds w B 8 A l.length (l.flatMap opC)
  each : ∀ o ∈ l, OpOk w B o
theorem RdO.be {w w' : World} {B : Nat} {A : Option Addr} {l : List Op} (h : RdO w B A l) (hb : Below B w w') : RdO w' B A l := ⟨h.row.be hb, fun o ho => (h.each o ho).be hb⟩
theorem at8 {w : World} {B : Nat} {A : Option Addr} {l : List Op} (h : Rds w B 8 A l.length (l.flatMap opC)) {i : Nat} (hi : i < l.length) :
    ∃ ad, A = some ad ∧ ad.block < B ∧ w.cell? (ad.add (i * 8)) = some (.int .i64 l[i].k) ∧ w.cell? ⟨(ad.add (i * 8)).block, (ad.add (i * 8)).off + 1, none⟩ = some (.int .i64 l[i].x) ∧ w.cell? ⟨(ad.add (i * 8)).block, (ad.add (i * 8)).off + 2, none⟩ = some (.int .i64 l[i].y) ∧ w.cell? ⟨(ad.add (i * 8)).block, (ad.add (i * 8)).off + 3, none⟩ = some (.int .i64 l[i].w) ∧ w.cell? ⟨(ad.add (i * 8)).block, (ad.add (i * 8)).off + 4, none⟩ = some (.int .i64 l[i].h) ∧ w.cell? ⟨(ad.add (i * 8)).block, (ad.add (i * 8)).off + 5, none⟩ = some (.int .u32 l[i].col) ∧ w.cell? ⟨(ad.add (i * 8)).block, (ad.add (i * 8)).off + 6, none⟩ = some (.slice l[i].PA l[i].P.length l[i].pc) ∧ w.cell? ⟨(ad.add (i * 8)).block, (ad.add (i * 8)).off + 7, none⟩ = some (.slice l[i].CA l[i].cl.length l[i].cc) := by
  obtain ⟨ad, e, hb, hc⟩ := Rds.elem opC 8 opC_len h hi
  exact ⟨ad, e, hb, hc 0 _ (by omega) rfl, by rw [add_at ad (i * 8) 0]; exact hc 1 _ (by omega) rfl, by rw [add_at ad (i * 8) 1]; exact hc 2 _ (by omega) rfl, by rw [add_at ad (i * 8) 2]; exact hc 3 _ (by omega) rfl, by rw [add_at ad (i * 8) 3]; exact hc 4 _ (by omega) rfl, by rw [add_at ad (i * 8) 4]; exact hc 5 _ (by omega) rfl, by rw [add_at ad (i * 8) 5]; exact hc 6 _ (by omega) rfl, by rw [add_at ad (i * 8) 6]; exact hc 7 _ (by omega) rfl⟩
theorem Bk.c8 {w : World} {g : Nat} {t : TypeId} {a b c d e f k l : Value} (h : Bk w g t #[a, b, c, d, e, f, k, l]) :
    w.cell? ⟨g, 0, none⟩ = some a ∧ w.cell? ⟨g, 1, none⟩ = some b ∧ w.cell? ⟨g, 2, none⟩ = some c ∧ w.cell? ⟨g, 3, none⟩ = some d ∧ w.cell? ⟨g, 4, none⟩ = some e ∧ w.cell? ⟨g, 5, none⟩ = some f ∧ w.cell? ⟨g, 6, none⟩ = some k ∧ w.cell? ⟨g, 7, none⟩ = some l := ⟨h.cell 0, h.cell 1, h.cell 2, h.cell 3, h.cell 4, h.cell 5, h.cell 6, h.cell 7⟩
theorem rects_any (A : Option Addr) (c : Nat) (l : List R) (w : World) (hn : l.length ≤ 1000000) (hr : Rds w w.heap.size 4 A l.length (l.flatMap rC)) :
    Calls Tryz.prog 13 #[.slice A l.length c] w fun e w' => ∃ A' c', e = .returned (.slice A' l.length c') ∧ w'.ownsRow w.heap.size 64 4 (.slice A' l.length c') l.length (l.flatMap rC) ∧ Below w.heap.size w w' := by
  obtain ⟨iR, hiR, zR0, zR1, zR2⟩ := info_parts infoR
  go_enter Tryz.func13, Tryz.ntmps13
  go_wp2_with (at_builtin; go_must (refine wpList_app _ rfl (.const (.slice none 0 0)) (.tmp 3) _ rfl w.heap.size 64 iR _ 4 32 Tryz.underlying25 hiR zR0 zR1 zR2 rfl (by omega) (.slice none 0 0) 0 [] rfl (World.ownsRow_nil _ _ _ _) w.heap.size A l.length c (l.flatMap rC) rfl hr (rC_one l) (by simp only [maxLen]; omega) (by omega) (Nat.le_refl _) ?_); intro v1 w1 hown1 hg1 hat1)
  go_ret
  rw [Nat.zero_add, List.nil_append] at hown1
  obtain ⟨A', c', rfl, _⟩ := own_form hown1
  exact ⟨A', c', rfl, hown1, (Below.refl _ _).grown hg1 (Nat.le_refl _) (by simp [Value.ownBlock])⟩

end Go.Proofs.YtjjdgbhplechbaaGreatDoor.Cv
