/- Draw at whatever numbers; paint.All. Printed by gen_all23.py. -/
import Derived.Test.YtjjdgbhplechbaaDoorCvIm
set_option linter.unusedVariables false
set_option linter.unusedSimpArgs false
namespace Go.Proofs.YtjjdgbhplechbaaDoor.Cv
open Go.RowKit Go.Proofs.YtjjdgbhplechbaaDoor.Kit Go.Proofs.YtjjdgbhplechbaaDoor.Rect Go.Proofs.YtjjdgbhplechbaaDoor.Pix

theorem Rds.off {w : World} {p B sz n : Nat} {A : Option Addr} {xs : List Value} (h : Rds w B sz A n xs) (hB : B ≤ p) : 0 < n → ∀ ad, A = some ad → ad.block ≠ p := by
  intro hp ad e
  obtain ⟨ad', e', hb, _⟩ := h.2 hp
  rw [e] at e'
  injection e' with e'
  subst e'
  omega
theorem far_bad (n : Int) (w : World) (h : n < -16777216 ∨ 16777216 < n) : Calls Tryd.prog 50 #[.int .i64 n] w fun e w' => e = .returned (.bool true) ∧ w = w' := by
  by_cases h1 : n < -16777216
  · have d1 : decide (n < -16777216) = true := by simp; omega
    go_enter Tryd.func50, Tryd.ntmps50
    go_wp2_with fail
    go_ret
    exact ⟨rfl, rfl⟩
  · have d1 : decide (n < -16777216) = false := by simp; omega
    have d2 : decide (16777216 < n) = true := by simp; omega
    go_enter Tryd.func50, Tryd.ntmps50
    go_wp2_with fail
    go_ret
    exact ⟨rfl, rfl⟩
/-- may it be drawn at all? -/
def okD (X Y Wd Hd : Int) : Prop := (1 ≤ Wd ∧ Wd ≤ 16777216) ∧ (1 ≤ Hd ∧ Hd ≤ 16777216) ∧ (-16777216 ≤ X ∧ X ≤ 16777216) ∧ (-16777216 ≤ Y ∧ Y ≤ 16777216)
instance (X Y Wd Hd : Int) : Decidable (okD X Y Wd Hd) := by unfold okD; infer_instance
/-- what Draw makes of the points -/
def drawO (W H : Nat) (clip : List R) (X Y Wd Hd : Int) (P : List Int) (L : List Int) : List Int := if okD X Y Wd Hd then drawn W H clip (drawF X Y Wd Hd P) L else L
set_option maxRecDepth 100000 in
set_option maxHeartbeats 16000000 in
theorem draw_bad (c : Nat) (X Y Wd Hd : Int) (A A' : Option Addr) (n lc n' lc' : Nat) (w : World) (h : ¬ okD X Y Wd Hd) :
    Calls Tryd.prog 21 #[.pointer (some ⟨c, 0, none⟩), .int .i64 X, .int .i64 Y, .int .i64 Wd, .int .i64 Hd, .slice A n lc, .slice A' n' lc'] w fun e w' => e = .returned (.tuple #[]) ∧ Below w.heap.size w w' := by
  unfold okD at h
  by_cases b0 : Wd < 1
  · have d1 : decide (Wd < 1) = true := by simp; omega
    go_enter Tryd.func21, Tryd.ntmps21
    go_wp2_with fail
    refine bodyPost_ret (results_none rfl _ _ _) rfl ?_
    exact ⟨rfl, al4 _ _ _ _ _⟩
  have d1 : decide (Wd < 1) = false := by simp; omega
  by_cases b1 : Hd < 1
  · have d2 : decide (Hd < 1) = true := by simp; omega
    go_enter Tryd.func21, Tryd.ntmps21
    go_wp2_with fail
    refine bodyPost_ret (results_none rfl _ _ _) rfl ?_
    exact ⟨rfl, al4 _ _ _ _ _⟩
  have d2 : decide (Hd < 1) = false := by simp; omega
  by_cases f0 : Wd < -16777216 ∨ 16777216 < Wd
  · have f0 := Lib.hid f0
    go_enter Tryd.func21, Tryd.ntmps21
    go_wp2_with fail
    generalize hwv : World.alloc _ _ = wv
    have bX : Bk wv w.heap.size 3 #[.int .i64 X] := hwv ▸ (((Bk.new _ _ _).al _).al _).al _
    have bY : Bk wv (w.heap.size + 1) 3 #[.int .i64 Y] := hwv ▸ ((Bk.new' _ _ _ (by simp)).al _).al _
    have bW : Bk wv (w.heap.size + 1 + 1) 3 #[.int .i64 Wd] := hwv ▸ (Bk.new' _ _ _ (by simp)).al _
    have hbv : Below w.heap.size w wv := hwv ▸ al4 _ _ _ _ _
    have cX := bX.cell 0
    have cY := bY.cell 0
    have cW := bW.cell 0
    clear hwv
    refine (far_bad Wd wv f0.out).mono ?_
    rintro e _ ⟨rfl, rfl⟩
    go_wp2_with fail
    refine bodyPost_ret (results_none rfl _ _ _) rfl ?_
    exact ⟨rfl, hbv⟩
  by_cases f1 : Hd < -16777216 ∨ 16777216 < Hd
  · have f1 := Lib.hid f1
    go_enter Tryd.func21, Tryd.ntmps21
    go_wp2_with fail
    generalize hwv : World.alloc _ _ = wv
    have bX : Bk wv w.heap.size 3 #[.int .i64 X] := hwv ▸ (((Bk.new _ _ _).al _).al _).al _
    have bY : Bk wv (w.heap.size + 1) 3 #[.int .i64 Y] := hwv ▸ ((Bk.new' _ _ _ (by simp)).al _).al _
    have bW : Bk wv (w.heap.size + 1 + 1) 3 #[.int .i64 Wd] := hwv ▸ (Bk.new' _ _ _ (by simp)).al _
    have hbv : Below w.heap.size w wv := hwv ▸ al4 _ _ _ _ _
    have cX := bX.cell 0
    have cY := bY.cell 0
    have cW := bW.cell 0
    clear hwv
    refine (far_ok Wd wv (by have := f0; omega) (by have := f0; omega)).mono ?_
    rintro e _ ⟨rfl, rfl⟩
    go_wp2_with fail
    refine (far_bad Hd wv f1.out).mono ?_
    rintro e _ ⟨rfl, rfl⟩
    go_wp2_with fail
    refine bodyPost_ret (results_none rfl _ _ _) rfl ?_
    exact ⟨rfl, hbv⟩
  by_cases f2 : X < -16777216 ∨ 16777216 < X
  · have f2 := Lib.hid f2
    go_enter Tryd.func21, Tryd.ntmps21
    go_wp2_with fail
    generalize hwv : World.alloc _ _ = wv
    have bX : Bk wv w.heap.size 3 #[.int .i64 X] := hwv ▸ (((Bk.new _ _ _).al _).al _).al _
    have bY : Bk wv (w.heap.size + 1) 3 #[.int .i64 Y] := hwv ▸ ((Bk.new' _ _ _ (by simp)).al _).al _
    have bW : Bk wv (w.heap.size + 1 + 1) 3 #[.int .i64 Wd] := hwv ▸ (Bk.new' _ _ _ (by simp)).al _
    have hbv : Below w.heap.size w wv := hwv ▸ al4 _ _ _ _ _
    have cX := bX.cell 0
    have cY := bY.cell 0
    have cW := bW.cell 0
    clear hwv
    refine (far_ok Wd wv (by have := f0; omega) (by have := f0; omega)).mono ?_
    rintro e _ ⟨rfl, rfl⟩
    go_wp2_with fail
    refine (far_ok Hd wv (by have := f1; omega) (by have := f1; omega)).mono ?_
    rintro e _ ⟨rfl, rfl⟩
    go_wp2_with fail
    refine (far_bad X wv f2.out).mono ?_
    rintro e _ ⟨rfl, rfl⟩
    go_wp2_with fail
    refine bodyPost_ret (results_none rfl _ _ _) rfl ?_
    exact ⟨rfl, hbv⟩
  by_cases f3 : Y < -16777216 ∨ 16777216 < Y
  · have f3 := Lib.hid f3
    go_enter Tryd.func21, Tryd.ntmps21
    go_wp2_with fail
    generalize hwv : World.alloc _ _ = wv
    have bX : Bk wv w.heap.size 3 #[.int .i64 X] := hwv ▸ (((Bk.new _ _ _).al _).al _).al _
    have bY : Bk wv (w.heap.size + 1) 3 #[.int .i64 Y] := hwv ▸ ((Bk.new' _ _ _ (by simp)).al _).al _
    have bW : Bk wv (w.heap.size + 1 + 1) 3 #[.int .i64 Wd] := hwv ▸ (Bk.new' _ _ _ (by simp)).al _
    have hbv : Below w.heap.size w wv := hwv ▸ al4 _ _ _ _ _
    have cX := bX.cell 0
    have cY := bY.cell 0
    have cW := bW.cell 0
    clear hwv
    refine (far_ok Wd wv (by have := f0; omega) (by have := f0; omega)).mono ?_
    rintro e _ ⟨rfl, rfl⟩
    go_wp2_with fail
    refine (far_ok Hd wv (by have := f1; omega) (by have := f1; omega)).mono ?_
    rintro e _ ⟨rfl, rfl⟩
    go_wp2_with fail
    refine (far_ok X wv (by have := f2; omega) (by have := f2; omega)).mono ?_
    rintro e _ ⟨rfl, rfl⟩
    go_wp2_with fail
    refine (far_bad Y wv f3.out).mono ?_
    rintro e _ ⟨rfl, rfl⟩
    go_wp2_with fail
    refine bodyPost_ret (results_none rfl _ _ _) rfl ?_
    exact ⟨rfl, hbv⟩
  exact absurd ⟨⟨by omega, by omega⟩, ⟨by omega, by omega⟩, ⟨by omega, by omega⟩, by omega, by omega⟩ h
theorem draw_all2 (c p W H : Nat) (L : List Int) (X Y Wd Hd : Int) (A : Option Addr) (n lc : Nat) (P : List Int) (A' : Option Addr) (lc' : Nat) (l : List R) (w : World) (hc : Cv w c p W H L)
    (hP : P.length = n) (hR : Rds w w.heap.size 1 A n (P.map (Value.int .u32))) (hPu : ∀ v ∈ P, 0 ≤ v ∧ v < 4294967296) (hne : 0 < n → ∀ ad, A = some ad → ad.block ≠ p)
    (hl : Rds w w.heap.size 4 A' l.length (l.flatMap rC)) (h64 : ∀ r ∈ l, I64 r) (hn : l.length ≤ 1000000) :
    Calls Tryd.prog 21 #[.pointer (some ⟨c, 0, none⟩), .int .i64 X, .int .i64 Y, .int .i64 Wd, .int .i64 Hd, .slice A n lc, .slice A' l.length lc'] w fun e w' => e = .returned (.tuple #[]) ∧ Sav p w w' ∧ Cv w' c p W H (drawO W H l X Y Wd Hd P L) := by
  unfold drawO
  by_cases h : okD X Y Wd Hd
  · rw [if_pos h]
    obtain ⟨⟨a1, a2⟩, ⟨a3, a4⟩, ⟨a5, a6⟩, a7, a8⟩ := h
    exact draw_any2 c p W H L X Y Wd Hd A n lc P A' lc' l w hc a5 a6 a7 a8 a1 a2 a3 a4 hP hR hPu hne hl h64 hn
  · rw [if_neg h]
    refine (draw_bad c X Y Wd Hd A A' n lc l.length lc' w h).mono ?_
    rintro e w' ⟨rfl, hb⟩
    exact ⟨rfl, .of hb, hc.be hb⟩
theorem draw_all (c p W H : Nat) (L : List Int) (X Y Wd Hd : Int) (A : Option Addr) (n lc : Nat) (P : List Int) (A' : Option Addr) (lc' : Nat) (l : List R) (w : World) (hc : Cv w c p W H L)
    (hP : P.length = n) (hR : Rds w w.heap.size 1 A n (P.map (Value.int .u32))) (hPu : ∀ v ∈ P, 0 ≤ v ∧ v < 4294967296) (hne : ∀ ad, A = some ad → ad.block ≠ p)
    (hl : Rds w w.heap.size 4 A' l.length (l.flatMap rC)) (_ : ∀ ad, A' = some ad → ad.block ≠ p) (h64 : ∀ r ∈ l, I64 r) (hn : l.length ≤ 1000000) :
    Calls Tryd.prog 21 #[.pointer (some ⟨c, 0, none⟩), .int .i64 X, .int .i64 Y, .int .i64 Wd, .int .i64 Hd, .slice A n lc, .slice A' l.length lc'] w fun e w' => e = .returned (.tuple #[]) ∧ Sav p w w' ∧ Cv w' c p W H (drawO W H l X Y Wd Hd P L) :=
  draw_all2 c p W H L X Y Wd Hd A n lc P A' lc' l w hc hP hR hPu (fun _ => hne) hl h64 hn
theorem size_any (c p W H : Nat) (L : List Int) (w : World) (hc : Cv w c p W H L) :
    Calls Tryd.prog 24 #[.pointer (some ⟨c, 0, none⟩)] w fun e w' => e = .returned (.tuple #[.int .i64 (W : Int), .int .i64 (H : Int)]) ∧ Below w.heap.size w w' := by
  obtain ⟨k0, k1, k2⟩ := hc.c3
  have hS : ∀ w' : World, Below w.heap.size w w' → (Below w.heap.size w w' ∧ w'.cell? ⟨c, 0, none⟩ = some (.int .i64 (W : Int)) ∧ w'.cell? ⟨c, 1, none⟩ = some (.int .i64 (H : Int))) := fun w' hq => ⟨hq, (hq.cell hc.hd.lt).trans k0, (hq.cell hc.hd.lt).trans k1⟩
  have hc := Lib.hid hc
  clear k2
  go_enter Tryd.func24, Tryd.ntmps24
  go_wp2_with fail
  go_region_held3 (fun w' : World => Below w.heap.size w w' ∧ w'.cell? ⟨c, 0, none⟩ = some (.int .i64 (W : Int)) ∧ w'.cell? ⟨c, 1, none⟩ = some (.int .i64 (H : Int))) (exact hS _ (by repeat (first | (with_reducible exact Below.refl _ _) | (with_reducible assumption) | (with_reducible apply bl_drew)))) (fail)
  all_goals go_wp2_with fail
  all_goals go_ret2
  all_goals exact ⟨rfl, by first | exact Below.refl _ _ | exact bl_drew (Below.refl _ _)⟩
/-! views -/
structure Vw where
  s : Int
  b : Int
  x : Int
  y : Int
  w : Int
  h : Int
def vwC (v : Vw) : List Value := [.int .i64 v.s, .int .i64 v.b, .int .i64 v.x, .int .i64 v.y, .int .i64 v.w, .int .i64 v.h]
theorem vwC_len (v : Vw) : (vwC v).length = 6 := rfl
theorem at6 {w : World} {B : Nat} {A : Option Addr} {l : List Vw} (h : Rds w B 6 A l.length (l.flatMap vwC)) {i : Nat} (hi : i < l.length) :
    ∃ ad, A = some ad ∧ ad.block < B ∧ w.cell? (ad.add (i * 6)) = some (.int .i64 l[i].s) ∧ w.cell? ⟨(ad.add (i * 6)).block, (ad.add (i * 6)).off + 1, none⟩ = some (.int .i64 l[i].b) ∧
      w.cell? ⟨(ad.add (i * 6)).block, (ad.add (i * 6)).off + 2, none⟩ = some (.int .i64 l[i].x) ∧ w.cell? ⟨(ad.add (i * 6)).block, (ad.add (i * 6)).off + 3, none⟩ = some (.int .i64 l[i].y) ∧
      w.cell? ⟨(ad.add (i * 6)).block, (ad.add (i * 6)).off + 4, none⟩ = some (.int .i64 l[i].w) ∧ w.cell? ⟨(ad.add (i * 6)).block, (ad.add (i * 6)).off + 5, none⟩ = some (.int .i64 l[i].h) := by
  obtain ⟨ad, e, hb, hc⟩ := Rds.elem vwC 6 vwC_len h hi
  exact ⟨ad, e, hb, hc 0 _ (by omega) rfl, by rw [add_at ad (i * 6) 0]; exact hc 1 _ (by omega) rfl, by rw [add_at ad (i * 6) 1]; exact hc 2 _ (by omega) rfl, by rw [add_at ad (i * 6) 2]; exact hc 3 _ (by omega) rfl, by rw [add_at ad (i * 6) 3]; exact hc 4 _ (by omega) rfl, by rw [add_at ad (i * 6) 4]; exact hc 5 _ (by omega) rfl⟩
theorem Bk.c6 {w : World} {g : Nat} {t : TypeId} {a b c d e f : Value} (h : Bk w g t #[a, b, c, d, e, f]) :
    w.cell? ⟨g, 0, none⟩ = some a ∧ w.cell? ⟨g, 1, none⟩ = some b ∧ w.cell? ⟨g, 2, none⟩ = some c ∧ w.cell? ⟨g, 3, none⟩ = some d ∧ w.cell? ⟨g, 4, none⟩ = some e ∧ w.cell? ⟨g, 5, none⟩ = some f := ⟨h.cell 0, h.cell 1, h.cell 2, h.cell 3, h.cell 4, h.cell 5⟩
/-- one view more -/
def paintV (W H : Nat) (clip : List R) (m : List Im) (L : List Int) (v : Vw) : List Int :=
  match findI m v.b with
  | none => L
  | some g => drawO W H clip v.x v.y g.w g.h g.P L
def allL (W H : Nat) (back : Int) (l : List Vw) (m : List Im) (L : List Int) : List Int :=
  l.foldl (paintV W H [⟨0, 0, (W : Int), (H : Int)⟩] m) (drawn W H [⟨0, 0, (W : Int), (H : Int)⟩] (fun _ _ _ => back) L)
theorem foldl_take {α β : Type} (f : β → α → β) (b : β) (l : List α) {k : Nat} (hk : k < l.length) : (l.take (k + 1)).foldl f b = f ((l.take k).foldl f b) l[k] := by
  rw [← List.take_append_getElem hk, List.foldl_append]
  rfl
/-- nothing of it lies in block p -/
def Off (p : Nat) (A : Option Addr) (m : List Im) : Prop := (∀ ad, A = some ad → ad.block ≠ p) ∧ ∀ g ∈ m, ∀ ad, g.A = some ad → ad.block ≠ p
theorem RdI.sv {w w' : World} {p B : Nat} {A : Option Addr} {m : List Im} (h : RdI w B A m) (s : Sav p w w') (hB : B ≤ w.heap.size) (ho : Off p A m) : RdI w' B A m :=
  ⟨s.rds h.row hB ho.1, fun g hg => s.rds (h.each g hg) hB (ho.2 g hg), h.u32⟩
set_option maxRecDepth 100000 in
set_option maxHeartbeats 16000000 in
theorem all_any (c p W H : Nat) (L : List Int) (back : Int) (A : Option Addr) (lc : Nat) (l : List Vw) (A' : Option Addr) (lc' : Nat) (m : List Im) (w : World) (hc : Cv w c p W H L) (hback : 0 ≤ back ∧ back < 4294967296)
    (hl : Rds w w.heap.size 6 A l.length (l.flatMap vwC)) (hlp : 0 < l.length → ∀ ad, A = some ad → ad.block ≠ p) (hln : l.length ≤ 1000000) (hm : RdI w w.heap.size A' m) (hmp : Off p A' m) (hmn : m.length ≤ 1000000) :
    Calls Tryd.prog 29 #[.pointer (some ⟨c, 0, none⟩), .int .u32 back, .slice A l.length lc, .slice A' m.length lc'] w fun e w' => e = .returned (.tuple #[]) ∧ Sav p w w' ∧ Cv w' c p W H (allL W H back l m L) := by
  have hback := Lib.hid hback
  have hlp := Lib.hid hlp
  have hmp := Lib.hid hmp
  go_enter Tryd.func29, Tryd.ntmps29
  go_wp2_with fail
  refine (size_any c p W H L w hc).mono ?_
  rintro e w1 ⟨rfl, hb1⟩
  have hc1 := hc.be hb1
  have hl1 := (hl.be hb1).more hb1.size
  have hm1 := (hm.be hb1).more hb1.size
  have hmL := Lib.hid hm1
  go_wp2_with fail
  generalize hwv : World.alloc _ _ = w2
  have hb2 : Below w1.heap.size w1 w2 := hwv ▸ bl_alloc (Below.refl _ _) _
  have B2 : Bk w2 w1.heap.size 32 (rV ⟨0, 0, (W : Int), (H : Int)⟩) := hwv ▸ Bk.new _ _ _
  clear hwv
  have hgp : w1.heap.size ≠ p := by have := hc1.px.lt; omega
  obtain ⟨gc, hgc⟩ : ∃ gc, w1.heap.size = gc := ⟨_, rfl⟩
  rw [hgc] at B2 hgp ⊢
  have hW := hc.w2
  have hH := hc.h2
  have h64 : ∀ r ∈ [(⟨0, 0, (W : Int), (H : Int)⟩ : R)], I64 r := by intro r hr; obtain rfl := List.mem_singleton.1 hr; unfold I64; simp only; omega
  have hne : ∀ ad, (some ⟨gc, 0, none⟩ : Option Addr) = some ad → ad.block ≠ p := by intro ad e; injection e with e; subst e; exact hgp
  have h64 := Lib.hid h64
  have hne := Lib.hid hne
  refine (fill_any c p W H _ back (some ⟨gc, 0, none⟩) 1 [⟨0, 0, (W : Int), (H : Int)⟩] w2 (hc1.be hb2) hback.out (one_rds B2) hne.out h64.out (by simp)).mono ?_
  rintro e w3 ⟨rfl, hs3, hc3⟩
  have B3 := hs3.bk B2 hgp
  have hl3 := (hs3.rds' ((hl1.be hb2).more hb2.size) (Nat.le_refl _) hlp.out).more hs3.size
  have hm3 := (((hm1.be hb2).more hb2.size).sv hs3 (Nat.le_refl _) hmp.out).more hs3.size
  have hs13 : Sav p w w3 := ((Sav.of hb1).trans (.of hb2)).trans hs3
  obtain ⟨L3, hL3⟩ : ∃ L3, drawn W H [⟨0, 0, (W : Int), (H : Int)⟩] (fun _ _ _ => back) L = L3 := ⟨_, rfl⟩
  rw [hL3] at hc3
  have hL3 := Lib.hid hL3
  clear hs3 B2 hb2 hb1 hc hc1 hl hm hl1 hm1 hgc hmL
  have hm3 := Lib.hid hm3
  have hc3 := Lib.hid hc3
  go_wp2_with fail
  go_loopw [12, 13, 14, 30] (fun _ _ _ s30 wr => ∃ k : Nat, k ≤ l.length ∧ s30 = .int .i64 (k : Int) ∧ Sav p w3 wr ∧ Bk wr p 22 (pxV ((l.take k).foldl (paintV W H [⟨0, 0, (W : Int), (H : Int)⟩] m) L3)) ∧ Hid (Cv wr c p W H ((l.take k).foldl (paintV W H [⟨0, 0, (W : Int), (H : Int)⟩] m) L3))) (fun _ _ _ s30 _ => l.length - (intOf s30).toNat)
  case atStart => exact ⟨0, by omega, rfl, Sav.refl _ _, hc3.out.px, hc3⟩
  case round =>
    obtain ⟨k, hk, rfl, hsr, Bpr, hcr⟩ := hrel
    by_cases hlt : k < l.length
    · have hlr := hsr.rds' hl3 (Nat.le_refl _) hlp.out
      have hmr := Lib.hid ((hm3.out.sv hsr (Nat.le_refl _) hmp.out).more hsr.size)
      have Br := hsr.bk B3 hgp
      obtain ⟨ad, rfl, hbl, c0, c1, c2, c3, c4, c5⟩ := at6 hlr hlt
      have hstep := Lib.hid (foldl_take (paintV W H [⟨0, 0, (W : Int), (H : Int)⟩] m) L3 l hlt)
      obtain ⟨Lk, hLk⟩ : ∃ Lk, (l.take k).foldl (paintV W H [⟨0, 0, (W : Int), (H : Int)⟩] m) L3 = Lk := ⟨_, rfl⟩
      rw [hLk] at Bpr hcr hstep
      generalize hs : l[k] = v at *
      have hs := Lib.hid hs
      have hlt := Lib.hid hlt
      have i0 : (0 : Int) ≤ (k : Int) := by omega
      have i1 : (k : Int) < (l.length : Int) := by have := hlt.out; omega
      go_wp2_with fail
      generalize hwv : World.alloc _ _ = wa
      have Bv : Bk wa wr.heap.size 60 #[.int .i64 v.s, .int .i64 v.b, .int .i64 v.x, .int .i64 v.y, .int .i64 v.w, .int .i64 v.h] := hwv ▸ Bk.new _ _ _
      have hba : Below wr.heap.size wr wa := hwv ▸ bl_alloc (Below.refl _ _) _
      clear hwv c0 c1 c2 c3 c4 c5
      refine (find_any A' lc' m v.b wa hmn ((hmr.out.row.be hba).more hba.size)).mono ?_
      rintro e wb ⟨rfl, hbb⟩
      have hbrb := bl_step hba hbb
      have Bvb := Bv.be hbb
      have hcb := Lib.hid (hcr.out.be hbrb)
      have hmb := Lib.hid ((hmr.out.be hbrb).more hbrb.size)
      have Brb := Br.be hbrb
      obtain ⟨gv, hgv⟩ : ∃ gv, wr.heap.size = gv := ⟨_, rfl⟩
      rw [hgv] at Bvb ⊢
      clear Bv Br hmr hgv hba hbb
      obtain ⟨q0, q1, q2, q3, q4, q5⟩ := Bk.c6 Bvb
      have hgvl := Bvb.lt
      have hgvn : ¬ (gv = wb.heap.size) := by omega
      have hgvn' : ¬ (wb.heap.size = gv) := by omega
      cases hf : findI m v.b with
      | none =>
        have e1 : (imC (opI (none : Option Im))).toArray = #[.int .i64 0, .int .i64 0, .int .i64 0, .slice none 0 0] := rfl
        have e2 : (none : Option Im).isSome = false := rfl
        rw [e1, e2]
        have hpv : paintV W H [⟨0, 0, (W : Int), (H : Int)⟩] m Lk v = Lk := by unfold paintV; rw [hf]
        have hpv := Lib.hid hpv
        have hsr2 := hsr.step (bl_alloc hbrb (.cells #[.int .i64 0, .int .i64 0, .int .i64 0, .slice none 0 0] 73))
        have hcb2 := Lib.hid (hcb.out.be (bl_alloc (Below.refl _ _) (.cells #[.int .i64 0, .int .i64 0, .int .i64 0, .slice none 0 0] 73)))
        clear hf
        go_wp2_with fail
        go_roundw
        case rel => exact ⟨k + 1, hlt.out, by go_num, hsr2, by rw [hstep.out, hpv.out]; exact hcb2.out.px, by rw [hstep.out, hpv.out]; exact hcb2⟩
        case measure => have := hlt.out; simp [intOf]; omega
      | some g =>
        have e1 : (imC (opI (some g))).toArray = #[.int .i64 g.b, .int .i64 g.w, .int .i64 g.h, .slice g.A g.P.length g.c] := rfl
        have e2 : (some g).isSome = true := rfl
        rw [e1, e2]
        have hpv : paintV W H [⟨0, 0, (W : Int), (H : Int)⟩] m Lk v = drawO W H [⟨0, 0, (W : Int), (H : Int)⟩] v.x v.y g.w g.h g.P Lk := by unfold paintV; rw [hf]
        have hpv := Lib.hid hpv
        have hgm : g ∈ m := List.mem_of_find?_eq_some hf
        have hgm := Lib.hid hgm
        clear hf
        go_wp2_with fail
        have hbc : Below wb.heap.size wb (wb.alloc (.cells #[.int .i64 g.b, .int .i64 g.w, .int .i64 g.h, .slice g.A g.P.length g.c] 73)) := bl_alloc (Below.refl _ _) _
        refine (draw_all c p W H Lk v.x v.y g.w g.h g.A g.P.length g.c g.P (some ⟨gc, 0, none⟩) 1 [⟨0, 0, (W : Int), (H : Int)⟩] _ (hcb.out.be hbc) rfl (((hmb.out.each g hgm.out).be hbc).more hbc.size) (hmb.out.u32 g hgm.out) (hmp.out.2 g hgm.out) (one_rds (Brb.be hbc)) hne.out h64.out (by simp)).mono ?_
        rintro e wd ⟨rfl, hsd, hcd⟩
        have hsr2 := (hsr.step (bl_step hbrb hbc)).trans hsd
        have hcd := Lib.hid hcd
        go_wp2_with fail
        go_roundw
        case rel => exact ⟨k + 1, hlt.out, by go_num, hsr2, by rw [hstep.out, hpv.out]; exact hcd.out.px, by rw [hstep.out, hpv.out]; exact hcd⟩
        case measure => have := hlt.out; simp [intOf]; omega
    · obtain rfl : k = l.length := by omega
      go_wp2_with fail
      go_end0
      have h2 := hcr.out
      rw [List.take_length, ← hL3.out] at h2
      exact ⟨rfl, hs13.trans hsr, h2⟩
end Go.Proofs.YtjjdgbhplechbaaDoor.Cv
