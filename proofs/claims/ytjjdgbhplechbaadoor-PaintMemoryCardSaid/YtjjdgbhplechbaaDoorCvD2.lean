/- Draw, whole. -/
import Derived.Test.YtjjdgbhplechbaaDoorCvD
set_option linter.unusedVariables false
set_option linter.unusedSimpArgs false
namespace Go.Proofs.YtjjdgbhplechbaaDoor.Cv
open Go.RowKit Go.Proofs.YtjjdgbhplechbaaDoor.Kit Go.Proofs.YtjjdgbhplechbaaDoor.Rect Go.Proofs.YtjjdgbhplechbaaDoor.Pix

theorem set_same {M : List Int} {k : Nat} {o : Int} (h : M[k]? = some o) : M.set k o = M := by
  apply List.ext_getElem?
  intro i
  rw [List.getElem?_set]
  split
  · rename_i e
    subst e
    split
    · exact h.symm
    · rename_i hl
      rw [List.getElem?_eq_none (by omega)] at h
      cases h
  · rfl
theorem Sav.rds' {w w' : World} {p B sz n : Nat} {A : Option Addr} {xs : List Value} (s : Sav p w w') (h : Rds w B sz A n xs) (hB : B ≤ w.heap.size) (hn : 0 < n → ∀ ad, A = some ad → ad.block ≠ p) : Rds w' B sz A n xs := by
  refine ⟨h.1, fun hp => ?_⟩
  obtain ⟨ad, e, hb, hc⟩ := h.2 hp
  exact ⟨ad, e, hb, fun j u hu => by
    rw [World.cell?_of_block (w := w) (s.block _ (by rw [add_blk]; omega) (by rw [add_blk]; exact hn hp ad e))]
    exact hc j u hu⟩
theorem do_draw {w0 : World} {p W H gx gy gw gi gp n lc : Nat} {X Y Wd Hd : Int} {A : Option Addr} {P : List Int} (h : Caught w0 gx gy gw gi gp X Y Wd Hd A n lc) (h1 : gx ≠ p) (h2 : gy ≠ p) (h3 : gw ≠ p) (h4 : gi ≠ p) (h5 : gp ≠ p)
    (hW : W ≤ 48) (hH : H ≤ 48) (hP : P.length = n) (hR : Rds w0 w0.heap.size 1 A n (P.map (Value.int .u32))) (hPu : ∀ v ∈ P, 0 ≤ v ∧ v < 4294967296) (hne : 0 < n → ∀ ad, A = some ad → ad.block ≠ p) :
    Do 51 #[.pointer (some ⟨gy, 0, none⟩), .pointer (some ⟨gw, 0, none⟩), .pointer (some ⟨gx, 0, none⟩), .pointer (some ⟨gi, 0, none⟩), .pointer (some ⟨gp, 0, none⟩)] w0 p W H (drawF X Y Wd Hd P) := by
  intro w M x y o hs hp hx hy hM ho
  have hw := h.sv hs h1 h2 h3 h4 h5
  have hx' : x < 48 := by omega
  have hy' : y < 48 := by omega
  cases hh : rHas ⟨X, Y, Wd, Hd⟩ (x : Int) (y : Int) with
  | false =>
    refine (drawC_out gx gy gw gi gp p (y * W + x) X Y Wd Hd A n lc x y w hw hx' hy' hh).mono ?_
    rintro e w' ⟨rfl, hb⟩
    refine ⟨rfl, .of hb, ?_⟩
    have e : drawF X Y Wd Hd P x y o = o := by unfold drawF; rw [if_neg (by rw [hh]; simp)]
    rw [e, set_same hM]
    exact hp.be hb
  | true =>
    have hi := has_ix hh
    obtain ⟨ix, hix⟩ : ∃ ix : Nat, ((y : Int) - Y) * Wd + (x : Int) - X = (ix : Int) := ⟨(((y : Int) - Y) * Wd + (x : Int) - X).toNat, by omega⟩
    have hto : (((y : Int) - Y) * Wd + (x : Int) - X).toNat = ix := by rw [hix]; rfl
    by_cases hn : ix < n
    · have hk : w.cell? ⟨p, y * W + x, none⟩ = some (.int .u32 o) := by rw [hp.cell]; simp [pxV, hM]
      refine (drawC_in gx gy gw gi gp p (y * W + x) X Y Wd Hd A n lc x y ix P o w hw hx' hy' hh hix hn hP (hs.rds' hR (Nat.le_refl _) hne |>.more hs.size) hPu hne h5 ho hk (hp.frz _) hp.lt).mono ?_
      rintro e w' ⟨rfl, W', hb, rfl⟩
      refine ⟨rfl, (Sav.of hb).st _ _, ?_⟩
      have e : drawF X Y Wd Hd P x y o = ovr o (P.getD ix 0) := by unfold drawF; rw [hto, if_pos ⟨hh, by omega⟩]
      rw [e]
      have := (hp.be hb).st (y * W + x) (.int .u32 (ovr o (P.getD ix 0)))
      rw [px_set] at this
      exact this
    · refine (drawC_past gx gy gw gi gp p (y * W + x) X Y Wd Hd A n lc x y ix w hw hx' hy' hh hix (by omega)).mono ?_
      rintro e w' ⟨rfl, hb⟩
      refine ⟨rfl, .of hb, ?_⟩
      have e : drawF X Y Wd Hd P x y o = o := by unfold drawF; rw [hto, if_neg (by omega)]
      rw [e, set_same hM]
      exact hp.be hb
theorem drawF_bd {X Y Wd Hd : Int} {P : List Int} (x y : Nat) (v : Int) (h : 0 ≤ v ∧ v < 4294967296) : 0 ≤ drawF X Y Wd Hd P x y v ∧ drawF X Y Wd Hd P x y v < 4294967296 := by
  unfold drawF
  split
  · exact ovr_bd _ _
  · exact h
theorem far_ok (n : Int) (w : World) (h1 : -16777216 ≤ n) (h2 : n ≤ 16777216) : Calls Tryd.prog 50 #[.int .i64 n] w fun e w' => e = .returned (.bool false) ∧ w = w' := by
  have d1 : decide (n < -16777216) = false := by simp; omega
  have d2 : decide (16777216 < n) = false := by simp; omega
  go_enter Tryd.func50, Tryd.ntmps50
  go_wp2_with fail
  go_ret
  exact ⟨rfl, rfl⟩
theorem al4 (w : World) (a b c d : Obj) : Below w.heap.size w ((((w.alloc a).alloc b).alloc c).alloc d) := bl_alloc (bl_alloc (bl_alloc (bl_alloc (Below.refl _ _) _) _) _) _
set_option maxRecDepth 100000 in
set_option maxHeartbeats 16000000 in
theorem draw_any2 (c p W H : Nat) (L : List Int) (X Y Wd Hd : Int) (A : Option Addr) (n lc : Nat) (P : List Int) (A' : Option Addr) (lc' : Nat) (l : List R) (w : World) (hc : Cv w c p W H L)
    (x1 : -16777216 ≤ X) (x2 : X ≤ 16777216) (y1 : -16777216 ≤ Y) (y2 : Y ≤ 16777216) (w1 : 1 ≤ Wd) (w2 : Wd ≤ 16777216) (h1 : 1 ≤ Hd) (h2 : Hd ≤ 16777216)
    (hP : P.length = n) (hR : Rds w w.heap.size 1 A n (P.map (Value.int .u32))) (hPu : ∀ v ∈ P, 0 ≤ v ∧ v < 4294967296) (hne : 0 < n → ∀ ad, A = some ad → ad.block ≠ p)
    (hl : Rds w w.heap.size 4 A' l.length (l.flatMap rC)) (h64 : ∀ r ∈ l, I64 r) (hn : l.length ≤ 1000000) :
    Calls Tryd.prog 21 #[.pointer (some ⟨c, 0, none⟩), .int .i64 X, .int .i64 Y, .int .i64 Wd, .int .i64 Hd, .slice A n lc, .slice A' l.length lc'] w fun e w' => e = .returned (.tuple #[]) ∧ Sav p w w' ∧ Cv w' c p W H (drawn W H l (drawF X Y Wd Hd P) L) := by
  have hmf : ∀ (fn : Fn) (first cap : Array Value) (w : World), (Instr.makeFunc fn first cap).run Tryd.prog w = .ok (.func fn first cap) w := fun _ _ _ _ => rfl
  have d1 : decide (Wd < 1) = false := by simp; omega
  have d2 : decide (Hd < 1) = false := by simp; omega
  have hPu := Lib.hid hPu
  have hne := Lib.hid hne
  have h64 := Lib.hid h64
  have hP := Lib.hid hP
  have x1 := Lib.hid x1
  have x2 := Lib.hid x2
  have y1 := Lib.hid y1
  have y2 := Lib.hid y2
  have w1 := Lib.hid w1
  have w2 := Lib.hid w2
  have h1 := Lib.hid h1
  have h2 := Lib.hid h2
  go_enter Tryd.func21, Tryd.ntmps21
  go_wp2_with fail
  generalize hwv : World.alloc _ _ = wv
  have bX : Bk wv w.heap.size 3 #[.int .i64 X] := hwv ▸ (((Bk.new _ _ _).al _).al _).al _
  have bY : Bk wv (w.heap.size + 1) 3 #[.int .i64 Y] := hwv ▸ ((Bk.new' _ _ _ (by simp)).al _).al _
  have bW : Bk wv (w.heap.size + 1 + 1) 3 #[.int .i64 Wd] := hwv ▸ (Bk.new' _ _ _ (by simp)).al _
  have bP : Bk wv (w.heap.size + 1 + 1 + 1) 34 #[.slice A n lc] := hwv ▸ Bk.new' _ _ _ (by simp)
  have hbv : Below w.heap.size w wv := hwv ▸ al4 _ _ _ _ _
  clear hwv
  refine (far_ok Wd wv (by have := w1.out; omega) w2.out).mono ?_
  rintro e _ ⟨rfl, rfl⟩
  go_wp2_with fail
  refine (far_ok Hd wv (by have := h1.out; omega) h2.out).mono ?_
  rintro e _ ⟨rfl, rfl⟩
  have cX := bX.cell 0
  have cY := bY.cell 0
  have cW := bW.cell 0
  have cP := bP.cell 0
  go_wp2_with fail
  refine (far_ok X wv x1.out x2.out).mono ?_
  rintro e _ ⟨rfl, rfl⟩
  go_wp2_with fail
  refine (far_ok Y wv y1.out y2.out).mono ?_
  rintro e _ ⟨rfl, rfl⟩
  go_wp2_with fail
  generalize hwv : World.alloc _ _ = wu
  have bI : Bk wu wv.heap.size 32 (rV ⟨X, Y, Wd, Hd⟩) := hwv ▸ Bk.new _ _ _
  have hbu : Below wv.heap.size wv wu := hwv ▸ bl_alloc (Below.refl _ _) _
  have hb : Below w.heap.size w wu := bl_step hbv hbu
  clear hwv
  have hpl := hc.px.lt
  have hvs := hbv.size
  refine (each_any c p W H L A' lc' l 51 #[.pointer (some ⟨w.heap.size + 1, 0, none⟩), .pointer (some ⟨w.heap.size + 1 + 1, 0, none⟩), .pointer (some ⟨w.heap.size, 0, none⟩), .pointer (some ⟨wv.heap.size, 0, none⟩), .pointer (some ⟨w.heap.size + 1 + 1 + 1, 0, none⟩)] (drawF X Y Wd Hd P) wu (hc.be hb) ((hl.be hb).more hb.size) h64.out hn (fun x y v h => drawF_bd x y v h)
    (do_draw ⟨bX.be hbu, bY.be hbu, bW.be hbu, bI, bP.be hbu, x1.out, x2.out, y1.out, y2.out, w1.out, w2.out, h1.out, h2.out⟩ (by omega) (by omega) (by omega) (by omega) (by omega) hc.w2 hc.h2 hP.out ((hR.be hb).more hb.size) hPu.out hne.out)
    (enters_of Tryd.func51 (by kernel_rfl) rfl)).mono ?_
  rintro e w3 ⟨rfl, hs, hc3⟩
  go_wp2_with fail
  go_end0
  exact ⟨rfl, (Sav.of hb).trans hs, hc3⟩
theorem draw_any (c p W H : Nat) (L : List Int) (X Y Wd Hd : Int) (A : Option Addr) (n lc : Nat) (P : List Int) (A' : Option Addr) (lc' : Nat) (l : List R) (w : World) (hc : Cv w c p W H L)
    (x1 : -16777216 ≤ X) (x2 : X ≤ 16777216) (y1 : -16777216 ≤ Y) (y2 : Y ≤ 16777216) (w1 : 1 ≤ Wd) (w2 : Wd ≤ 16777216) (h1 : 1 ≤ Hd) (h2 : Hd ≤ 16777216)
    (hP : P.length = n) (hR : Rds w w.heap.size 1 A n (P.map (Value.int .u32))) (hPu : ∀ v ∈ P, 0 ≤ v ∧ v < 4294967296) (hne : ∀ ad, A = some ad → ad.block ≠ p)
    (hl : Rds w w.heap.size 4 A' l.length (l.flatMap rC)) (_ : ∀ ad, A' = some ad → ad.block ≠ p) (h64 : ∀ r ∈ l, I64 r) (hn : l.length ≤ 1000000) :
    Calls Tryd.prog 21 #[.pointer (some ⟨c, 0, none⟩), .int .i64 X, .int .i64 Y, .int .i64 Wd, .int .i64 Hd, .slice A n lc, .slice A' l.length lc'] w fun e w' => e = .returned (.tuple #[]) ∧ Sav p w w' ∧ Cv w' c p W H (drawn W H l (drawF X Y Wd Hd P) L) :=
  draw_any2 c p W H L X Y Wd Hd A n lc P A' lc' l w hc x1 x2 y1 y2 w1 w2 h1 h2 hP hR hPu (fun _ => hne) hl h64 hn
end Go.Proofs.YtjjdgbhplechbaaDoor.Cv
