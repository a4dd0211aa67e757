/- PaintFolds, walked. Printed by gen_folds.py. -/
import Derived.Test.YtjjdgbhplechbaaDoorCvFo
import Derived.Test.YtjjdgbhplechbaaDoorCvCop
set_option linter.unusedVariables false
set_option linter.unusedSimpArgs false
namespace Go.Proofs.YtjjdgbhplechbaaDoor.Cv
open Go.RowKit Go.Proofs.YtjjdgbhplechbaaDoor.Kit Go.Proofs.YtjjdgbhplechbaaDoor.Rect Go.Proofs.YtjjdgbhplechbaaDoor.Pix
attribute [local go_sem high] bmax2 bmin2 bmax_2 bmin_2
theorem foldV_none {m : List Im} {v : Vw} {x y o : Int} (h : findI m v.b = none) : foldV m x y o v = o := by unfold foldV; rw [h]
theorem foldV_some {m : List Im} {v : Vw} {x y o : Int} {g : Im} (h : findI m v.b = some g) : foldV m x y o v = onePt v.x v.y g.w g.h g.P x y o := by unfold foldV; rw [h]
theorem onePt_n1 {X Y Wd Hd x y o : Int} {P : List Int} (h : ¬ okD X Y Wd Hd) : onePt X Y Wd Hd P x y o = o := by unfold onePt; rw [if_neg (fun q => h q.1)]
theorem onePt_n2 {X Y Wd Hd x y o : Int} {P : List Int} (h : ¬ (X ≤ x ∧ x < X + Wd ∧ Y ≤ y ∧ y < Y + Hd)) : onePt X Y Wd Hd P x y o = o := by
  unfold onePt
  rw [if_neg]
  intro q
  have := has_iff.1 q.2.1
  unfold inR at this
  simp only at this
  exact h ⟨this.2.2.1, this.2.2.2.1, this.2.2.2.2.1, this.2.2.2.2.2⟩
theorem onePt_n3 {X Y Wd Hd x y o : Int} {P : List Int} {ix : Nat} (hix : (y - Y) * Wd + x - X = (ix : Int)) (h : ¬ ix < P.length) : onePt X Y Wd Hd P x y o = o := by
  unfold onePt
  rw [hix, if_neg]
  intro q
  exact h q.2.2
theorem onePt_y {X Y Wd Hd x y o u : Int} {P : List Int} {ix : Nat} (h1 : okD X Y Wd Hd) (h2 : X ≤ x ∧ x < X + Wd ∧ Y ≤ y ∧ y < Y + Hd) (hix : (y - Y) * Wd + x - X = (ix : Int)) (hu : P[ix]? = some u) : onePt X Y Wd Hd P x y o = ovr o u := by
  have hl : ix < P.length := by
    by_cases h : ix < P.length
    · exact h
    · rw [List.getElem?_eq_none (by omega)] at hu; cases hu
  have hh : rHas ⟨X, Y, Wd, Hd⟩ x y = true := by
    rw [has_iff]
    unfold inR okD at *
    simp only
    omega
  unfold onePt
  rw [hix, if_pos ⟨h1, hh, hl⟩]
  have : P.getD ((ix : Int).toNat) 0 = u := by rw [Int.toNat_natCast, List.getD_eq_getElem?_getD, hu]; rfl
  rw [this]
theorem aw_any (A : Option Addr) (c : Nat) (L : List Int) : allL 1 1 6 [⟨0, 1, 0, 0, 0, 0⟩] [⟨1, 1, 1, [4278190087], A, c⟩] L = allL 1 1 6 [⟨0, 1, 0, 0, 0, 0⟩] [⟨1, 1, 1, [4278190087], none, 1⟩] L := by
  unfold allL
  simp only [List.foldl_cons, List.foldl_nil]
  unfold paintV
  rfl
set_option maxRecDepth 100000 in
set_option maxHeartbeats 16000000 in
theorem awake23_any (w : World) : Calls Tryd.prog 28 #[] w fun e w' => e = .returned (.bool true) ∧ Below w.heap.size w w' := by
  go_enter Tryd.func28, Tryd.ntmps28
  go_wp2_with fail
  refine (new_any 1 1 w (by omega) (by omega) (by omega) (by omega)).mono ?_
  rintro e w1 ⟨c, p, rfl, hc, hc0, hp0, hb1⟩
  go_wp2_with fail
  refine (all_any c p 1 1 _ 5 none 0 [] none 0 [] w1 hc (by omega) Rds.none_ (fun h => by simp at h) (by simp) ⟨Rds.none_, fun g hg => by simp at hg, fun g hg => by simp at hg⟩ ⟨fun ad e => (by cases e), fun g hg => by simp at hg⟩ (by simp)).mono ?_
  rintro e w2 ⟨rfl, hs2, hc2⟩
  have hb2 : Below w.heap.size w w2 := hs2.below hb1 hp0 hb1.size
  clear hs2 hc hb1
  go_wp2_with fail
  generalize hwv : World.alloc _ _ = w3
  have Bv : Bk w3 w2.heap.size 60 #[.int .i64 0, .int .i64 1, .int .i64 0, .int .i64 0, .int .i64 0, .int .i64 0] := hwv ▸ ((Bk.new _ _ _).al _).al _
  have Bq : Bk w3 (w2.heap.size + 1) 22 #[.int .u32 4278190087] := hwv ▸ (Bk.new' _ _ _ (by simp)).al _
  have Bi : Bk w3 (w2.heap.size + 1 + 1) 73 #[.int .i64 1, .int .i64 1, .int .i64 1, .slice (some ⟨w2.heap.size + 1, 0, none⟩) 1 1] := hwv ▸ Bk.new' _ _ _ (by simp)
  have hb3 : Below w2.heap.size w2 w3 := hwv ▸ bl_alloc (bl_alloc (bl_alloc (Below.refl _ _) _) _) _
  clear hwv
  have hpl := hc2.px.lt
  have hrv : Rds w3 w3.heap.size 6 (some ⟨w2.heap.size, 0, none⟩) [(⟨0, 1, 0, 0, 0, 0⟩ : Vw)].length ([(⟨0, 1, 0, 0, 0, 0⟩ : Vw)].flatMap vwC) := by
    have := Rds.block (n := 1) (sz := 6) Bv rfl Bv.lt
    simpa [vwC] using this
  have hri : RdI w3 w3.heap.size (some ⟨w2.heap.size + 1 + 1, 0, none⟩) [⟨1, 1, 1, [4278190087], some ⟨w2.heap.size + 1, 0, none⟩, 1⟩] := by
    refine ⟨?_, fun g hg => ?_, fun g hg v hv => ?_⟩
    · have := Rds.block (n := 1) (sz := 4) Bi rfl Bi.lt
      simpa [imC] using this
    · obtain rfl := List.mem_singleton.1 hg
      have := Rds.block (n := 1) (sz := 1) Bq rfl Bq.lt
      simpa using this
    · obtain rfl := List.mem_singleton.1 hg
      obtain rfl := List.mem_singleton.1 hv
      omega
  refine (all_any c p 1 1 _ 6 (some ⟨w2.heap.size, 0, none⟩) 1 [⟨0, 1, 0, 0, 0, 0⟩] (some ⟨w2.heap.size + 1 + 1, 0, none⟩) 1 [⟨1, 1, 1, [4278190087], some ⟨w2.heap.size + 1, 0, none⟩, 1⟩] w3 (hc2.be hb3) (by omega) hrv (fun _ ad e => by injection e with e; subst e; simp only; omega) (by simp) hri
    ⟨fun ad e => by injection e with e; subst e; simp only; omega, fun g hg ad e => by obtain rfl := List.mem_singleton.1 hg; injection e with e; subst e; simp only; omega⟩ (by simp)).mono ?_
  rintro e w4 ⟨rfl, hs4, hc4⟩
  rw [aw_any] at hc4
  have hb4 : Below w.heap.size w w4 := hs4.below (bl_step hb2 hb3) hp0 (bl_step hb2 hb3).size
  go_wp2_with fail
  refine (at_any c p 1 1 awP 0 0 w4 hc4).mono ?_
  rintro e w5 ⟨rfl, hb5⟩
  rw [awp1]
  go_wp2_with fail
  go_ret
  exact ⟨rfl, bl_step hb4 hb5⟩
set_option maxRecDepth 100000 in
set_option maxHeartbeats 32000000 in
theorem folds_law (a b back : Int) (A : Option Addr) (lc : Nat) (l : List Vw) (A' : Option Addr) (lc' : Nat) (im : List Im) (i j : Int) (w : World) (hback : 0 ≤ back ∧ back < 4294967296)
    (hl : Rds w w.heap.size 6 A l.length (l.flatMap vwC)) (hr : RdI w w.heap.size A' im) :
    Calls Tryd.prog 7 #[.int .i64 a, .int .i64 b, .int .u32 back, .slice A l.length lc, .slice A' im.length lc', .int .i64 i, .int .i64 j] w fun e w' => e = .returned (.bool true) ∧ Below w.heap.size w w' := by
  have hback := Lib.hid hback
  go_enter Tryd.func7, Tryd.ntmps7
  go_wp2_with fail
  refine (images_any A' lc' im w hr).mono ?_
  rintro e w1 ⟨hb1, hcase⟩
  rcases hcase with ⟨hbad, rfl⟩ | ⟨hok, A1, c1, m, rfl, hmp, hown, hownI⟩
  · go_wp2_with fail
    refine (place_any a 20 w1 (by omega) (by omega)).mono ?_
    rintro e _ ⟨rfl, rfl⟩
    obtain ⟨P, hP⟩ : ∃ n, a % 20 = n := ⟨_, rfl⟩
    have lP : 0 ≤ P := by rw [← hP]; exact Int.emod_nonneg _ (by omega)
    have mP : P < 20 := by rw [← hP]; exact Int.emod_lt_of_pos _ (by omega)
    rw [hP]
    clear hP
    go_wp2_with fail
    refine (place_any b 20 w1 (by omega) (by omega)).mono ?_
    rintro e _ ⟨rfl, rfl⟩
    obtain ⟨Q, hQ⟩ : ∃ n, b % 20 = n := ⟨_, rfl⟩
    have lQ : 0 ≤ Q := by rw [← hQ]; exact Int.emod_nonneg _ (by omega)
    have mQ : Q < 20 := by rw [← hQ]; exact Int.emod_lt_of_pos _ (by omega)
    rw [hQ]
    clear hQ
    go_wp2_with fail
    refine (new_any' (1 + P) (1 + Q) w1 (by omega) (by omega) (by omega) (by omega)).mono ?_
    rintro e w2 ⟨c, p, W, H, hW, hH, rfl, hc, hc0, hp0, hb2⟩
    rw [hW, hH]
    clear hW hH lP mP lQ mQ
    have hbw := bl_step hb1 hb2
    go_wp2_with fail
    refine (awake23_any w2).mono ?_
    rintro e w3 ⟨rfl, hb3⟩
    go_wp2_with fail
    go_ret
    exact ⟨rfl, bl_step hbw hb3⟩
  have hi8 : im.length ≤ 8 := by
    unfold okI at hok
    rw [Bool.and_eq_true] at hok
    simpa using hok.1
  have h400 : ∀ g ∈ im, g.P.length ≤ 400 := by
    unfold okI at hok
    rw [Bool.and_eq_true, List.all_eq_true] at hok
    intro g hg
    simpa using hok.2 g hg
  have hml : m.length = im.length := by have := congrArg List.length hmp; simpa using this
  have hm1 : RdI w1 w1.heap.size A1 m := ⟨Rds.own hown, fun g hg => Rds.own (hownI g hg), u32_pl hmp hr.u32⟩
  have hoff : ∀ p, w1.heap.size ≤ p → Off p A1 m := fun p hp => ⟨fun ad e => by subst e; have := (hown.lt ad.block rfl).2; omega, fun g hg ad e => by have := ((hownI g hg).lt ad.block (by rw [e]; rfl)).2; omega⟩
  have hmp := Lib.hid hmp
  have hoff := Lib.hid hoff
  have hm1 := Lib.hid hm1
  have hml2 := Lib.hid hml
  clear hml
  have hok := Lib.hid hok
  have h400 := Lib.hid h400
  have hr := Lib.hid hr
  clear hown hownI
  go_wp2_with fail
  refine (place_any a 20 w1 (by omega) (by omega)).mono ?_
  rintro e _ ⟨rfl, rfl⟩
  obtain ⟨P, hP⟩ : ∃ n, a % 20 = n := ⟨_, rfl⟩
  have lP : 0 ≤ P := by rw [← hP]; exact Int.emod_nonneg _ (by omega)
  have mP : P < 20 := by rw [← hP]; exact Int.emod_lt_of_pos _ (by omega)
  rw [hP]
  clear hP
  go_wp2_with fail
  refine (place_any b 20 w1 (by omega) (by omega)).mono ?_
  rintro e _ ⟨rfl, rfl⟩
  obtain ⟨Q, hQ⟩ : ∃ n, b % 20 = n := ⟨_, rfl⟩
  have lQ : 0 ≤ Q := by rw [← hQ]; exact Int.emod_nonneg _ (by omega)
  have mQ : Q < 20 := by rw [← hQ]; exact Int.emod_lt_of_pos _ (by omega)
  rw [hQ]
  clear hQ
  go_wp2_with fail
  refine (new_any' (1 + P) (1 + Q) w1 (by omega) (by omega) (by omega) (by omega)).mono ?_
  rintro e w2 ⟨c, p, W, H, hW, hH, rfl, hc, hc0, hp0, hb2⟩
  rw [hW, hH]
  clear hW hH lP mP lQ mQ
  have hbw := bl_step hb1 hb2
  by_cases h12 : 12 < l.length
  · have d12 : decide ((12 : Int) < (l.length : Int)) = true := by simp; omega
    go_wp2_with fail
    refine (awake23_any w2).mono ?_
    rintro e w3 ⟨rfl, hb3⟩
    go_wp2_with fail
    go_ret
    exact ⟨rfl, bl_step hbw hb3⟩
  have d12 : decide ((12 : Int) < (l.length : Int)) = false := by simp; omega
  have hpw : w.heap.size ≤ p := by have := hb1.size; omega
  go_wp2_with fail
  refine (all_any c p W H _ back A lc l A1 c1 m w2 hc hback.out ((hl.be hbw).more hbw.size) (Rds.off hl hpw) (by omega) ((hm1.out.be hb2).more hb2.size) (hoff.out p hp0) (by have := hml2.out; omega)).mono ?_
  rintro e w3 ⟨rfl, hs3, hc3⟩
  have hw3 : Below w.heap.size w w3 := hs3.below hbw hpw hbw.size
  have W1 := hc.w1
  have W2 := hc.w2
  have H1 := hc.h1
  have H2 := hc.h2
  clear hs3 hbw hb1 hb2
  go_wp2_with fail
  refine (place_any i W w3 (by omega) (by omega)).mono ?_
  rintro e _ ⟨rfl, rfl⟩
  obtain ⟨x, hx⟩ : ∃ x : Nat, i % (W : Int) = (x : Int) := ⟨(i % (W : Int)).toNat, by have := Int.emod_nonneg i (b := (W : Int)) (by omega); omega⟩
  have hxW : x < W := by have := Int.emod_lt_of_pos i (b := (W : Int)) (by omega); omega
  rw [hx]
  clear hx
  go_wp2_with fail
  refine (place_any j H w3 (by omega) (by omega)).mono ?_
  rintro e _ ⟨rfl, rfl⟩
  obtain ⟨y, hy⟩ : ∃ y : Nat, j % (H : Int) = (y : Int) := ⟨(j % (H : Int)).toNat, by have := Int.emod_nonneg j (b := (H : Int)) (by omega); omega⟩
  have hyH : y < H := by have := Int.emod_lt_of_pos j (b := (H : Int)) (by omega); omega
  rw [hy]
  clear hy
  have hat : atP W H (allL W H back l m (List.replicate (W * H) 0)) (x : Int) (y : Int) = l.foldl (foldV im (x : Int) (y : Int)) back := by
    rw [at_allL W2 H2 (by simp) hxW hyH]
    congr 1
    funext o v
    exact foldV_pl hmp.out _ _ _ _
  have hat := Lib.hid hat
  have hx48 : x < 48 := by omega
  have hy48 : y < 48 := by omega
  obtain ⟨LL, hLL⟩ : ∃ LL, allL W H back l m (List.replicate (W * H) 0) = LL := ⟨_, rfl⟩
  rw [hLL] at hc3 hat
  have hc3 := Lib.hid hc3
  clear hLL hc W1 W2 H1 H2 hxW hyH
  go_wp2_with fail
  go_loopw [23, 24, 25, 26, 27, 28] (fun s23 s24 _ _ _ _ wr => ∃ k : Nat, k ≤ l.length ∧ s24 = .int .i64 (k : Int) ∧ s23 = .int .u32 ((l.take k).foldl (foldV im (x : Int) (y : Int)) back) ∧ Below w3.heap.size w3 wr) (fun _ s24 _ _ _ _ _ => l.length - (intOf s24).toNat)
  case atStart => exact ⟨0, by omega, rfl, rfl, Below.refl _ _⟩
  case round =>
    obtain ⟨k, hk, rfl, rfl, hbr⟩ := hrel
    have hwr := bl_step hw3 hbr
    by_cases hlt : k < l.length
    · have hd : decide ((k : Int) < (l.length : Int)) = true := by simp; omega
      have i0 : (0 : Int) ≤ (k : Int) := by omega
      have i1 : (k : Int) < (l.length : Int) := by omega
      obtain ⟨ad, rfl, hbl, c0, c1', c2, c3, c4, c5⟩ := at6 (hl.be hwr) hlt
      have hstep := Lib.hid (foldl_take (foldV im (x : Int) (y : Int)) back l hlt)
      have hob := Lib.hid (folds_bd hr.out.u32 (x : Int) (y : Int) (l.take k) back hback.out)
      obtain ⟨o, ho⟩ : ∃ o, (l.take k).foldl (foldV im (x : Int) (y : Int)) back = o := ⟨_, rfl⟩
      rw [ho] at hstep hob ⊢
      clear ho
      generalize hs : l[k] = v at *
      have hs := Lib.hid hs
      have hlt := Lib.hid hlt
      go_wp2_with fail
      generalize hwv : World.alloc _ _ = wa
      have Bv : Bk wa wr.heap.size 60 #[.int .i64 v.s, .int .i64 v.b, .int .i64 v.x, .int .i64 v.y, .int .i64 v.w, .int .i64 v.h] := hwv ▸ Bk.new _ _ _
      have hba : Below wr.heap.size wr wa := hwv ▸ bl_alloc (Below.refl _ _) _
      clear hwv c0 c1' c2 c3 c4 c5
      have hwa := bl_step hwr hba
      refine (rfind_any A' lc' im v.b wa (by omega) ((hr.out.row.be hwa).more hwa.size)).mono ?_
      rintro e wb ⟨rfl, hbb⟩
      have Bvb := Bv.be hbb
      obtain ⟨gv, hgv⟩ : ∃ gv, wr.heap.size = gv := ⟨_, rfl⟩
      rw [hgv] at Bvb ⊢
      have hbrb := bl_step hba hbb
      have hb3b := bl_step hbr hbrb
      have hwb := bl_step hwa hbb
      clear Bv hgv hba hbb hwa
      cases hf : findI im v.b with
      | none =>
        have e1 : (imC (opI (none : Option Im))).toArray = #[.int .i64 0, .int .i64 0, .int .i64 0, .slice none 0 0] := rfl
        have e2 : (none : Option Im).isSome = false := rfl
        rw [e1, e2]
        have hfv := Lib.hid (foldV_none (x := (x : Int)) (y := (y : Int)) (o := o) hf)
        clear hf
        go_wp2_with fail
        go_roundw
        case rel => exact ⟨k + 1, hlt.out, by go_num, by rw [hstep.out, hfv.out], bl_alloc hb3b _⟩
        case measure => have := hlt.out; simp [intOf]; omega
      | some g =>
        have e1 : (imC (opI (some g))).toArray = #[.int .i64 g.b, .int .i64 g.w, .int .i64 g.h, .slice g.A g.P.length g.c] := rfl
        have e2 : (some g).isSome = true := rfl
        rw [e1, e2]
        have hfv := Lib.hid (foldV_some (x := (x : Int)) (y := (y : Int)) (o := o) hf)
        have hgm := Lib.hid (show g ∈ im from List.mem_of_find?_eq_some hf)
        have hgP : g.P.length ≤ 400 := h400.out g hgm.out
        clear hf
        go_upto_region 14 with fail
        generalize hwv : World.alloc _ _ = wc
        have Bi : Bk wc wb.heap.size 62 #[.int .i64 g.b, .int .i64 g.w, .int .i64 g.h, .slice g.A g.P.length g.c] := hwv ▸ Bk.new _ _ _
        have hbc : Below wb.heap.size wb wc := hwv ▸ bl_alloc (Below.refl _ _) _
        have Bvc := Bvb.be hbc
        have hb3c := bl_step hb3b hbc
        have hwc := bl_step hwb hbc
        clear hwv Bvb hbc hb3b hwb hbrb
        obtain ⟨gi, hgi⟩ : ∃ gi, wb.heap.size = gi := ⟨_, rfl⟩
        rw [hgi] at Bi ⊢
        clear hgi
        obtain ⟨q0, q1, q2, q3, q4, q5⟩ := Bk.c6 Bvc
        obtain ⟨r0, r1, r2, r3⟩ := Bi.c4
        by_cases nd1 : g.w < 1
        · have d1 : decide (g.w < 1) = true := by simpa using nd1
          have hno : ¬ okD v.x v.y g.w g.h := by (unfold okD; (try rw [mxI_max] at nd1); (try rw [mnI_min] at nd1); omega)
          have hfw := Lib.hid (onePt_n1 (P := g.P) (x := (x : Int)) (y := (y : Int)) (o := o) hno)
          go_wp2_with fail
          go_roundw
          case rel => exact ⟨k + 1, hlt.out, by go_num, by rw [hstep.out, hfv.out, hfw.out], hb3c⟩
          case measure => have := hlt.out; simp [intOf]; omega
        have d1 : decide (g.w < 1) = false := by simpa using nd1
        by_cases nd2 : 16777216 < g.w
        · have d2 : decide (16777216 < g.w) = true := by simpa using nd2
          have hno : ¬ okD v.x v.y g.w g.h := by (unfold okD; (try rw [mxI_max] at nd2); (try rw [mnI_min] at nd2); omega)
          have hfw := Lib.hid (onePt_n1 (P := g.P) (x := (x : Int)) (y := (y : Int)) (o := o) hno)
          go_wp2_with fail
          go_roundw
          case rel => exact ⟨k + 1, hlt.out, by go_num, by rw [hstep.out, hfv.out, hfw.out], hb3c⟩
          case measure => have := hlt.out; simp [intOf]; omega
        have d2 : decide (16777216 < g.w) = false := by simpa using nd2
        by_cases nd3 : g.h < 1
        · have d3 : decide (g.h < 1) = true := by simpa using nd3
          have hno : ¬ okD v.x v.y g.w g.h := by (unfold okD; (try rw [mxI_max] at nd3); (try rw [mnI_min] at nd3); omega)
          have hfw := Lib.hid (onePt_n1 (P := g.P) (x := (x : Int)) (y := (y : Int)) (o := o) hno)
          go_wp2_with fail
          go_roundw
          case rel => exact ⟨k + 1, hlt.out, by go_num, by rw [hstep.out, hfv.out, hfw.out], hb3c⟩
          case measure => have := hlt.out; simp [intOf]; omega
        have d3 : decide (g.h < 1) = false := by simpa using nd3
        by_cases nd4 : 16777216 < g.h
        · have d4 : decide (16777216 < g.h) = true := by simpa using nd4
          have hno : ¬ okD v.x v.y g.w g.h := by (unfold okD; (try rw [mxI_max] at nd4); (try rw [mnI_min] at nd4); omega)
          have hfw := Lib.hid (onePt_n1 (P := g.P) (x := (x : Int)) (y := (y : Int)) (o := o) hno)
          go_wp2_with fail
          go_roundw
          case rel => exact ⟨k + 1, hlt.out, by go_num, by rw [hstep.out, hfv.out, hfw.out], hb3c⟩
          case measure => have := hlt.out; simp [intOf]; omega
        have d4 : decide (16777216 < g.h) = false := by simpa using nd4
        by_cases nd5 : 16777216 < mxI v.x v.y
        · have d5 : decide (16777216 < mxI v.x v.y) = true := by simpa using nd5
          have hno : ¬ okD v.x v.y g.w g.h := by (unfold okD; (try rw [mxI_max] at nd5); (try rw [mnI_min] at nd5); omega)
          have hfw := Lib.hid (onePt_n1 (P := g.P) (x := (x : Int)) (y := (y : Int)) (o := o) hno)
          go_wp2_with fail
          go_roundw
          case rel => exact ⟨k + 1, hlt.out, by go_num, by rw [hstep.out, hfv.out, hfw.out], hb3c⟩
          case measure => have := hlt.out; simp [intOf]; omega
        have d5 : decide (16777216 < mxI v.x v.y) = false := by simpa using nd5
        by_cases nd6 : mnI v.x v.y < -16777216
        · have d6 : decide (mnI v.x v.y < -16777216) = true := by simpa using nd6
          have hno : ¬ okD v.x v.y g.w g.h := by (unfold okD; (try rw [mxI_max] at nd6); (try rw [mnI_min] at nd6); omega)
          have hfw := Lib.hid (onePt_n1 (P := g.P) (x := (x : Int)) (y := (y : Int)) (o := o) hno)
          go_wp2_with fail
          go_roundw
          case rel => exact ⟨k + 1, hlt.out, by go_num, by rw [hstep.out, hfv.out, hfw.out], hb3c⟩
          case measure => have := hlt.out; simp [intOf]; omega
        have d6 : decide (mnI v.x v.y < -16777216) = false := by simpa using nd6
        rw [mxI_max] at nd5
        rw [mnI_min] at nd6
        have hokD : okD v.x v.y g.w g.h := by unfold okD; omega
        have x1 : -16777216 ≤ v.x := hokD.2.2.1.1
        have x2 : v.x ≤ 16777216 := hokD.2.2.1.2
        have y1 : -16777216 ≤ v.y := hokD.2.2.2.1
        have y2 : v.y ≤ 16777216 := hokD.2.2.2.2
        have w1' : 1 ≤ g.w := hokD.1.1
        have w2' : g.w ≤ 16777216 := hokD.1.2
        have h1' : 1 ≤ g.h := hokD.2.1.1
        have h2' : g.h ≤ 16777216 := hokD.2.1.2
        have hokD := Lib.hid hokD
        clear nd1 nd2 nd3 nd4 nd5 nd6
        by_cases nd7 : (x : Int) < v.x
        · have d7 : decide ((x : Int) < v.x) = true := by simpa using nd7
          have hno : ¬ (v.x ≤ (x : Int) ∧ (x : Int) < v.x + g.w ∧ v.y ≤ (y : Int) ∧ (y : Int) < v.y + g.h) := by omega
          have hfw := Lib.hid (onePt_n2 (P := g.P) (o := o) hno)
          go_wp2_with fail
          go_roundw
          case rel => exact ⟨k + 1, hlt.out, by go_num, by rw [hstep.out, hfv.out, hfw.out], hb3c⟩
          case measure => have := hlt.out; simp [intOf]; omega
        have d7 : decide ((x : Int) < v.x) = false := by simpa using nd7
        by_cases nd8 : v.x + g.w ≤ (x : Int)
        · have d8 : decide (v.x + g.w ≤ (x : Int)) = true := by simpa using nd8
          have hno : ¬ (v.x ≤ (x : Int) ∧ (x : Int) < v.x + g.w ∧ v.y ≤ (y : Int) ∧ (y : Int) < v.y + g.h) := by omega
          have hfw := Lib.hid (onePt_n2 (P := g.P) (o := o) hno)
          go_wp2_with fail
          go_roundw
          case rel => exact ⟨k + 1, hlt.out, by go_num, by rw [hstep.out, hfv.out, hfw.out], hb3c⟩
          case measure => have := hlt.out; simp [intOf]; omega
        have d8 : decide (v.x + g.w ≤ (x : Int)) = false := by simpa using nd8
        by_cases nd9 : (y : Int) < v.y
        · have d9 : decide ((y : Int) < v.y) = true := by simpa using nd9
          have hno : ¬ (v.x ≤ (x : Int) ∧ (x : Int) < v.x + g.w ∧ v.y ≤ (y : Int) ∧ (y : Int) < v.y + g.h) := by omega
          have hfw := Lib.hid (onePt_n2 (P := g.P) (o := o) hno)
          go_wp2_with fail
          go_roundw
          case rel => exact ⟨k + 1, hlt.out, by go_num, by rw [hstep.out, hfv.out, hfw.out], hb3c⟩
          case measure => have := hlt.out; simp [intOf]; omega
        have d9 : decide ((y : Int) < v.y) = false := by simpa using nd9
        by_cases nd10 : v.y + g.h ≤ (y : Int)
        · have d10 : decide (v.y + g.h ≤ (y : Int)) = true := by simpa using nd10
          have hno : ¬ (v.x ≤ (x : Int) ∧ (x : Int) < v.x + g.w ∧ v.y ≤ (y : Int) ∧ (y : Int) < v.y + g.h) := by omega
          have hfw := Lib.hid (onePt_n2 (P := g.P) (o := o) hno)
          go_wp2_with fail
          go_roundw
          case rel => exact ⟨k + 1, hlt.out, by go_num, by rw [hstep.out, hfv.out, hfw.out], hb3c⟩
          case measure => have := hlt.out; simp [intOf]; omega
        have d10 : decide (v.y + g.h ≤ (y : Int)) = false := by simpa using nd10
        have hin : v.x ≤ (x : Int) ∧ (x : Int) < v.x + g.w ∧ v.y ≤ (y : Int) ∧ (y : Int) < v.y + g.h := by omega
        have hi0 : 0 ≤ ((y : Int) - v.y) * g.w + (x : Int) - v.x := by
          have : 0 ≤ ((y : Int) - v.y) * g.w := Int.mul_nonneg (by omega) (by omega)
          omega
        obtain ⟨v1, v2, v3, v4⟩ := ix_bd x1 x2 y1 y2 w1' w2' hx48 hy48
        obtain ⟨ix, hix⟩ : ∃ ix : Nat, ((y : Int) - v.y) * g.w + (x : Int) - v.x = (ix : Int) := ⟨(((y : Int) - v.y) * g.w + (x : Int) - v.x).toNat, by omega⟩
        rw [hix] at v4
        have hixH := Lib.hid hix
        have hin := Lib.hid hin
        clear hi0 nd7 nd8 nd9 nd10
        by_cases n11 : ix < g.P.length
        · have d11 : decide ((ix : Int) < (g.P.length : Int)) = true := by simp; omega
          have j0 : (0 : Int) ≤ (ix : Int) := by omega
          have j1 : (ix : Int) < (g.P.length : Int) := by omega
          obtain ⟨u, hu⟩ : ∃ u, g.P[ix]? = some u := ⟨_, List.getElem?_eq_getElem n11⟩
          have hu0 := Lib.hid (hr.out.u32 g hgm.out u (List.mem_of_getElem? hu))
          obtain ⟨pa, hpa, hpb, hpc⟩ := (hr.out.each g hgm.out).2 (by omega)
          have hcp : wc.cell? (pa.add ix) = some (.int .u32 u) := (hwc.cell (by rw [add_blk]; exact hpb)).trans (hpc ix _ (by simp [hu]))
          rw [hpa] at r3
          have hfw := Lib.hid (onePt_y (o := o) hokD.out hin.out hixH.out hu)
          clear hu hpc n11
          go_wp2_with fail
          refine (rOver_any o u wc hob.out.1 hob.out.2 hu0.out.1 hu0.out.2).mono ?_
          rintro e _ ⟨rfl, rfl⟩
          go_wp2_with fail
          go_roundw
          case rel => exact ⟨k + 1, hlt.out, by go_num, by rw [hstep.out, hfv.out, hfw.out], hb3c⟩
          case measure => have := hlt.out; simp [intOf]; omega
        · have d11 : decide ((ix : Int) < (g.P.length : Int)) = false := by simp; omega
          have hfw := Lib.hid (onePt_n3 (X := v.x) (Y := v.y) (Wd := g.w) (Hd := g.h) (x := (x : Int)) (y := (y : Int)) (o := o) hixH.out n11)
          go_wp2_with fail
          go_roundw
          case rel => exact ⟨k + 1, hlt.out, by go_num, by rw [hstep.out, hfv.out, hfw.out], hb3c⟩
          case measure => have := hlt.out; simp [intOf]; omega
    · obtain rfl : k = l.length := by omega
      have hd : decide ((l.length : Int) < (l.length : Int)) = false := by simp
      rw [List.take_length, ← hat.out]
      go_wp2_with fail
      refine (at_any c p W H LL (x : Int) (y : Int) wr (hc3.out.be hbr)).mono ?_
      rintro e w7 ⟨rfl, hb7⟩
      have hw7 := bl_step hwr hb7
      go_wp2_with fail
      refine (awake23_any w7).mono ?_
      rintro e w8 ⟨rfl, hb8⟩
      go_wp2_with fail
      go_ret
      exact ⟨rfl, bl_step hw7 hb8⟩
end Go.Proofs.YtjjdgbhplechbaaDoor.Cv
