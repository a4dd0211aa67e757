/- CanvasPlays, CanvasClips, walked. Printed by gen_cclips.py. -/
import Derived.Test.YtjjdgbhplechbaaDoorCvOp
set_option linter.unusedVariables false
set_option linter.unusedSimpArgs false
namespace Go.Proofs.YtjjdgbhplechbaaDoor.Cv
open Go.RowKit Go.Proofs.YtjjdgbhplechbaaDoor.Kit Go.Proofs.YtjjdgbhplechbaaDoor.Rect Go.Proofs.YtjjdgbhplechbaaDoor.Pix
def inB (P Q : Int) : Prop := (1 ≤ P ∧ P ≤ 48) ∧ (1 ≤ Q ∧ Q ≤ 48)
set_option maxRecDepth 100000 in
set_option maxHeartbeats 8000000 in
theorem rnew_bad (P Q : Int) (w : World) (h : ¬ inB P Q) : Calls Tryd.prog 23 #[.int .i64 P, .int .i64 Q] w fun e w' => e = .returned (.pointer none) ∧ Below w.heap.size w w' := by
  unfold inB at h
  by_cases nd1 : P < 1
  · have d1 : decide (P < 1) = true := dec_t nd1
    clear h
    go_enter Tryd.func23, Tryd.ntmps23
    go_wp2_with fail
    go_ret
    exact ⟨rfl, Below.refl _ _⟩
  have d1 : decide (P < 1) = false := dec_f nd1
  by_cases nd2 : 48 < P
  · have d2 : decide (48 < P) = true := dec_t nd2
    clear h
    go_enter Tryd.func23, Tryd.ntmps23
    go_wp2_with fail
    go_ret
    exact ⟨rfl, Below.refl _ _⟩
  have d2 : decide (48 < P) = false := dec_f nd2
  by_cases nd3 : Q < 1
  · have d3 : decide (Q < 1) = true := dec_t nd3
    clear h
    go_enter Tryd.func23, Tryd.ntmps23
    go_wp2_with fail
    go_ret
    exact ⟨rfl, Below.refl _ _⟩
  have d3 : decide (Q < 1) = false := dec_f nd3
  by_cases nd4 : 48 < Q
  · have d4 : decide (48 < Q) = true := dec_t nd4
    clear h
    go_enter Tryd.func23, Tryd.ntmps23
    go_wp2_with fail
    go_ret
    exact ⟨rfl, Below.refl _ _⟩
  have d4 : decide (48 < Q) = false := dec_f nd4
  exact absurd ⟨⟨by omega, by omega⟩, ⟨by omega, by omega⟩⟩ h
set_option maxRecDepth 100000 in
set_option maxHeartbeats 8000000 in
theorem new_bad (P Q : Int) (t : TypeId) (v : Value) (w : World) (hg : w.cell? ⟨0, 0, none⟩ = some (.iface t v)) (h : ¬ inB P Q) : Calls Tryd.prog 15 #[.int .i64 P, .int .i64 Q] w fun e w' => e = .returned (.tuple #[.pointer none, .iface t v]) ∧ Below w.heap.size w w' := by
  unfold inB at h
  have h0 := World.block_lt_of_cell? w _ hg
  have hS : ∀ w' : World, Below w.heap.size w w' → (Below w.heap.size w w' ∧ w'.cell? ⟨0, 0, none⟩ = some (.iface t v)) := fun w' hq => ⟨hq, (hq.cell h0).trans hg⟩
  have hS := Lib.hid hS
  clear hg h0
  by_cases nd1 : P < 1
  · have d1 : decide (P < 1) = true := dec_t nd1
    clear h
    go_enter Tryd.func15, Tryd.ntmps15
    go_wp2_with fail
    go_region_held3 (fun w' : World => Below w.heap.size w w' ∧ w'.cell? ⟨0, 0, none⟩ = some (.iface t v)) (exact hS.out _ (by first | exact Below.refl _ _ | exact bl_drew (Below.refl _ _))) (fail)
    all_goals go_wp2_with fail
    all_goals go_ret2
    all_goals exact ⟨rfl, by first | exact bl_drew (Below.refl _ _) | exact Below.refl _ _⟩
  have d1 : decide (P < 1) = false := dec_f nd1
  by_cases nd2 : 48 < P
  · have d2 : decide (48 < P) = true := dec_t nd2
    clear h
    go_enter Tryd.func15, Tryd.ntmps15
    go_wp2_with fail
    go_region_held3 (fun w' : World => Below w.heap.size w w' ∧ w'.cell? ⟨0, 0, none⟩ = some (.iface t v)) (exact hS.out _ (by first | exact Below.refl _ _ | exact bl_drew (Below.refl _ _))) (fail)
    all_goals go_wp2_with fail
    all_goals go_ret2
    all_goals exact ⟨rfl, by first | exact bl_drew (Below.refl _ _) | exact Below.refl _ _⟩
  have d2 : decide (48 < P) = false := dec_f nd2
  by_cases nd3 : Q < 1
  · have d3 : decide (Q < 1) = true := dec_t nd3
    clear h
    go_enter Tryd.func15, Tryd.ntmps15
    go_wp2_with fail
    go_region_held3 (fun w' : World => Below w.heap.size w w' ∧ w'.cell? ⟨0, 0, none⟩ = some (.iface t v)) (exact hS.out _ (by first | exact Below.refl _ _ | exact bl_drew (Below.refl _ _))) (fail)
    all_goals go_wp2_with fail
    all_goals go_ret2
    all_goals exact ⟨rfl, by first | exact bl_drew (Below.refl _ _) | exact Below.refl _ _⟩
  have d3 : decide (Q < 1) = false := dec_f nd3
  by_cases nd4 : 48 < Q
  · have d4 : decide (48 < Q) = true := dec_t nd4
    clear h
    go_enter Tryd.func15, Tryd.ntmps15
    go_wp2_with fail
    go_region_held3 (fun w' : World => Below w.heap.size w w' ∧ w'.cell? ⟨0, 0, none⟩ = some (.iface t v)) (exact hS.out _ (by first | exact Below.refl _ _ | exact bl_drew (Below.refl _ _))) (fail)
    all_goals go_wp2_with fail
    all_goals go_ret2
    all_goals exact ⟨rfl, by first | exact bl_drew (Below.refl _ _) | exact Below.refl _ _⟩
  have d4 : decide (48 < Q) = false := dec_f nd4
  exact absurd ⟨⟨by omega, by omega⟩, ⟨by omega, by omega⟩⟩ h
set_option maxRecDepth 100000 in
set_option maxHeartbeats 16000000 in
theorem cplays_law (a b : Int) (A : Option Addr) (lc : Nat) (l : List Op) (t : TypeId) (v : Value) (w : World) (hg : w.cell? ⟨0, 0, none⟩ = some (.iface t v)) (hl : RdO w w.heap.size A l) :
    Calls Tryd.prog 5 #[.int .i64 a, .int .i64 b, .slice A l.length lc] w fun e w' => e = .returned (.bool true) ∧ Below w.heap.size w w' := by
  by_cases hok : inB a b
  · obtain ⟨⟨a1, a2⟩, b1, b2⟩ := hok
    clear hg
    go_enter Tryd.func5, Tryd.ntmps5
    go_wp2_with fail
    refine (new_any' a b w a1 a2 b1 b2).mono ?_
    rintro e w2 ⟨c, p, W, H, rfl, rfl, rfl, hc, hc0, hp0, hb2⟩
    clear a1 a2 b1 b2
    go_wp2_with fail
    refine (rnew_any W H w2 hc.w1 hc.w2 hc.h1 hc.h2).mono ?_
    rintro e w3 ⟨d, q, rfl, hd, hd0, hq0, hb3⟩
    have hw3 := bl_step hb2 hb3
    have hc3 := Lib.hid (hc.be hb3)
    have hcl := hc.hd.lt
    have hpl := hc.px.lt
    have hcq : c ≠ q := by omega
    have hpq : p ≠ q := by omega
    have hdp : d ≠ p := by omega
    have hqw : w.heap.size ≤ q := by have := hb2.size; omega
    have hd := Lib.hid hd
    clear hc hb2 hb3 hcl hpl hd0 hq0
    go_wp2_with fail
    refine (size_any c p W H _ w3 hc3.out).mono ?_
    rintro e w4 ⟨rfl, hb4⟩
    have hw4 := bl_step hw3 hb4
    have hl4 := hl.be hw4
    have hs4 := hw4.size
    go_wp2_with fail
    refine (play_any c p d q W H w.heap.size _ A lc l w4 (hc3.out.be hb4) (hd.out.be hb4) hcq hpq hdp hp0 hqw hs4 hl4).mono ?_
    rintro e w5 ⟨rfl, hb5, -⟩
    go_wp2_with fail
    refine (awake_any w5).mono ?_
    rintro e w6 ⟨rfl, hb6⟩
    go_wp2_with fail
    go_ret
    exact ⟨rfl, bl_step (hw4.trans hb5) hb6⟩
  · have hok := Lib.hid hok
    clear hl
    go_enter Tryd.func5, Tryd.ntmps5
    go_wp2_with fail
    refine (new_bad a b t v w hg hok.out).mono ?_
    rintro e w2 ⟨rfl, hb2⟩
    go_wp2_with fail
    refine (rnew_bad a b w2 hok.out).mono ?_
    rintro e w3 ⟨rfl, hb3⟩
    have hw3 := bl_step hb2 hb3
    go_wp2_with fail
    refine (awake_any w3).mono ?_
    rintro e w6 ⟨rfl, hb6⟩
    go_wp2_with fail
    go_ret
    exact ⟨rfl, bl_step hw3 hb6⟩

def all50 : R := ⟨0, 0, 50, 50⟩
theorem inn_50 {x y : Nat} (hx : x < 48) (hy : y < 48) : inn [all50] (x : Int) (y : Int) = true := by
  simp only [inn, all50, List.any_cons, List.any_nil, Bool.or_false]
  rw [has_iff, inR_bound]
  unfold inR
  simp only
  omega
theorem h64_50 : ∀ r ∈ [all50], I64 r := by intro r hr; obtain rfl := List.mem_singleton.1 hr; unfold I64 all50; simp only; omega
theorem clip_at {W H : Nat} {cl : List R} {X Y Wd Hd : Int} {Ps L : List Int} {x y : Nat} (hW : W ≤ 48) (hH : H ≤ 48) (hL : L.length = W * H) (hx : x < W) (hy : y < H) :
    atP W H (drawO W H cl X Y Wd Hd Ps L) (x : Int) (y : Int) = if inn cl (x : Int) (y : Int) = true then atP W H (drawO W H [all50] X Y Wd Hd Ps L) (x : Int) (y : Int) else atP W H L (x : Int) (y : Int) := by
  unfold drawO
  split
  · rw [drawn_at hL hx hy, drawn_at hL hx hy, if_pos (inn_50 (Nat.lt_of_lt_of_le hx hW) (Nat.lt_of_lt_of_le hy hH))]
  · split <;> rfl
theorem clip_t {W H : Nat} {cl : List R} {X Y Wd Hd : Int} {Ps L : List Int} {x y : Nat} (hW : W ≤ 48) (hH : H ≤ 48) (hL : L.length = W * H) (hx : x < W) (hy : y < H) (hi : inn cl (x : Int) (y : Int) = true) :
    atP W H (drawO W H cl X Y Wd Hd Ps L) (x : Int) (y : Int) = atP W H (drawO W H [all50] X Y Wd Hd Ps L) (x : Int) (y : Int) := by rw [clip_at hW hH hL hx hy, if_pos hi]
theorem clip_f {W H : Nat} {cl : List R} {X Y Wd Hd : Int} {Ps L : List Int} {x y : Nat} (hW : W ≤ 48) (hH : H ≤ 48) (hL : L.length = W * H) (hx : x < W) (hy : y < H) (hi : inn cl (x : Int) (y : Int) = false) :
    atP W H (drawO W H cl X Y Wd Hd Ps L) (x : Int) (y : Int) = atP W H L (x : Int) (y : Int) := by rw [clip_at hW hH hL hx hy, if_neg (by rw [hi]; decide)]
theorem nne (x : Int) : (x != x) = false := by simp
set_option maxRecDepth 100000 in
set_option maxHeartbeats 32000000 in
theorem clips_law (a b : Int) (A : Option Addr) (lc : Nat) (l : List Op) (o : Op) (w : World) (hl : RdO w w.heap.size A l) (ho : OpOk w w.heap.size o) (hPn : o.P.length ≤ 9223372036854775807) (hCn : o.cl.length ≤ 9223372036854775807) :
    Calls Tryd.prog 6 #[.int .i64 a, .int .i64 b, .slice A l.length lc, .agg #[.int .i64 o.k, .int .i64 o.x, .int .i64 o.y, .int .i64 o.w, .int .i64 o.h, .int .u32 o.col, .slice o.PA o.P.length o.pc, .slice o.CA o.cl.length o.cc]] w fun e w' => e = .returned (.bool true) ∧ Below w.heap.size w w' := by
  go_enter Tryd.func6, Tryd.ntmps6
  go_wp2_with fail
  generalize hwv : World.alloc _ _ = w1
  have Bo : Bk w1 w.heap.size 50 #[.int .i64 o.k, .int .i64 o.x, .int .i64 o.y, .int .i64 o.w, .int .i64 o.h, .int .u32 o.col, .slice o.PA o.P.length o.pc, .slice o.CA o.cl.length o.cc] := hwv ▸ Bk.new _ _ _
  have hb1 : Below w.heap.size w w1 := hwv ▸ bl_alloc (Below.refl _ _) _
  obtain ⟨gb, hgb⟩ : ∃ gb, w.heap.size = gb := ⟨_, rfl⟩
  rw [hgb] at Bo ⊢
  have hgl := Bo.lt
  clear hwv
  refine (place_any a 20 w1 (by omega) (by omega)).mono ?_
  rintro e _ ⟨rfl, rfl⟩
  obtain ⟨P, hP⟩ : ∃ n, a % 20 = n := ⟨_, rfl⟩
  have lP : 0 ≤ P := by rw [← hP]; exact Int.emod_nonneg _ (by omega)
  have mP : P < 20 := by rw [← hP]; exact Int.emod_lt_of_pos _ (by omega)
  rw [hP]
  clear hP
  go_wp2_with fail
  refine (place_any b 20 w1 (by omega) (by omega)).mono ?_
  rintro e _ ⟨rfl, rfl⟩
  obtain ⟨Q, hQ⟩ : ∃ n, b % 20 = n := ⟨_, rfl⟩
  have lQ : 0 ≤ Q := by rw [← hQ]; exact Int.emod_nonneg _ (by omega)
  have mQ : Q < 20 := by rw [← hQ]; exact Int.emod_lt_of_pos _ (by omega)
  rw [hQ]
  clear hQ
  go_wp2_with fail
  refine (new_any' (1 + P) (1 + Q) w1 (by omega) (by omega) (by omega) (by omega)).mono ?_
  rintro e w2 ⟨c, p, W, H, hW, hH, rfl, hc, hc0, hp0, hb2⟩
  rw [hW, hH]
  clear hW hH lP mP lQ mQ
  go_wp2_with fail
  refine (rnew_any W H w2 hc.w1 hc.w2 hc.h1 hc.h2).mono ?_
  rintro e w3 ⟨d, q, rfl, hd, hd0, hq0, hb3⟩
  have h13 := bl_step hb2 hb3
  have hc3 := Lib.hid (hc.be hb3)
  have hcl := hc.hd.lt
  have hpl := hc.px.lt
  have hcq : c ≠ q := by omega
  have hpq : p ≠ q := by omega
  have hdp : d ≠ p := by omega
  have hq1 : w1.heap.size ≤ q := by have := hb2.size; omega
  have hd := Lib.hid hd
  have hs3 := h13.size
  have hw1s := hb1.size
  have hl3 : RdO w3 w1.heap.size A l := by
    have := (hl.be hb1).be (h13.mono hw1s)
    exact ⟨this.row.more hw1s, fun o ho => ⟨(this.each o ho).p.more hw1s, (this.each o ho).c.more hw1s, (this.each o ho).u32, (this.each o ho).col, (this.each o ho).i64⟩⟩
  clear hc hb2 hb3 hcl hpl hd0 hq0
  have hl3 := Lib.hid hl3
  go_wp2_with fail
  refine (play_any c p d q W H w1.heap.size _ A lc l w3 hc3.out hd.out hcq hpq hdp hp0 hq1 hs3 hl3.out).mono ?_
  rintro e w5 ⟨rfl, hb5, L, hc5⟩
  have h15 := h13.trans hb5
  have B5 := Bo.be h15
  obtain ⟨y0, y1, y2, y3, y4, y5, y6, y7⟩ := Bk.c8 B5
  have hc5 := Lib.hid hc5
  have hw5 : Below w.heap.size w w5 := bl_step hb1 h15
  clear hc3 hd hl3 hcq hpq hdp hq1 hb5 h13
  by_cases bp : 400 < o.P.length
  · have b1 : decide ((400 : Int) < (o.P.length : Int)) = true := dec_t (lt_cast bp)
    go_wp2_with fail
    refine (awake_any w5).mono ?_
    rintro e w6 ⟨rfl, hb6⟩
    go_wp2_with fail
    go_ret
    rw [← hgb]
    exact ⟨rfl, bl_step hw5 hb6⟩
  have b1 : decide ((400 : Int) < (o.P.length : Int)) = false := dec_f (nlt_cast bp)
  by_cases bc : 6 < o.cl.length
  · have b2 : decide ((6 : Int) < (o.cl.length : Int)) = true := dec_t (lt_cast bc)
    go_wp2_with fail
    refine (awake_any w5).mono ?_
    rintro e w6 ⟨rfl, hb6⟩
    go_wp2_with fail
    go_ret
    rw [← hgb]
    exact ⟨rfl, bl_step hw5 hb6⟩
  have b2 : decide ((6 : Int) < (o.cl.length : Int)) = false := dec_f (nlt_cast bc)
  have hnp : o.P.length ≤ 1000000 := by omega
  have hnc : o.cl.length ≤ 1000000 := by omega
  go_wp2_with fail
  refine (copy_any c p W H L w5 hc5.out).mono ?_
  rintro e w6 ⟨c1, p1, rfl, hc6, hc60, hp60, hb6⟩
  go_wp2_with fail
  refine (copy_any c p W H L w6 (hc5.out.be hb6)).mono ?_
  rintro e w7 ⟨c2, p2, rfl, hc7, hc70, hp70, hb7⟩
  have h57 := bl_step hb6 hb7
  have B7 := B5.be h57
  obtain ⟨z0, z1, z2, z3, z4, z5, z6, z7⟩ := Bk.c8 B7
  have hcl := hc5.out.hd.lt
  have hpl := hc5.out.px.lt
  have hc6l := hc6.hd.lt
  have hp6l := hc6.px.lt
  have hcp := hc5.out.ne
  have gbp : gb < p := by omega
  have n1 : c1 ≠ p := by omega
  have n2 : p1 ≠ p := by omega
  have n3 : c2 ≠ p := by have := hb6.size; omega
  have n4 : p2 ≠ p := by have := hb6.size; omega
  have n5 : c1 ≠ p2 := by omega
  have n6 : p1 ≠ p2 := by omega
  have n7 : c ≠ p2 := by have := hb6.size; omega
  have n8 : p ≠ p2 := fun e => n4 e.symm
  have n9 : gb ≠ p := by omega
  have n10 : gb ≠ p2 := by have := hb6.size; omega
  have hwp : w.heap.size ≤ p := by omega
  have hwp2 : w.heap.size ≤ p2 := by have := hb6.size; omega
  have hc7' := Lib.hid (hc5.out.be h57)
  have hcw7 := Lib.hid (hc6.be hb7)
  have hca7 := Lib.hid hc7
  have hw7 := bl_step hw5 h57
  have ho7 := ho.be hw7
  have hs7 := hw7.size
  clear y0 y1 y2 y3 y4 y5 y6 y7 hc6 hc7 hc5 hb6 hb7 hcl hpl hc6l hp6l hcp hc60 hp60 hc70 hp70 h57 hc0 hp0 hs3
  have ho := Lib.hid ho
  go_wp2_with fail
  refine (draw_all2 c p W H L o.x o.y o.w o.h o.PA o.P.length o.pc o.P o.CA o.cc o.cl w7 hc7'.out rfl (ho7.p.more hs7) ho7.u32 (Rds.off ho7.p hwp) (ho7.c.more hs7) ho7.i64 hnc).mono ?_
  rintro e w8 ⟨rfl, hs8, hc8⟩
  have B8 := hs8.bk B7 n9
  obtain ⟨x0, x1, x2, x3, x4, x5, x6, x7⟩ := Bk.c8 B8
  have hcw8 := Lib.hid (hcw7.out.sav hs8 n1 n2)
  have hca8 := Lib.hid (hca7.out.sav hs8 n3 n4)
  have hc8 := Lib.hid hc8
  have hw8 : Below w.heap.size w w8 := hs8.below hw7 hwp hs7
  clear z0 z1 z2 z3 z4 z5 z6 z7 hc7' hcw7 hca7 hs8 ho7
  go_wp2_with fail
  generalize hwv : World.alloc _ _ = w9
  have B9 : Bk w9 w8.heap.size 32 (rV all50) := hwv ▸ Bk.new _ _ _
  have hb9 : Below w8.heap.size w8 w9 := hwv ▸ bl_alloc (Below.refl _ _) _
  have hw9 := bl_step hw8 hb9
  have ho9 := ho.out.be hw9
  have hs9 := hw9.size
  clear hwv
  refine (draw_all2 c2 p2 W H L o.x o.y o.w o.h o.PA o.P.length o.pc o.P (some ⟨w8.heap.size, 0, none⟩) 1 [all50] w9 (hca8.out.be hb9) rfl (ho9.p.more hs9) ho9.u32 (Rds.off ho9.p hwp2) (one_rds B9) h64_50 (by simp)).mono ?_
  rintro e wA ⟨rfl, hsA, hcaA⟩
  have hwA : Below w.heap.size w wA := hsA.below hw9 hwp2 hs9
  have hcA := Lib.hid ((hc8.out.be hb9).sav hsA n7 n8)
  have hcwA := Lib.hid ((hcw8.out.be hb9).sav hsA n5 n6)
  have BA := hsA.bk (B8.be hb9) n10
  have hW2 := hcA.out.w2
  have hH2 := hcA.out.h2
  have hLn := hcwA.out.len
  obtain ⟨L1, hL1⟩ : ∃ L1, drawO W H o.cl o.x o.y o.w o.h o.P L = L1 := ⟨_, rfl⟩
  obtain ⟨L2, hL2⟩ : ∃ L2, drawO W H [all50] o.x o.y o.w o.h o.P L = L2 := ⟨_, rfl⟩
  have htt := Lib.hid (show ∀ x y : Nat, x < W → y < H → inn o.cl (x : Int) (y : Int) = true → atP W H L1 (x : Int) (y : Int) = atP W H L2 (x : Int) (y : Int) from fun x y hx hy hi => by rw [← hL1, ← hL2]; exact clip_t hW2 hH2 hLn hx hy hi)
  have hff := Lib.hid (show ∀ x y : Nat, x < W → y < H → inn o.cl (x : Int) (y : Int) = false → atP W H L1 (x : Int) (y : Int) = atP W H L (x : Int) (y : Int) from fun x y hx hy hi => by rw [← hL1]; exact clip_f hW2 hH2 hLn hx hy hi)
  rw [hL1] at hcA
  rw [hL2] at hcaA
  have hcaA := Lib.hid hcaA
  have hi64 := Lib.hid (ho.out.i64)
  have hocA := Lib.hid ((ho.out.c.be hwA))
  have hgA := BA.lt
  have hsA' := hwA.size
  clear hL1 hL2 hLn x0 x1 x2 x3 x4 x5 x6 x7 hcw8 hca8 hc8 hb9 hs9 ho9 B9 hsA hw9 hw8 hw7 hs7 ho B7 B8 B5 Bo hl hb1 h15 hw5 n1 n2 n3 n4 n5 n6 n7 n8 n9 n10 hwp hwp2 gbp hgl
  go_wp2_with fail
  go_loopw [16, 17, 18] (fun sy _ _ wr => ∃ y : Nat, y ≤ H ∧ sy = .int .i64 (y : Int) ∧ Below wA.heap.size wA wr) (fun sy _ _ _ => H - (intOf sy).toNat)
  case atStart => exact ⟨0, by omega, rfl, Below.refl _ _⟩
  case round =>
    obtain ⟨y, hy, rfl, hby⟩ := hrel
    by_cases hyH : y < H
    · have dy : decide ((y : Int) < (H : Int)) = true := dec_t (lt_cast hyH)
      have y48 : (y : Int) < 48 := lt_cast (Nat.lt_of_lt_of_le hyH hH2)
      have gy1 := g64 y48
      have gy2 := gw64 y48
      have hyH := Lib.hid hyH
      go_wp2_with fail
      go_loopw [17, 18] (fun sx _ wr => ∃ x : Nat, x ≤ W ∧ sx = .int .i64 (x : Int) ∧ Below wA.heap.size wA wr) (fun sx _ _ => W - (intOf sx).toNat)
      case atStart => exact ⟨0, by omega, rfl, hby⟩
      case round =>
        obtain ⟨x, hx, rfl, hbx⟩ := hrel
        by_cases hxW : x < W
        · have dx : decide ((x : Int) < (W : Int)) = true := dec_t (lt_cast hxW)
          have x48 : (x : Int) < 48 := lt_cast (Nat.lt_of_lt_of_le hxW hW2)
          have gx1 := g64 x48
          have gx2 := gw64 x48
          have hxW := Lib.hid hxW
          go_wp2_with fail
          refine (at_any c1 p1 W H L (x : Int) (y : Int) _ (hcwA.out.be hbx)).mono ?_
          rintro e wb ⟨rfl, hbb⟩
          have hxb := bl_step hbx hbb
          obtain ⟨-, -, -, -, -, -, -, z7⟩ := Bk.c8 (BA.be hxb)
          go_wp2_with fail
          refine (in_any o.CA o.cc o.cl (x : Int) (y : Int) wb hnc hi64.out (i48 x48) (i48 y48) ((hocA.out.be (hxb.mono hsA')).more (Nat.le_trans hsA' hxb.size))).mono ?_
          rintro e wc ⟨rfl, hbc⟩
          have hxc := bl_step hxb hbc
          cases hi : inn o.cl (x : Int) (y : Int) with
          | true =>
            have hq := htt.out x y hxW.out hyH.out hi
            have hq := Lib.hid hq
            clear hi
            go_wp2_with fail
            refine (at_any c2 p2 W H L2 (x : Int) (y : Int) _ (hcaA.out.be hxc)).mono ?_
            rintro e wd ⟨rfl, hbd⟩
            have hxd := bl_step hxc hbd
            go_wp2_with fail
            refine (at_any c p W H L1 (x : Int) (y : Int) _ (hcA.out.be hxd)).mono ?_
            rintro e we ⟨rfl, hbe⟩
            have hxe := bl_step hxd hbe
            rw [hq.out]
            have hnn := nne (atP W H L2 (x : Int) (y : Int))
            go_wp2_with fail
            go_roundw
            case rel => exact ⟨x + 1, hxW.out, by go_num, hxe⟩
            case measure => have h9 := sub_dec hxW.out; simpa [intOf] using h9
          | false =>
            have hq := hff.out x y hxW.out hyH.out hi
            have hq := Lib.hid hq
            clear hi
            go_wp2_with fail
            refine (at_any c p W H L1 (x : Int) (y : Int) _ (hcA.out.be hxc)).mono ?_
            rintro e we ⟨rfl, hbe⟩
            have hxe := bl_step hxc hbe
            rw [hq.out]
            have hnn := nne (atP W H L (x : Int) (y : Int))
            go_wp2_with fail
            go_roundw
            case rel => exact ⟨x + 1, hxW.out, by go_num, hxe⟩
            case measure => have h9 := sub_dec hxW.out; simpa [intOf] using h9
        · obtain rfl : x = W := Nat.le_antisymm hx (Nat.le_of_not_lt hxW)
          have dx : decide ((x : Int) < (x : Int)) = false := by simp
          go_wp2_with fail
          go_roundw
          case rel => exact ⟨y + 1, hyH.out, by go_num, hbx⟩
          case measure => have h9 := sub_dec hyH.out; simpa [intOf] using h9
    · obtain rfl : y = H := Nat.le_antisymm hy (Nat.le_of_not_lt hyH)
      have dy : decide ((y : Int) < (y : Int)) = false := by simp
      go_wp2_with fail
      refine (awake_any _).mono ?_
      rintro e wz ⟨rfl, hbz⟩
      go_wp2_with fail
      go_ret
      rw [← hgb]
      exact ⟨rfl, bl_step (bl_step hwA hby) hbz⟩
theorem bd64 {n : Int} (h : (Lit.int .i64 n).wf = true) : True := trivial
theorem CanvasClips_walk (a : Int) (wa : (Lit.int .i64 a).wf = true) (b : Int) (wb : (Lit.int .i64 b).wf = true) (A : Option Addr) (lc : Nat) (l : List Op) (o : Op) (w : World) (hl : l.length ≤ lc) (rd : RdO w w.heap.size A l) (mx : l.length ≤ 9223372036854775807) (ho : OpOk w w.heap.size o) (hPn : o.P.length ≤ 9223372036854775807) (hCn : o.cl.length ≤ 9223372036854775807) :
    Calls Tryd.prog 6 #[.int .i64 a, .int .i64 b, .slice A l.length lc, .agg #[.int .i64 o.k, .int .i64 o.x, .int .i64 o.y, .int .i64 o.w, .int .i64 o.h, .int .u32 o.col, .slice o.PA o.P.length o.pc, .slice o.CA o.cl.length o.cc]] w fun e w' => e = .returned (.bool true) ∧ Below w.heap.size w w' :=
  clips_law a b A lc l o w rd ho hPn hCn
theorem CanvasPlays_walk (a : Int) (wa : (Lit.int .i64 a).wf = true) (b : Int) (wb : (Lit.int .i64 b).wf = true) (A : Option Addr) (lc : Nat) (l : List Op) (w : World) (hl : l.length ≤ lc) (rd : RdO w w.heap.size A l) (mx : l.length ≤ 9223372036854775807) (hg : ∃ t v, w.cell? ⟨0, 0, none⟩ = some (.iface t v)) :
    Calls Tryd.prog 5 #[.int .i64 a, .int .i64 b, .slice A l.length lc] w fun e w' => e = .returned (.bool true) ∧ Below w.heap.size w w' := by
  obtain ⟨t, v, hg⟩ := hg
  exact cplays_law a b A lc l t v w hg rd
end Go.Proofs.YtjjdgbhplechbaaDoor.Cv
