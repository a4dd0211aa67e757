/- RepaintDirty, walked. Printed by gen_dirty.py. -/
import Derived.Test.YtjjdgbhplechbaaDoorRpQ
import Derived.Test.YtjjdgbhplechbaaDoorDm6
set_option linter.unusedVariables false
set_option linter.unusedSimpArgs false
namespace Go.Proofs.YtjjdgbhplechbaaDoor.Cv
open Go.RowKit Go.Proofs.YtjjdgbhplechbaaDoor.Kit Go.Proofs.YtjjdgbhplechbaaDoor.Rect Go.Proofs.YtjjdgbhplechbaaDoor.Pix
theorem cut30 (w : World) (A : Option Addr) (n c : Nat) (h : 30 ≤ c) : (Instr.slice 34 (.slice A n c) none (some (.int .i64 30)) none).run Tryd.prog w = .ok (.slice A 30 c) w := by
  obtain ⟨iU, hiU, zU0, zU1, zU2⟩ := info_parts infoU
  have hel : Tryd.prog.elem 34 = 22 := by simp [Program.elem, Tryd.underlying34]
  have hu : Tryd.prog.underlying 34 = some (.slice (Tryd.prog.elem 34)) := by rw [hel]; exact Tryd.underlying34
  have ha : (A.map fun x => x.add 0) = A := by cases A <;> simp [Addr.add]
  have hsb := run_sliceBound (P := Tryd.prog) w .i64 30 c BoundsCode.sliceAcap (by omega) (by omega)
  simp [Instr.slice, run_underlying hu, Instr.sliceBounds, hsb, sizeOf, typeInfo, hel, hiU, ha, h]
attribute [local go_sem high] cut30
theorem rds_take {w : World} {B : Nat} {A : Option Addr} {L : List Int} (h : Rds w B 1 A L.length (L.map (Value.int .u32))) (hL : 30 ≤ L.length) : Rds w B 1 A 30 ((L.take 30).map (Value.int .u32)) := by
  refine ⟨by simp; omega, fun _ => ?_⟩
  obtain ⟨ad, e, hb, hc⟩ := h.2 (by omega)
  refine ⟨ad, e, hb, fun j u hu => hc j u ?_⟩
  rw [List.map_take, List.getElem?_take] at hu
  split at hu
  · exact hu
  · cases hu
theorem own_cells {w : World} {base c : Nat} {A : Option Addr} {L : List Int} (h : w.ownsRow base 22 1 (.slice A 30 c) 30 (L.map (Value.int .u32))) :
    ∃ g cs, A = some ⟨g, 0, none⟩ ∧ base ≤ g ∧ Bk w g 22 cs ∧ ∀ (i : Nat) (v : Int), L[i]? = some v → cs[i]? = some (Value.int .u32 v) := by
  rcases h.2 with ⟨_, e⟩ | ⟨g, cap, cur, e, hb, hg, _, _, _, ht⟩
  · cases e
  · injection e with e1 e2 e3
    refine ⟨g, cur, e1, hb, hg, fun i v hv => ?_⟩
    have h1 : (L.map (Value.int .u32))[i]? = some (Value.int .u32 v) := by rw [List.getElem?_map, hv]; rfl
    rw [← ht, List.getElem?_take] at h1
    split at h1
    · simpa using h1
    · cases h1
/-- the points, the first k of them looked at -/
def qv (r : R) (P O : List Int) (k i : Nat) : Int := if i < k ∧ inn [r] ((i % 6 : Nat) : Int) ((i / 6 : Nat) : Int) = true then O.getD i 0 else P.getD i 0
def qL (r : R) (P O : List Int) : List Int := (List.range 30).map (qv r P O 30)
theorem qL_len (r : R) (P O : List Int) : (qL r P O).length = 30 := by simp [qL]
theorem qv_t {r : R} {P O : List Int} {k : Nat} (h : inn [r] ((k % 6 : Nat) : Int) ((k / 6 : Nat) : Int) = true) (i : Nat) : qv r P O (k + 1) i = if i = k then O.getD k 0 else qv r P O k i := by
  unfold qv
  by_cases hi : i = k
  · subst hi
    rw [if_pos ⟨by omega, h⟩, if_pos rfl]
  · rw [if_neg hi]
    have : (i < k + 1 ∧ inn [r] ((i % 6 : Nat) : Int) ((i / 6 : Nat) : Int) = true) ↔ (i < k ∧ inn [r] ((i % 6 : Nat) : Int) ((i / 6 : Nat) : Int) = true) := by
      constructor
      · intro q; exact ⟨by omega, q.2⟩
      · intro q; exact ⟨by omega, q.2⟩
    simp only [this]
theorem qv_f {r : R} {P O : List Int} {k : Nat} (h : inn [r] ((k % 6 : Nat) : Int) ((k / 6 : Nat) : Int) = false) (i : Nat) : qv r P O (k + 1) i = qv r P O k i := by
  unfold qv
  by_cases hi : i = k
  · subst hi
    rw [if_neg (by rw [h]; simp), if_neg (by rw [h]; simp)]
  · have : (i < k + 1 ∧ inn [r] ((i % 6 : Nat) : Int) ((i / 6 : Nat) : Int) = true) ↔ (i < k ∧ inn [r] ((i % 6 : Nat) : Int) ((i / 6 : Nat) : Int) = true) := by
      constructor
      · intro q; exact ⟨by omega, q.2⟩
      · intro q; exact ⟨by omega, q.2⟩
    simp only [this]
theorem qv_0 {r : R} {P O : List Int} (i : Nat) : qv r P O 0 i = P.getD i 0 := by unfold qv; rw [if_neg (by omega)]
theorem qL_out {r : R} {P O : List Int} (hP : P.length = 30) (i : Nat) (hi : i < 30) (h : inn [r] ((i % 6 : Nat) : Int) ((i / 6 : Nat) : Int) = false) : (qL r P O)[i]? = P[i]? := by
  unfold qL
  rw [List.getElem?_map, List.getElem?_range hi, Option.map_some]
  unfold qv
  rw [if_neg (by rw [h]; simp), List.getD_eq_getElem?_getD, List.getElem?_eq_getElem (by omega)]; rfl
theorem qv_bd {r : R} {P O : List Int} (hP : ∀ v ∈ P, 0 ≤ v ∧ v < 4294967296) (hO : ∀ v ∈ O, 0 ≤ v ∧ v < 4294967296) : ∀ v ∈ qL r P O, 0 ≤ v ∧ v < 4294967296 := by
  have hg : ∀ (L : List Int) (i : Nat), (∀ v ∈ L, 0 ≤ v ∧ v < 4294967296) → 0 ≤ L.getD i 0 ∧ L.getD i 0 < 4294967296 := by
    intro L i h
    rw [List.getD_eq_getElem?_getD]
    cases e : L[i]? with
    | none => simp
    | some v => exact h v (List.mem_of_getElem? e)
  intro v hv
  obtain ⟨i, _, rfl⟩ := List.mem_map.1 hv
  unfold qv
  split
  · exact hg O i hO
  · exact hg P i hP
/-- a row that is known point by point -/
theorem rds_pts {w : World} {g : Nat} {cs : Array Value} {L : List Int} (hb : Bk w g 22 cs) (hL : L.length = 30) (h : ∀ (i : Nat) (v : Int), L[i]? = some v → cs[i]? = some (Value.int .u32 v)) : Rds w w.heap.size 1 (some ⟨g, 0, none⟩) 30 (L.map (Value.int .u32)) := by
  refine ⟨by simp [hL], fun _ => ⟨⟨g, 0, none⟩, rfl, hb.lt, fun j u hu => ?_⟩⟩
  rw [List.getElem?_map] at hu
  obtain ⟨v, hv, rfl⟩ := Option.map_eq_some_iff.1 hu
  have : (⟨g, 0, none⟩ : Addr).add j = ⟨g, j, none⟩ := by unfold Addr.add; split <;> simp_all
  rw [this, hb.cell]
  exact h j v hv
theorem one_im {w : World} {g : Nat} {P : List Int} {A : Option Addr} {c : Nat} (hP : P.length = 30) (h : Bk w g 73 #[.int .i64 9, .int .i64 6, .int .i64 5, .slice A 30 c]) (hr : Rds w w.heap.size 1 A 30 (P.map (Value.int .u32))) (hu : ∀ v ∈ P, 0 ≤ v ∧ v < 4294967296) : RdI w w.heap.size (some ⟨g, 0, none⟩) (dirM P A c) := by
  refine ⟨?_, fun q hq => ?_, fun q hq => ?_⟩
  · have := Rds.block (n := 1) (sz := 4) h rfl h.lt
    simpa [dirM, imC, hP] using this
  · obtain rfl := List.mem_singleton.1 hq
    simp only [hP]
    exact hr
  · obtain rfl := List.mem_singleton.1 hq
    exact hu
theorem near_dir {X Y : Int} (hX : -100 ≤ X ∧ X ≤ 100) (hY : -100 ≤ Y ∧ Y ≤ 100) : ∀ v ∈ [dirV X Y], NearV v := by
  intro v hv
  obtain rfl := List.mem_singleton.1 hv
  unfold NearV Nr dirV
  simp only
  omega
theorem one_dt {w : World} {g ga : Nat} {r : R} (h : Bk w g 101 #[.int .i64 4, .slice (some ⟨ga, 0, none⟩) 1 1]) : Rds w w.heap.size 2 (some ⟨g, 0, none⟩) 1 ([(⟨4, [r], some ⟨ga, 0, none⟩, 1⟩ : Dt)].flatMap dtC) := by
  have := Rds.block (n := 1) (sz := 2) h rfl h.lt
  simpa [dtC] using this
theorem chg_dir {X Y : Int} {r : R} {A : Option Addr} {c : Nat} : chgV [dirV X Y] [dirV X Y] [⟨4, [r], A, c⟩] = chgV [dirV X Y] [dirV X Y] [⟨4, [r], none, 0⟩] := rfl
theorem ix_add (g k : Nat) : (⟨g, 0, none⟩ : Addr).add k = ⟨g, k, none⟩ := by unfold Addr.add; split <;> simp_all
theorem tmod6 {k a : Nat} (h : k % 6 = a) : Int.tmod (k : Int) 6 = (a : Int) := by rw [← h]; exact Int.tmod_eq_emod_of_nonneg (by omega) |>.trans (by simp)
theorem tdiv6 {k a : Nat} (h : k / 6 = a) : Int.tdiv (k : Int) 6 = (a : Int) := by rw [← h]; exact Int.tdiv_eq_ediv_of_nonneg (by omega) |>.trans (by simp)

set_option maxRecDepth 100000 in
set_option maxHeartbeats 32000000 in
theorem rdirty_law (back x y r0 r1 r2 r3 : Int) (A : Option Addr) (la : Nat) (px : List Int) (B : Option Addr) (lb : Nat) (ot : List Int) (w : World) (hback : 0 ≤ back ∧ back < 4294967296) (hr64 : I64 ⟨r0, r1, r2, r3⟩)
    (hla : px.length ≤ la) (hp : Rds w w.heap.size 1 A px.length (px.map (Value.int .u32))) (hpu : ∀ v ∈ px, 0 ≤ v ∧ v < 4294967296) (ho : Rds w w.heap.size 1 B ot.length (ot.map (Value.int .u32))) (hou : ∀ v ∈ ot, 0 ≤ v ∧ v < 4294967296) :
    Calls Tryd.prog 12 #[.int .u32 back, .int .i64 x, .int .i64 y, .agg #[.int .i64 r0, .int .i64 r1, .int .i64 r2, .int .i64 r3], .slice A px.length la, .slice B ot.length lb] w fun e w' => e = .returned (.bool true) ∧ Below w.heap.size w w' := by
  have hback := Lib.hid hback
  have hpu := Lib.hid hpu
  have hou := Lib.hid hou
  by_cases h1 : px.length < 30
  · have d1 : decide ((px.length : Int) < 30) = true := dec_t (lt_cast h1)
    go_enter Tryd.func12, Tryd.ntmps12
    go_wp2_with fail
    refine (awake24_any _).mono ?_
    rintro e wz ⟨rfl, hbz⟩
    go_wp2_with fail
    go_ret
    exact ⟨rfl, bl_step (bl_alloc (Below.refl _ _) _) hbz⟩
  have d1 : decide ((px.length : Int) < 30) = false := dec_f (nlt_cast h1)
  by_cases h2 : ot.length < 30
  · have d2 : decide ((ot.length : Int) < 30) = true := dec_t (lt_cast h2)
    go_enter Tryd.func12, Tryd.ntmps12
    go_wp2_with fail
    refine (awake24_any _).mono ?_
    rintro e wz ⟨rfl, hbz⟩
    go_wp2_with fail
    go_ret
    exact ⟨rfl, bl_step (bl_alloc (Below.refl _ _) _) hbz⟩
  have d2 : decide ((ot.length : Int) < 30) = false := dec_f (nlt_cast h2)
  have h30 : 30 ≤ la := by omega
  have hp30 := rds_take hp (by omega)
  obtain ⟨Pt, hPt⟩ : ∃ Pt, px.take 30 = Pt := ⟨_, rfl⟩
  have hPn : Pt.length = 30 := by rw [← hPt]; simp; omega
  have hPu := Lib.hid (show ∀ v ∈ Pt, 0 ≤ v ∧ v < 4294967296 from fun v hv => hpu.out v (List.mem_of_mem_take (by rw [hPt]; exact hv)))
  rw [hPt] at hp30
  have hOn : 30 ≤ ot.length := by omega
  have hr64 := Lib.hid hr64
  clear hPt hp hpu hla
  go_enter Tryd.func12, Tryd.ntmps12
  go_upto_region 3 with fail
  generalize hwv : World.alloc _ _ = w1
  have B1 : Bk w1 w.heap.size 32 #[.int .i64 r0, .int .i64 r1, .int .i64 r2, .int .i64 r3] := hwv ▸ Bk.new _ _ _
  have hb1 : Below w.heap.size w w1 := hwv ▸ bl_alloc (Below.refl _ _) _
  have hp1 := Lib.hid ((hp30.be hb1).more hb1.size)
  clear hwv d1 d2 h1 h2
  obtain ⟨gr, hgr⟩ : ∃ gr, w.heap.size = gr := ⟨_, rfl⟩
  rw [hgr] at B1 ⊢
  have hwd := words_any A la Pt
  rw [hPn] at hwd
  have hwd := Lib.hid (fun w h => hwd w (by omega) h)
  have hS : ∀ w' : World, Below w1.heap.size w1 w' → (Below w1.heap.size w1 w') := fun w' hb => hb
  have hS := Lib.hid hS
  refine wp_region_held_drew (S := fun w' : World => Below w1.heap.size w1 w') (by kernel_rfl) (by (try dsimp only); exact hS.out _ (by repeat (first | (with_reducible exact Below.refl _ _) | (with_reducible assumption) | (with_reducible apply bl_drew)))) (fun hHeld => ?_)
  refine wpAnyH_take (i := 0) (v := ?_) rfl (by kernel_rfl) (by kernel_rfl) (by kernel_rfl) (fun _ _ _ h => h) (Or.inl ⟨by rfl, ?_⟩) (by assumption) ?_
  rotate_left
  · (intro w hSw; (try dsimp only at hSw); go_simp; try (with_reducible rfl))
  (try simp only [Act.put, List.setIfInBounds_toArray, List.set_cons_zero, List.set_cons_succ])
  refine wpAnyH_take (i := 2) (v := ?_) rfl (by kernel_rfl) (by kernel_rfl) (by kernel_rfl) (fun _ _ _ h => h) (Or.inl ⟨by rfl, ?_⟩) (by assumption) ?_
  rotate_left
  · (intro w hSw; (try dsimp only at hSw); go_simp; try (with_reducible rfl))
  (try simp only [Act.put, List.setIfInBounds_toArray, List.set_cons_zero, List.set_cons_succ])
  refine wpAnyH_take (i := 1) (v := ?_) rfl (by kernel_rfl) (by kernel_rfl) (by kernel_rfl) (fun _ _ _ h => h) (Or.inl ⟨by rfl, ?_⟩) (by assumption) ?_
  rotate_left
  · (intro w hSw; (try dsimp only at hSw); go_simp; try (with_reducible rfl))
  (try simp only [Act.put, List.setIfInBounds_toArray, List.set_cons_zero, List.set_cons_succ])
  refine wpAnyH_take (i := 3) (v := ?_) rfl (by kernel_rfl) (by kernel_rfl) (by kernel_rfl) (fun _ _ _ h => h) (Or.inl ⟨by rfl, ?_⟩) (by assumption) ?_
  rotate_left
  · (intro w hSw; (try dsimp only at hSw); go_simp; try (with_reducible rfl))
  (try simp only [Act.put, List.setIfInBounds_toArray, List.set_cons_zero, List.set_cons_succ])
  refine wpAnyH_ready (rs := [4]) (by kernel_rfl) (by simp) ?_
  refine AllReadyH.cons (i := 4) rfl (fun K hK => ?_) AllReadyH.nil
  go_simp
  go_at_call 44
  have hbe : Below w1.heap.size w1 w1.drew := bl_drew (Below.refl _ _)
  refine (hwd.out _ ((hp1.out.be hbe).more hbe.size)).mono ?_
  rintro e w2 ⟨A2, c2q, rfl, own2, hb2⟩
  have hb2' : Below w1.heap.size w1 w2 := bl_step hbe hb2
  try (go_wp2_with fail)
  refine hK.out _ _ (by (try dsimp only); exact hS.out _ (by repeat (first | (with_reducible exact Below.refl _ _) | (with_reducible assumption) | (with_reducible apply bl_drew)))) (fun hHeld2 => ?_)
  clear hHeld
  rename _ => hHeld
  clear hK K
  (try simp only [Act.put, List.setIfInBounds_toArray, List.set_cons_zero, List.set_cons_succ])
  refine wpAnyH_ready (rs := [5]) (by kernel_rfl) (by simp) ?_
  refine AllReadyH.cons (i := 5) rfl (fun K hK => ?_) AllReadyH.nil
  go_simp
  refine hK.out _ _ hHeld (fun hHeld2 => ?_)
  clear hHeld2 hK K
  (try simp only [Act.put, List.setIfInBounds_toArray, List.set_cons_zero, List.set_cons_succ])
  refine wpAnyH_ready (rs := [6]) (by kernel_rfl) (by simp) ?_
  refine AllReadyH.cons (i := 6) rfl (fun K hK => ?_) AllReadyH.nil
  go_simp
  refine hK.out _ _ hHeld (fun hHeld2 => ?_)
  clear hHeld2 hK K
  (try simp only [Act.put, List.setIfInBounds_toArray, List.set_cons_zero, List.set_cons_succ])
  refine wpAnyH_done (by kernel_rfl) ?_ _
  clear hHeld hS
  go_wp2_with fail
  obtain ⟨gq, cs, rfl, hgq, Bq, hcs⟩ := own_cells own2
  have hw2 := bl_step hb1 hb2'
  have h1s := hb1.size
  have h1d : w1.drew.heap.size = w1.heap.size := rfl
  have hwq : w.heap.size ≤ gq := by omega
  have hrq : gr ≠ gq := by have := B1.lt; have hq : w1.drew.heap.size = w1.heap.size := rfl; omega
  have B2 := B1.be hb2'
  clear own2 hwd hp1 hb2 B1
  have hcs0 : ∀ i, i < 30 → cs[i]? = some (Value.int .u32 (qv ⟨r0, r1, r2, r3⟩ Pt ot 0 i)) := fun i hi => by
    rw [qv_0]
    refine hcs i _ ?_
    rw [List.getD_eq_getElem?_getD, List.getElem?_eq_getElem (by omega)]; rfl
  go_loopw [15] (fun s15 wr => ∃ k : Nat, k ≤ 30 ∧ s15 = .int .i64 (k : Int) ∧ Sav gq w2 wr ∧ ∃ cs, Bk wr gq 22 cs ∧ ∀ i, i < 30 → cs[i]? = some (Value.int .u32 (qv ⟨r0, r1, r2, r3⟩ Pt ot k i))) (fun s15 _ => 30 - (intOf s15).toNat)
  case atStart => exact ⟨0, by omega, rfl, Sav.refl _ _, cs, Bq, hcs0⟩
  case round =>
    obtain ⟨k, hk, rfl, hsr, ck, Bk', hck⟩ := hrel
    obtain ⟨wo, rfl⟩ : ∃ x : World, x = wr := ⟨_, rfl⟩
    have hwo := hsr.below hw2 hwq hw2.size
    have Br := hsr.bk B2 hrq
    by_cases hlt : k < 30
    · have dk : decide ((k : Int) < 30) = true := dec_t (lt_cast hlt)
      obtain ⟨ka, hka⟩ : ∃ a, k % 6 = a := ⟨_, rfl⟩
      obtain ⟨kb, hkb⟩ : ∃ a, k / 6 = a := ⟨_, rfl⟩
      have hm6 := tmod6 hka
      have hq6 := tdiv6 hkb
      have ka6 : ka < 6 := by omega
      have kb6 : kb < 6 := by omega
      obtain ⟨b0, b1, b2, b3⟩ := Br.c4
      have hqt := Lib.hid (fun h => qv_t (r := ⟨r0, r1, r2, r3⟩) (P := Pt) (O := ot) (k := k) h)
      have hqf := Lib.hid (fun h => qv_f (r := ⟨r0, r1, r2, r3⟩) (P := Pt) (O := ot) (k := k) h)
      rw [hka, hkb] at hqt hqf
      clear hka hkb
      have hltH := Lib.hid hlt
      go_wp2_with fail
      generalize hwv : World.alloc _ _ = w4
      have B4 : Bk w4 wo.heap.size 32 (rV ⟨r0, r1, r2, r3⟩) := hwv ▸ Bk.new _ _ _
      have hb4 : Below wo.heap.size wo w4 := hwv ▸ bl_alloc (Below.refl _ _) _
      clear hwv b0 b1 b2 b3
      refine (in_any (some ⟨wo.heap.size, 0, none⟩) 1 [⟨r0, r1, r2, r3⟩] (ka : Int) (kb : Int) w4 (by simp) (by intro r hr; obtain rfl := List.mem_singleton.1 hr; exact hr64.out) (by omega) (by omega) (one_rds B4)).mono ?_
      rintro e w5 ⟨rfl, hb5⟩
      have ho5 := bl_step hb4 hb5
      have hs5 := hsr.step ho5
      have B5 := Bk'.be ho5
      have hw5 := hs5.below hw2 hwq hw2.size
      cases hi : inn [⟨r0, r1, r2, r3⟩] (ka : Int) (kb : Int) with
      | false =>
        have hq := hqf.out hi
        have hq := Lib.hid hq
        have hi := Lib.hid hi
        go_wp2_with fail
        go_roundw
        case rel => exact ⟨k + 1, hltH.out, by go_num, hs5, ck, B5, fun i hi => by rw [hq.out]; exact hck i hi⟩
        case measure => have h9 := sub_dec hltH.out; simpa [intOf] using h9
      | true =>
        have hq := hqt.out hi
        have hq := Lib.hid hq
        have hi := Lib.hid hi
        obtain ⟨oa, rfl, hol, hoc⟩ := rd1 (ho.be hw5) (show k < ot.length by omega)
        obtain ⟨ov, hov⟩ : ∃ v, ot[k]'(by omega) = v := ⟨_, rfl⟩
        have hog : ot.getD k 0 = ov := by rw [List.getD_eq_getElem?_getD, List.getElem?_eq_getElem (by omega), ← hov]; rfl
        rw [hov] at hoc
        have hog := Lib.hid hog
        clear hov
        have i0 : (0 : Int) ≤ (k : Int) := cast_nn k
        have i1 : (k : Int) < 30 := by omega
        have i2 : (k : Int) < (ot.length : Int) := by omega
        have hqc := B5.cell k
        rw [hck k hltH.out] at hqc
        have hqf' := B5.fz
        have hql := B5.lt
        have hck := Lib.hid hck
        have hcz : k < ck.size := by
          have h7 := hck.out k hltH.out
          exact (Array.getElem?_eq_some_iff.1 h7).1
        have hcz := Lib.hid hcz
        go_wp2_with fail
        go_roundw
        case rel =>
          refine ⟨k + 1, hltH.out, by go_num, hs5.st k _, _, B5.st k _, fun i hi => ?_⟩
          rw [hq.out]
          by_cases hik : i = k
          · subst hik
            rw [if_pos rfl, hog.out, Array.getElem?_setIfInBounds, if_pos rfl, if_pos hcz.out]
          · rw [if_neg hik, Array.getElem?_setIfInBounds, if_neg (fun e => hik e.symm)]
            exact hck.out i hi
        case measure => have h9 := sub_dec hltH.out; simpa [intOf] using h9
    · obtain rfl : k = 30 := by omega
      have hQL : ∀ (i : Nat) (v : Int), (qL ⟨r0, r1, r2, r3⟩ Pt ot)[i]? = some v → ck[i]? = some (Value.int .u32 v) := fun i v hv => by
        have hi : i < 30 := by
          have := (List.getElem?_eq_some_iff.1 hv).1
          rw [qL_len] at this
          exact this
        unfold qL at hv
        rw [List.getElem?_map, List.getElem?_range hi, Option.map_some] at hv
        injection hv with hv
        rw [hck i hi, hv]
      have hQout := Lib.hid (fun i hi h => qL_out (r := ⟨r0, r1, r2, r3⟩) (P := Pt) (O := ot) hPn i hi h)
      have hQu := Lib.hid (qv_bd (r := ⟨r0, r1, r2, r3⟩) hPu.out hou.out)
      have hQn := qL_len ⟨r0, r1, r2, r3⟩ Pt ot
      obtain ⟨Q, hQ⟩ : ∃ Q, qL ⟨r0, r1, r2, r3⟩ Pt ot = Q := ⟨_, rfl⟩
      rw [hQ] at hQL hQout hQu hQn
      have hQL := Lib.hid hQL
      have hp30 := Lib.hid hp30
      clear hQ hck hcs hcs0 Bq hsr
      go_wp2_with fail
      refine (place_any x 20 wo (by omega) (by omega)).mono ?_
      rintro e _ ⟨rfl, rfl⟩
      obtain ⟨X, hX⟩ : ∃ n, x % 20 = n := ⟨_, rfl⟩
      have lX : 0 ≤ X := by rw [← hX]; exact Int.emod_nonneg _ (by omega)
      have mX : X < 20 := by rw [← hX]; exact Int.emod_lt_of_pos _ (by omega)
      rw [hX]
      clear hX
      go_wp2_with fail
      refine (place_any y 16 wo (by omega) (by omega)).mono ?_
      rintro e _ ⟨rfl, rfl⟩
      obtain ⟨Y, hY⟩ : ∃ n, y % 16 = n := ⟨_, rfl⟩
      have lY : 0 ≤ Y := by rw [← hY]; exact Int.emod_nonneg _ (by omega)
      have mY : Y < 16 := by rw [← hY]; exact Int.emod_lt_of_pos _ (by omega)
      rw [hY]
      clear hY
      go_wp2_with fail
      generalize hwv : World.alloc _ _ = w4
      have Bv : Bk w4 wo.heap.size 60 #[.int .i64 (dirV (X - 8) (Y - 6)).s, .int .i64 (dirV (X - 8) (Y - 6)).b, .int .i64 (dirV (X - 8) (Y - 6)).x, .int .i64 (dirV (X - 8) (Y - 6)).y, .int .i64 (dirV (X - 8) (Y - 6)).w, .int .i64 (dirV (X - 8) (Y - 6)).h] := hwv ▸ Bk.new _ _ _
      have hb4 : Below wo.heap.size wo w4 := hwv ▸ bl_alloc (Below.refl _ _) _
      have hX2 : -100 ≤ X - 8 ∧ X - 8 ≤ 100 := by omega
      have hY2 : -100 ≤ Y - 6 ∧ Y - 6 ≤ 100 := by omega
      obtain ⟨X8, hX8⟩ : ∃ n, X - 8 = n := ⟨_, rfl⟩
      obtain ⟨Y6, hY6⟩ : ∃ n, Y - 6 = n := ⟨_, rfl⟩
      rw [hX8] at Bv hX2
      rw [hY6] at Bv hY2
      have hnv := Lib.hid (near_dir hX2 hY2)
      have hX2 := Lib.hid hX2
      have hY2 := Lib.hid hY2
      clear hwv lX mX lY mY hX8 hY6
      have hw4 := bl_step hwo hb4
      have Bq4 := Bk'.be hb4
      have Br4 := Br.be hb4
      obtain ⟨gv, hgv⟩ : ∃ gv, wo.heap.size = gv := ⟨_, rfl⟩
      rw [hgv] at Bv ⊢
      have hgvq : gv ≠ gq := by have := Bk'.lt; omega
      have hwv' : w.heap.size ≤ gv := by have := hwo.size; omega
      clear hb4 hgv Bk' Br
      refine (new_any 11 8 w4 (by omega) (by omega) (by omega) (by omega)).mono ?_
      rintro e w5 ⟨c, p, rfl, hc, hc0, hp0, hb5⟩
      go_wp2_with fail
      generalize hwv : World.alloc _ _ = w6
      have Bi : Bk w6 w5.heap.size 73 #[.int .i64 9, .int .i64 6, .int .i64 5, .slice A 30 la] := hwv ▸ Bk.new _ _ _
      have hb6 : Below w5.heap.size w5 w6 := hwv ▸ bl_alloc (Below.refl _ _) _
      clear hwv
      have h46 := bl_step hb5 hb6
      have hw6 := bl_step hw4 h46
      have hcl := hc.hd.lt
      have hpl := hc.px.lt
      have hcn := hc.ne
      have hqp : gq ≠ p := by have := Bq4.lt; omega
      have hrp : gr ≠ p := by have := Br4.lt; omega
      have hvp : gv ≠ p := by have := Bv.lt; omega
      have hip : w5.heap.size ≠ p := by omega
      have hwp : w.heap.size ≤ p := by have := hw4.size; omega
      have Bv6 := Bv.be h46
      have Bq6 := Bq4.be h46
      have Br6 := Br4.be h46
      have hM6 := one_im hPn Bi ((hp30.out.be hw6).more hw6.size) hPu.out
      have hO6 : Off p (some ⟨w5.heap.size, 0, none⟩) (dirM Pt A la) := ⟨fun ad e => by injection e with e; subst e; exact hip, fun g hg ad e => by
        obtain rfl := List.mem_singleton.1 hg
        exact Rds.off hp30.out hwp (by omega) ad e⟩
      have hc6 := hc.be hb6
      have hL0 : (List.replicate (11 * 8) (0 : Int)).length = 11 * 8 := by simp
      refine (all_any c p 11 8 _ back (some ⟨gv, 0, none⟩) 1 [dirV X8 Y6] (some ⟨w5.heap.size, 0, none⟩) 1 (dirM Pt A la) w6 hc6 hback.out (one_vw Bv6) (fun _ ad e => by injection e with e; subst e; exact hvp) (by simp) hM6 hO6 (by simp [dirM])).mono ?_
      rintro e w7 ⟨rfl, hs7, hc7⟩
      have hw7 := hs7.below hw6 hwp hw6.size
      have Bv7 := hs7.bk Bv6 hvp
      have Bq7 := hs7.bk Bq6 hqp
      have Br7 := hs7.bk Br6 hrp
      have hEq := Lib.hid (fun ca cb (B2 : Option Addr) => dirty_eq (back := back) (A := A) (ca := ca) (B := B2) (cb := cb) (P := Pt) (Q := Q) (r := ⟨r0, r1, r2, r3⟩) (X := X8) (Y := Y6) (show 0 < 11 by omega) (show 11 ≤ 48 by omega) (show 8 ≤ 48 by omega) hL0 hX2.out hY2.out hPn hQn (fun i hi h => hQout.out i hi h))
      obtain ⟨L, hL⟩ : ∃ L, allL 11 8 back [dirV X8 Y6] (dirM Pt A la) (List.replicate (11 * 8) 0) = L := ⟨_, rfl⟩
      have hEq2 := Lib.hid (fun cb (B2 : Option Addr) => hEq.out la cb B2)
      rw [hL] at hc7 hEq2
      have hc7 := Lib.hid hc7
      clear hL hEq hs7 hc6 hO6 hM6 Bv6 Bq6 Br6 hc hc0 hp0 hb5 hb6 h46 Bi Bv Bq4 Br4 hL0 hcl hpl hip hw6 hw4
      go_wp2_with fail
      refine (copy_any c p 11 8 L w7 hc7.out).mono ?_
      rintro e w8 ⟨c2, p2, rfl, hca, hca0, hp20, hb8⟩
      go_wp2_with fail
      generalize hwv : World.alloc _ _ = w9
      have Bn : Bk w9 w8.heap.size 73 #[.int .i64 9, .int .i64 6, .int .i64 5, .slice (some ⟨gq, 0, none⟩) 30 c2q] := hwv ▸ Bk.new _ _ _
      have hb9 : Below w8.heap.size w8 w9 := hwv ▸ bl_alloc (Below.refl _ _) _
      clear hwv
      have h79 := bl_step hb8 hb9
      have hw9 := bl_step hw7 h79
      have Bv9 := Bv7.be h79
      have Bq9 := Bq7.be h79
      have Br9 := Br7.be h79
      have hc9 := Lib.hid (hc7.out.be h79)
      have hca9 := Lib.hid (hca.be hb9)
      have hpl := hc7.out.px.lt
      have hcl := hc7.out.hd.lt
      have hcal := hca.hd.lt
      have hp2l := hca.px.lt
      have hQ9 := rds_pts Bq9 hQn hQL.out
      have hM9 := Lib.hid (one_im hQn Bn hQ9 hQu.out)
      have ip : w8.heap.size ≠ p := by have := hb8.size; omega
      have ip2 : w8.heap.size ≠ p2 := by omega
      have qp2 : gq ≠ p2 := by have := Bq7.lt; omega
      have rp2 : gr ≠ p2 := by have := Br7.lt; omega
      have vp2 : gv ≠ p2 := by have := Bv7.lt; omega
      have pp2 : p ≠ p2 := by omega
      have cp2 : c ≠ p2 := by omega
      have c2p : c2 ≠ p := by omega
      have p2p : p2 ≠ p := by omega
      have hwp2 : w.heap.size ≤ p2 := by omega
      have hO9 : Off p2 (some ⟨w8.heap.size, 0, none⟩) (dirM Q (some ⟨gq, 0, none⟩) c2q) := ⟨fun ad e => by injection e with e; subst e; exact ip2, fun g hg ad e => by
        obtain rfl := List.mem_singleton.1 hg
        have e' : (⟨gq, 0, none⟩ : Addr) = ad := by simpa using e
        subst e'
        exact qp2⟩
      clear hca hb8 hb9 h79 hpl hcl hcal hp2l hca0 hp20 Bv7 Bq7 Br7
      go_wp2_with fail
      refine (all_any c2 p2 11 8 L back (some ⟨gv, 0, none⟩) 1 [dirV X8 Y6] (some ⟨w8.heap.size, 0, none⟩) 1 (dirM Q (some ⟨gq, 0, none⟩) c2q) w9 hca9.out hback.out (one_vw Bv9) (fun _ ad e => by injection e with e; subst e; exact vp2) (by simp) hM9.out hO9 (by simp [dirM])).mono ?_
      rintro e wA ⟨rfl, hsA, hcaA⟩
      have hwA := hsA.below hw9 hwp2 hw9.size
      have BvA := hsA.bk Bv9 vp2
      have BqA := hsA.bk Bq9 qp2
      have BrA := hsA.bk Br9 rp2
      have BnA := hsA.bk Bn ip2
      have hcA := Lib.hid (hc9.out.sav hsA cp2 pp2)
      have hcaA := Lib.hid hcaA
      clear hsA hc9 hca9 hM9 hO9 hQ9 Bv9 Bq9 Br9 Bn hw9 hw7 hc7
      obtain ⟨gn, hgn⟩ : ∃ gn, w8.heap.size = gn := ⟨_, rfl⟩
      rw [hgn] at BnA ip ⊢
      clear hgn ip2 qp2 rp2 vp2 cp2 pp2
      obtain ⟨b0, b1, b2, b3⟩ := BrA.c4
      have hrl := BrA.lt
      go_wp2_with fail
      generalize hwv : World.alloc _ _ = wB
      have BrB : Bk wB wA.heap.size 32 (rV ⟨r0, r1, r2, r3⟩) := hwv ▸ (Bk.new _ _ _).al _
      have BdB : Bk wB (wA.heap.size + 1) 101 #[.int .i64 4, .slice (some ⟨wA.heap.size, 0, none⟩) 1 1] := hwv ▸ Bk.new' _ _ _ (by simp)
      have hbB : Below wA.heap.size wA wB := hwv ▸ bl_alloc (bl_alloc (Below.refl _ _) _) _
      have hwB := bl_step hwA hbB
      clear hwv b0 b1 b2 b3
      have hch := changed_any (some ⟨gv, 0, none⟩) 1 [dirV X8 Y6] (some ⟨gv, 0, none⟩) 1 [dirV X8 Y6] (some ⟨wA.heap.size + 1, 0, none⟩) 1 [⟨4, [⟨r0, r1, r2, r3⟩], some ⟨wA.heap.size, 0, none⟩, 1⟩] wB hnv.out hnv.out (one_vw (BvA.be hbB)) (one_vw (BvA.be hbB)) (one_dt BdB)
        (by intro d hd; obtain rfl := List.mem_singleton.1 hd; exact ⟨one_rds BrB, by intro r hr; obtain rfl := List.mem_singleton.1 hr; exact hr64.out, by simp⟩) (by simp) (by simp) (by simp)
      rw [chg_dir] at hch
      refine hch.mono ?_
      rintro e wC ⟨Ac, cc, rfl, hcc, hOC, hbC⟩
      have hAC := bl_step hbB hbC
      have hwC := bl_step hwA hAC
      have hpA := hcA.out.px.lt
      have hkp : 0 < (chgV [dirV X8 Y6] [dirV X8 Y6] [⟨4, [⟨r0, r1, r2, r3⟩], none, 0⟩]).length → ∀ ad, Ac = some ad → ad.block ≠ p := fun _ ad e => by have := hOC.2 ad e; have := hbB.size; omega
      have hMC := one_im hQn (BnA.be hAC) (rds_pts (BqA.be hAC) hQn hQL.out) hQu.out
      have hOw : OffW p (some ⟨gn, 0, none⟩) (dirM Q (some ⟨gq, 0, none⟩) c2q) := ⟨fun _ ad e => by injection e with e; subst e; exact ip, fun g hg _ ad e => by
        obtain rfl := List.mem_singleton.1 hg
        have e' : (⟨gq, 0, none⟩ : Addr) = ad := by simpa using e
        subst e'
        exact hqp⟩
      have hchk : ∀ r ∈ chgV [dirV X8 Y6] [dirV X8 Y6] [⟨4, [⟨r0, r1, r2, r3⟩], none, 0⟩], I64 r := rg_i64 (Reg.rg_flat _)
      have hcln : (chgV [dirV X8 Y6] [dirV X8 Y6] [⟨4, [⟨r0, r1, r2, r3⟩], none, 0⟩]).length ≤ 1000000 := by have := Reg.len_flat (seqV [dirV X8 Y6] [dirV X8 Y6] [⟨4, [⟨r0, r1, r2, r3⟩], none, 0⟩] (max [dirV X8 Y6].length [dirV X8 Y6].length)); unfold chgV; omega
      obtain ⟨CL, hCL⟩ : ∃ CL, chgV [dirV X8 Y6] [dirV X8 Y6] [⟨4, [⟨r0, r1, r2, r3⟩], none, 0⟩] = CL := ⟨_, rfl⟩
      have hEq3 := hEq2.out c2q (some ⟨gq, 0, none⟩)
      rw [hCL] at hOC hkp hchk hcln hcc hEq3 ⊢
      have hchk := Lib.hid hchk
      have hkp := Lib.hid hkp
      have hOw := Lib.hid hOw
      have hMC := Lib.hid hMC
      have hEq3 := Lib.hid hEq3
      have hcC := Lib.hid (hcA.out.be hAC)
      have hcaC := Lib.hid (hcaA.out.be hAC)
      have BvC := BvA.be hAC
      clear hCL hch hEq2 hbB hbC hcA hcaA BvA BqA BrA BnA BrB BdB hwB hrl hcc
      go_wp2_with fail
      refine (part_any c p 11 8 L back (some ⟨gv, 0, none⟩) 1 [dirV X8 Y6] (some ⟨gn, 0, none⟩) 1 (dirM Q (some ⟨gq, 0, none⟩) c2q) Ac cc CL wC hcC.out hback.out (one_vw BvC) (fun _ ad e => by injection e with e; subst e; exact hvp) (by simp) hMC.out hOw.out (by simp [dirM]) hOC.1 hkp.out hchk.out hcln).mono ?_
      rintro e wD ⟨rfl, hsD, hcD⟩
      have hwD := hsD.below hwC hwp hwC.size
      have hcaD := hcaC.out.sav hsD c2p p2p
      rw [hEq3.out] at hcD
      obtain ⟨LL, hLL⟩ : ∃ LL, allL 11 8 back [dirV X8 Y6] (dirM Q (some ⟨gq, 0, none⟩) c2q) L = LL := ⟨_, rfl⟩
      rw [hLL] at hcD hcaD
      have hcD := Lib.hid hcD
      have hcaD := Lib.hid hcaD
      clear hLL hEq3 hsD hcC hcaC hMC hOw hkp hchk hOC BvC
      go_wp2_with fail
      refine (pixels_any c p 11 8 LL wD hcD.out).mono ?_
      rintro e wE ⟨q1, rfl, Bq1, hq1, hbE⟩
      go_wp2_with fail
      refine (pixels_any c2 p2 11 8 LL wE (hcaD.out.be hbE)).mono ?_
      rintro e wF ⟨q2, rfl, Bq2, hq2, hbF⟩
      have hwF := bl_step (bl_step hwD hbE) hbF
      have hsame := Lib.hid (same_wn (some ⟨q1, 0, none⟩) (some ⟨q2, 0, none⟩) (11 * 8) LL wF hcD.out.len (by omega) (px_rds (Bq1.be hbF) hcD.out.len) (px_rds Bq2 hcD.out.len))
      clear Bq1 Bq2
      go_wp2_with fail
      refine hsame.out.mono ?_
      rintro e wG ⟨rfl, hbG⟩
      go_wp2_with fail
      refine (awake24_any wG).mono ?_
      rintro e wH ⟨rfl, hbH⟩
      go_wp2_with fail
      go_ret
      exact ⟨rfl, bl_step (bl_step hwF hbG) hbH⟩
theorem RepaintDirty_walk (back : Int) (wk : (Lit.int .u32 back).wf = true) (x : Int) (wx : (Lit.int .i64 x).wf = true) (y : Int) (wy : (Lit.int .i64 y).wf = true) (r0 : Int) (v0 : (Lit.int .i64 r0).wf = true) (r1 : Int) (v1 : (Lit.int .i64 r1).wf = true) (r2 : Int) (v2 : (Lit.int .i64 r2).wf = true) (r3 : Int) (v3 : (Lit.int .i64 r3).wf = true)
    (A : Option Addr) (la : Nat) (px : List Int) (B : Option Addr) (lb : Nat) (ot : List Int) (w : World) (hla : px.length ≤ la) (hp : Rds w w.heap.size 1 A px.length (px.map (Value.int .u32))) (mx1 : (∀ v ∈ px, 0 ≤ v ∧ v < 4294967296) ∧ px.length ≤ 9223372036854775807) (hlb : ot.length ≤ lb) (ho : Rds w w.heap.size 1 B ot.length (ot.map (Value.int .u32))) (mx2 : (∀ v ∈ ot, 0 ≤ v ∧ v < 4294967296) ∧ ot.length ≤ 9223372036854775807) :
    Calls Tryd.prog 12 #[.int .u32 back, .int .i64 x, .int .i64 y, .agg #[.int .i64 r0, .int .i64 r1, .int .i64 r2, .int .i64 r3], .slice A px.length la, .slice B ot.length lb] w fun e w' => e = .returned (.bool true) ∧ Below w.heap.size w w' :=
  rdirty_law back x y r0 r1 r2 r3 A la px B lb ot w (by have := bounds_u32 wk; omega) (by have := bounds_i64 v0; have := bounds_i64 v1; have := bounds_i64 v2; have := bounds_i64 v3; unfold I64; simp only; omega) hla hp mx1.1 ho mx2.1
end Go.Proofs.YtjjdgbhplechbaaDoor.Cv
