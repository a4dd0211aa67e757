/- Images: a copy of all. Printed by gen_images.py. -/
import Derived.Test.YtjjdgbhplechbaaDoorCvW
set_option linter.unusedVariables false
set_option linter.unusedSimpArgs false
namespace Go.Proofs.YtjjdgbhplechbaaDoor.Cv
open Go.RowKit Go.Proofs.YtjjdgbhplechbaaDoor.Kit
theorem own_two {w : World} {b1 b2 : Nat} {e1 e2 : TypeId} {s1 s2 n1 n2 : Nat} {v1 v2 : Value} {x1 x2 : List Value} (h1 : w.ownsRow b1 e1 s1 v1 n1 x1) (h2 : w.ownsRow b2 e2 s2 v2 n2 x2) (hne : e1 ≠ e2) :
    v1.ownBlock = none ∨ v1.ownBlock ≠ v2.ownBlock := by
  rcases h1.2 with ⟨rfl, _⟩ | ⟨g, cap, cur, rfl, _, hh, _⟩
  · left; simp [Value.ownBlock]
  · right
    rcases h2.2 with ⟨rfl, _⟩ | ⟨g', cap', cur', rfl, _, hh', _⟩
    · simp [Value.ownBlock]
    · intro he
      have hg : g = g' := by simpa [Value.ownBlock] using he
      subst hg
      rw [hh] at hh'
      injection hh' with hh'
      injection hh' with _ hh'
      exact hne hh'
theorem own_lo {w : World} {base base' : Nat} {e : TypeId} {sz : Nat} {v : Value} {n : Nat} {xs : List Value} (h : w.ownsRow base e sz v n xs) (hb : base' ≤ base) : w.ownsRow base' e sz v n xs := by
  refine ⟨h.1, ?_⟩
  rcases h.2 with h2 | ⟨g, cap, cur, h1, h2, h3⟩
  · exact .inl h2
  · exact .inr ⟨g, cap, cur, h1, by omega, h3⟩
theorem app_row {P : Program} {o : Oper} {a : Act} {w : World} {K : Act → World → Prop} {Q : Exit → Act → World → Prop} (s x : Operand) (t : TypeId) (d : Option Nat)
    (ho : o.op = .call { callee := .builtin .append, args := #[s, x], argTypes := #[t, t] }) (hd : o.dst = d)
    (base : Nat) (e : TypeId) (i : TypeInfo) (z : Value) (size bytes : Nat) (ht : P.underlying t = some (.slice e)) (hi : P.info? e = some i) (hz : i.zero = some z)
    (hsize : i.size = size) (hby : i.bytes = bytes) (hzs : z.cells.size = size) (hsz : 0 < size)
    (v : Value) (n : Nat) (xs : List Value) (hs : a.eval s = v) (hown : w.ownsRow base e size v n xs)
    (B : Nat) (A : Option Addr) (m c : Nat) (news : List Value) (hx : a.eval x = .slice A m c) (hr : Rds w B size A m news) (h1 : ∀ u ∈ news, u.oneCell' = true)
    (h63 : n + m ≤ maxLen) (hbytes : (n + m) * bytes ≤ 140737488355328) (hbase : base ≤ w.heap.size)
    (h : ∀ A' c' w', w'.ownsRow base e size (.slice A' (n + m) c') (n + m) (xs ++ news) → w.grownBy w' v.ownBlock → K (a.put d (.slice A' (n + m) c')) w') : o.wp P a w K Q := by
  subst hd
  refine wp_app w s x t ho base e i z size bytes ht hi hz hsize hby hzs hsz v n xs hs hown B A m c news hx hr h1 h63 hbytes hbase ?_
  intro v' w' h2 h3 h4
  obtain ⟨A', c', rfl, _⟩ := own_form h2
  exact h A' c' w' h2 h3
theorem infoG : (Tryd.prog.info? 73).map (fun i => (i.zero, i.size, i.bytes)) = some (some (.agg #[.int .i64 0, .int .i64 0, .int .i64 0, .slice none 0 0]), 4, 48) := by kernel_rfl
/-- an image without its place -/
def pl (g : Im) : Int × Int × Int × List Int := (g.b, g.w, g.h, g.P)
def okI (l : List Im) : Bool := decide (l.length ≤ 8) && l.all fun g => decide (g.P.length ≤ 400)
/-- each image's points are a row of the call's own -/
def OwnI (w : World) (B : Nat) (l : List Im) : Prop := ∀ g ∈ l, w.ownsRow B 22 1 (.slice g.A g.P.length g.c) g.P.length (g.P.map (Value.int .u32))
theorem OwnI.be {w w' : World} {B : Nat} {l : List Im} (h : OwnI w B l) (hb : Below w.heap.size w w') : OwnI w' B l := fun g hg => own_be (h g hg) hb
theorem imC_one (l : List Im) : ∀ u ∈ l.flatMap imC, u.oneCell' = true := by
  intro u hu
  obtain ⟨a, _, ha⟩ := List.mem_flatMap.1 hu
  simp only [imC, List.mem_cons, List.not_mem_nil, or_false] at ha
  rcases ha with rfl | rfl | rfl | rfl <;> rfl
theorem bad_all {l : List Im} {k : Nat} (hk : k < l.length) (h : 400 < l[k].P.length) : okI l = false := by
  unfold okI
  rw [Bool.and_eq_false_iff]
  right
  rw [List.all_eq_false]
  exact ⟨l[k], List.getElem_mem hk, by simp; omega⟩
theorem bad_len {l : List Im} (h : 8 < l.length) : okI l = false := by
  unfold okI
  rw [Bool.and_eq_false_iff]
  left
  simp
  omega
set_option maxRecDepth 100000 in
set_option maxHeartbeats 16000000 in
theorem images_any (A : Option Addr) (c : Nat) (l : List Im) (w : World) (hr : RdI w w.heap.size A l) :
    Calls Tryd.prog 27 #[.slice A l.length c] w fun e w' => Below w.heap.size w w' ∧
      ((okI l = false ∧ e = .returned (.tuple #[.slice none 0 0, .bool false])) ∨
       (okI l = true ∧ ∃ (A1 : Option Addr) (c1 : Nat) (m : List Im), e = .returned (.tuple #[.slice A1 m.length c1, .bool true]) ∧ m.map pl = l.map pl ∧ w'.ownsRow w.heap.size 73 4 (.slice A1 m.length c1) m.length (m.flatMap imC) ∧ OwnI w' w.heap.size m)) := by
  obtain ⟨iG, hiG, zG0, zG1, zG2⟩ := info_parts infoG
  go_enter Tryd.func27, Tryd.ntmps27
  go_wp2_with fail
  go_loopw [4, 5] (fun s4 s5 wr => ∃ (k : Nat) (A1 : Option Addr) (c1 : Nat) (m : List Im), k ≤ l.length ∧ s5 = .int .i64 (k : Int) ∧ s4 = .slice A1 k c1 ∧ m.length = k ∧ m.map pl = (l.take k).map pl ∧ wr.ownsRow w.heap.size 73 4 (.slice A1 k c1) k (m.flatMap imC) ∧ OwnI wr w.heap.size m ∧ Below w.heap.size w wr ∧
    (0 < k → l.length ≤ 8) ∧ (∀ j (hj : j < l.length), j < k → l[j].P.length ≤ 400)) (fun _ s5 _ => l.length - (intOf s5).toNat)
  case atStart => exact ⟨0, none, 0, [], by omega, rfl, rfl, rfl, rfl, World.ownsRow_nil _ _ _ _, (fun g hg => by simp at hg), Below.refl _ _, (fun h => by omega), fun j _ h => by omega⟩
  case round =>
    obtain ⟨k, A1, c1, m, hk, rfl, rfl, hmk, hmp, hown, hownI, hbr, h8, h400⟩ := hrel
    have h400 := Lib.hid h400
    have h8 := Lib.hid h8
    have hmp := Lib.hid hmp
    have hownI := Lib.hid hownI
    by_cases hlt : k < l.length
    · have hd : decide ((k : Int) < (l.length : Int)) = true := by simp; omega
      have i0 : (0 : Int) ≤ (k : Int) := by omega
      have i1 : (k : Int) < (l.length : Int) := by omega
      by_cases hl8 : 8 < l.length
      · have d8 : decide ((8 : Int) < (l.length : Int)) = true := by simp; omega
        have hB := Lib.hid (bad_len hl8)
        go_wp2_with fail
        go_ret2
        exact ⟨hbr, .inl ⟨hB.out, rfl⟩⟩
      have d8 : decide ((8 : Int) < (l.length : Int)) = false := by simp; omega
      obtain ⟨ad, rfl, hbl, c0, c1', c2, c3⟩ := at4 (hr.row.be hbr) hlt
      have hR := hr.each l[k] (List.getElem_mem hlt)
      have hU := hr.u32 l[k] (List.getElem_mem hlt)
      by_cases h4 : 400 < l[k].P.length
      · have d4 : decide ((400 : Int) < (l[k].P.length : Int)) = true := by simp; omega
        have hB := Lib.hid (bad_all hlt h4)
        go_wp2_with fail
        go_ret2
        exact ⟨hbr, .inl ⟨hB.out, rfl⟩⟩
      have d4 : decide ((400 : Int) < (l[k].P.length : Int)) = false := by simp; omega
      have h4 := Lib.hid h4
      have hl8 := Lib.hid hl8
      have hlt := Lib.hid hlt
      have htk := Lib.hid (List.take_append_getElem hlt.out).symm
      generalize hs : l[k] = s at *
      have hs := Lib.hid hs
      have hR := Lib.hid hR
      go_upto_region 7 with fail
      have hbl' : (ad.add (k * 4)).block < w.heap.size := by rw [add_blk]; exact hbl
      have hS : ∀ w' : World, Below w.heap.size wr w' → (Below w.heap.size wr w' ∧ w'.cell? (ad.add (k * 4)) = some (.int .i64 s.b) ∧ w'.cell? ⟨(ad.add (k * 4)).block, (ad.add (k * 4)).off + 1, none⟩ = some (.int .i64 s.w) ∧ w'.cell? ⟨(ad.add (k * 4)).block, (ad.add (k * 4)).off + 2, none⟩ = some (.int .i64 s.h) ∧ w'.cell? ⟨(ad.add (k * 4)).block, (ad.add (k * 4)).off + 3, none⟩ = some (.slice s.A s.P.length s.c)) := fun w' hq => ⟨hq, (hq.cell hbl').trans c0, (hq.cell (p := ⟨(ad.add (k * 4)).block, _, none⟩) hbl').trans c1', (hq.cell (p := ⟨(ad.add (k * 4)).block, _, none⟩) hbl').trans c2, (hq.cell (p := ⟨(ad.add (k * 4)).block, _, none⟩) hbl').trans c3⟩
      have hS := Lib.hid hS
      refine wp_region_held_drew (S := fun w' : World => Below w.heap.size wr w' ∧ w'.cell? (ad.add (k * 4)) = some (.int .i64 s.b) ∧ w'.cell? ⟨(ad.add (k * 4)).block, (ad.add (k * 4)).off + 1, none⟩ = some (.int .i64 s.w) ∧ w'.cell? ⟨(ad.add (k * 4)).block, (ad.add (k * 4)).off + 2, none⟩ = some (.int .i64 s.h) ∧ w'.cell? ⟨(ad.add (k * 4)).block, (ad.add (k * 4)).off + 3, none⟩ = some (.slice s.A s.P.length s.c)) (by kernel_rfl) (by (try dsimp only); exact hS.out _ (by first | (with_reducible assumption) | exact Below.refl _ _ | exact (Below.refl _ _).drew)) (fun hHeld => ?_)
      refine wpAnyH_take (i := 0) (v := ?_) rfl (by kernel_rfl) (by kernel_rfl) (by kernel_rfl) (fun _ _ _ h => h) (Or.inl ⟨by rfl, ?_⟩) (by assumption) ?_
      rotate_left
      · (intro w hSw; (try dsimp only at hSw); go_simp; try (with_reducible rfl))
      (try simp only [Act.put, List.setIfInBounds_toArray, List.set_cons_zero, List.set_cons_succ])
      refine wpAnyH_take (i := 1) (v := ?_) rfl (by kernel_rfl) (by kernel_rfl) (by kernel_rfl) (fun _ _ _ h => h) (Or.inl ⟨by rfl, ?_⟩) (by assumption) ?_
      rotate_left
      · (intro w hSw; (try dsimp only at hSw); go_simp; try (with_reducible rfl))
      (try simp only [Act.put, List.setIfInBounds_toArray, List.set_cons_zero, List.set_cons_succ])
      refine wpAnyH_take (i := 2) (v := ?_) rfl (by kernel_rfl) (by kernel_rfl) (by kernel_rfl) (fun _ _ _ h => h) (Or.inl ⟨by rfl, ?_⟩) (by assumption) ?_
      rotate_left
      · (intro w hSw; (try dsimp only at hSw); go_simp; try (with_reducible rfl))
      (try simp only [Act.put, List.setIfInBounds_toArray, List.set_cons_zero, List.set_cons_succ])
      refine wpAnyH_take (i := 3) (v := ?_) rfl (by kernel_rfl) (by kernel_rfl) (by kernel_rfl) (fun _ _ _ h => h) (Or.inl ⟨by rfl, ?_⟩) (by assumption) ?_
      rotate_left
      · (intro w hSw; (try dsimp only at hSw); go_simp; try (with_reducible rfl))
      (try simp only [Act.put, List.setIfInBounds_toArray, List.set_cons_zero, List.set_cons_succ])
      refine wpAnyH_take (i := 4) (v := ?_) rfl (by kernel_rfl) (by kernel_rfl) (by kernel_rfl) (fun _ _ _ h => h) (Or.inl ⟨by rfl, ?_⟩) (by assumption) ?_
      rotate_left
      · (intro w hSw; (try dsimp only at hSw); go_simp; try (with_reducible rfl))
      (try simp only [Act.put, List.setIfInBounds_toArray, List.set_cons_zero, List.set_cons_succ])
      refine wpAnyH_take (i := 5) (v := ?_) rfl (by kernel_rfl) (by kernel_rfl) (by kernel_rfl) (fun _ _ _ h => h) (Or.inl ⟨by rfl, ?_⟩) (by assumption) ?_
      rotate_left
      · (intro w hSw; (try dsimp only at hSw); go_simp; try (with_reducible rfl))
      (try simp only [Act.put, List.setIfInBounds_toArray, List.set_cons_zero, List.set_cons_succ])
      refine wpAnyH_take (i := 6) (v := ?_) rfl (by kernel_rfl) (by kernel_rfl) (by kernel_rfl) (fun _ _ _ h => h) (Or.inl ⟨by rfl, ?_⟩) (by assumption) ?_
      rotate_left
      · (intro w hSw; (try dsimp only at hSw); go_simp; try (with_reducible rfl))
      (try simp only [Act.put, List.setIfInBounds_toArray, List.set_cons_zero, List.set_cons_succ])
      refine wpAnyH_take (i := 7) (v := ?_) rfl (by kernel_rfl) (by kernel_rfl) (by kernel_rfl) (fun _ _ _ h => h) (Or.inl ⟨by rfl, ?_⟩) (by assumption) ?_
      rotate_left
      · (intro w hSw; (try dsimp only at hSw); go_simp; try (with_reducible rfl))
      (try simp only [Act.put, List.setIfInBounds_toArray, List.set_cons_zero, List.set_cons_succ])
      refine wpAnyH_take (i := 8) (v := ?_) rfl (by kernel_rfl) (by kernel_rfl) (by kernel_rfl) (fun _ _ _ h => h) (Or.inl ⟨by rfl, ?_⟩) (by assumption) ?_
      rotate_left
      · (intro w hSw; (try dsimp only at hSw); go_simp; try (with_reducible rfl))
      (try simp only [Act.put, List.setIfInBounds_toArray, List.set_cons_zero, List.set_cons_succ])
      refine wpAnyH_take (i := 9) (v := ?_) rfl (by kernel_rfl) (by kernel_rfl) (by kernel_rfl) (fun _ _ _ h => h) (Or.inl ⟨by rfl, ?_⟩) (by assumption) ?_
      rotate_left
      · (intro w hSw; (try dsimp only at hSw); go_simp; try (with_reducible rfl))
      (try simp only [Act.put, List.setIfInBounds_toArray, List.set_cons_zero, List.set_cons_succ])
      refine wpAnyH_take (i := 10) (v := ?_) rfl (by kernel_rfl) (by kernel_rfl) (by kernel_rfl) (fun _ _ _ h => h) (Or.inl ⟨by rfl, ?_⟩) (by assumption) ?_
      rotate_left
      · (intro w hSw; (try dsimp only at hSw); go_simp; try (with_reducible rfl))
      (try simp only [Act.put, List.setIfInBounds_toArray, List.set_cons_zero, List.set_cons_succ])
      refine wpAnyH_take (i := 11) (v := ?_) rfl (by kernel_rfl) (by kernel_rfl) (by kernel_rfl) (fun _ _ _ h => h) (Or.inl ⟨by rfl, ?_⟩) (by assumption) ?_
      rotate_left
      · (intro w hSw; (try dsimp only at hSw); go_simp; try (with_reducible rfl))
      (try simp only [Act.put, List.setIfInBounds_toArray, List.set_cons_zero, List.set_cons_succ])
      refine wpAnyH_take (i := 12) (v := ?_) rfl (by kernel_rfl) (by kernel_rfl) (by kernel_rfl) (fun _ _ _ h => h) (Or.inl ⟨by rfl, ?_⟩) (by assumption) ?_
      rotate_left
      · (intro w hSw; (try dsimp only at hSw); go_simp; try (with_reducible rfl))
      (try simp only [Act.put, List.setIfInBounds_toArray, List.set_cons_zero, List.set_cons_succ])
      refine wpAnyH_take (i := 13) (v := ?_) rfl (by kernel_rfl) (by kernel_rfl) (by kernel_rfl) (fun _ _ _ h => h) (Or.inl ⟨by rfl, ?_⟩) (by assumption) ?_
      rotate_left
      · (intro w hSw; (try dsimp only at hSw); go_simp; try (with_reducible rfl))
      (try simp only [Act.put, List.setIfInBounds_toArray, List.set_cons_zero, List.set_cons_succ])
      refine wpAnyH_take (i := 14) (v := ?_) rfl (by kernel_rfl) (by kernel_rfl) (by kernel_rfl) (fun _ _ _ h => h) (Or.inl ⟨by rfl, ?_⟩) (by assumption) ?_
      rotate_left
      · (intro w hSw; (try dsimp only at hSw); go_simp; try (with_reducible rfl))
      (try simp only [Act.put, List.setIfInBounds_toArray, List.set_cons_zero, List.set_cons_succ])
      refine wpAnyH_take (i := 15) (v := ?_) rfl (by kernel_rfl) (by kernel_rfl) (by kernel_rfl) (fun _ _ _ h => h) (Or.inl ⟨by rfl, ?_⟩) (by assumption) ?_
      rotate_left
      · (intro w hSw; (try dsimp only at hSw); go_simp; try (with_reducible rfl))
      (try simp only [Act.put, List.setIfInBounds_toArray, List.set_cons_zero, List.set_cons_succ])
      refine wpAnyH_take (i := 16) (v := ?_) rfl (by kernel_rfl) (by kernel_rfl) (by kernel_rfl) (fun _ _ _ h => h) (Or.inl ⟨by rfl, ?_⟩) (by assumption) ?_
      rotate_left
      · (intro w hSw; (try dsimp only at hSw); go_simp; try (with_reducible rfl))
      (try simp only [Act.put, List.setIfInBounds_toArray, List.set_cons_zero, List.set_cons_succ])
      refine wpAnyH_take (i := 17) (v := ?_) rfl (by kernel_rfl) (by kernel_rfl) (by kernel_rfl) (fun _ _ _ h => h) (Or.inl ⟨by rfl, ?_⟩) (by assumption) ?_
      rotate_left
      · (intro w hSw; (try dsimp only at hSw); go_simp; try (with_reducible rfl))
      (try simp only [Act.put, List.setIfInBounds_toArray, List.set_cons_zero, List.set_cons_succ])
      refine wpAnyH_take (i := 18) (v := ?_) rfl (by kernel_rfl) (by kernel_rfl) (by kernel_rfl) (fun _ _ _ h => h) (Or.inl ⟨by rfl, ?_⟩) (by assumption) ?_
      rotate_left
      · (intro w hSw; (try dsimp only at hSw); go_simp; try (with_reducible rfl))
      (try simp only [Act.put, List.setIfInBounds_toArray, List.set_cons_zero, List.set_cons_succ])
      refine wpAnyH_take (i := 19) (v := ?_) rfl (by kernel_rfl) (by kernel_rfl) (by kernel_rfl) (fun _ _ _ h => h) (Or.inl ⟨by rfl, ?_⟩) (by assumption) ?_
      rotate_left
      · (intro w hSw; (try dsimp only at hSw); go_simp; try (with_reducible rfl))
      (try simp only [Act.put, List.setIfInBounds_toArray, List.set_cons_zero, List.set_cons_succ])
      refine wpAnyH_take (i := 20) (v := ?_) rfl (by kernel_rfl) (by kernel_rfl) (by kernel_rfl) (fun _ _ _ h => h) (Or.inl ⟨by rfl, ?_⟩) (by assumption) ?_
      rotate_left
      · (intro w hSw; (try dsimp only at hSw); go_simp; try (with_reducible rfl))
      (try simp only [Act.put, List.setIfInBounds_toArray, List.set_cons_zero, List.set_cons_succ])
      refine wpAnyH_ready (rs := [21]) (by kernel_rfl) (by simp) ?_
      refine AllReadyH.cons (i := 21) rfl (fun K hK => ?_) AllReadyH.nil
      go_simp
      go_at_call 44
      have hbw0 : Below w.heap.size w wr.drew := hbr.drew
      refine (words_any s.A s.c s.P wr.drew (by have := h4.out; omega) ((hR.out.be hbw0).more hbw0.size)).mono ?_
      rintro e u1 ⟨A2, c2', rfl, own2, hq1⟩
      have hwu : Below w.heap.size wr u1 := (Below.refl _ _).drew.trans (hq1.mono hbr.size)
      have hwu0 : Below w.heap.size w u1 := hbr.trans hwu
      have hownu := own_be hown ((Below.refl wr.heap.size wr).drew.trans hq1)
      have hownIu := (hownI.out.be ((Below.refl wr.heap.size wr).drew.trans hq1))
      have own2' : u1.ownsRow w.heap.size 22 1 (.slice A2 s.P.length c2') s.P.length (s.P.map (Value.int .u32)) := own_lo own2 hbr.size
      have hownIu := Lib.hid hownIu
      have own2' := Lib.hid own2'
      clear own2
      try (go_wp2_with fail)
      refine hK.out _ _ (by (try dsimp only); exact hS.out _ hwu) (fun hHeld2 => ?_)
      clear hHeld
      rename _ => hHeld
      clear hK K
      (try simp only [Act.put, List.setIfInBounds_toArray, List.set_cons_zero, List.set_cons_succ])
      refine wpAnyH_take (i := 22) (v := ?_) rfl (by kernel_rfl) (by kernel_rfl) (by kernel_rfl) (fun _ _ _ h => h) (Or.inl ⟨by rfl, ?_⟩) (by assumption) ?_
      rotate_left
      · (intro w hSw; (try dsimp only at hSw); go_simp; try (with_reducible rfl))
      (try simp only [Act.put, List.setIfInBounds_toArray, List.set_cons_zero, List.set_cons_succ])
      refine wpAnyH_ready (rs := [23]) (by kernel_rfl) (by simp) ?_
      refine AllReadyH.cons (i := 23) rfl (fun K hK => ?_) AllReadyH.nil
      go_simp
      try (go_wp2_with fail)
      refine hK.out _ _ (by (try dsimp only); exact hS.out _ (hwu.alloc hwu0.size _)) (fun hHeld2 => ?_)
      clear hHeld
      rename _ => hHeld
      clear hK K
      (try simp only [Act.put, List.setIfInBounds_toArray, List.set_cons_zero, List.set_cons_succ])
      refine wpAnyH_ready (rs := [24]) (by kernel_rfl) (by simp) ?_
      refine AllReadyH.cons (i := 24) rfl (fun K hK => ?_) AllReadyH.nil
      rw [if_pos (by kernel_rfl)]
      have hal : Below u1.heap.size u1 (u1.alloc (.cells (imC ⟨s.b, s.w, s.h, s.P, A2, c2'⟩).toArray 73)) := bl_alloc (Below.refl _ _) _
      have huB := hwu0.size
      have hkk : k < l.length := hlt.out
      have hl88 : ¬ 8 < l.length := hl8.out
      refine app_row (.tmp 24) (.tmp 47) _ (some 48) ?_ ?_ w.heap.size 73 iG _ 4 48 Tryd.underlying55 hiG zG0 zG1 zG2 rfl (by omega) (.slice A1 k c1) k (m.flatMap imC) ?_ (own_be hownu hal) (u1.heap.size + 1) (some ⟨u1.heap.size, 0, none⟩) 1 1 (imC ⟨s.b, s.w, s.h, s.P, A2, c2'⟩) ?_ (Rds.block (cs := (imC ⟨s.b, s.w, s.h, s.P, A2, c2'⟩).toArray) (Bk.new _ _ _) rfl (by omega)) ?_ ?_ ?_ ?_ ?_
      · kernel_rfl
      · kernel_rfl
      · kernel_rfl
      · kernel_rfl
      · intro u hu; simp [imC] at hu; rcases hu with rfl | rfl | rfl | rfl <;> rfl
      · simp only [maxLen]; omega
      · omega
      · simp; omega
      intro A9 c9 w9 own9 hg9
      have hb9 : Below w.heap.size w w9 := (hwu0.alloc huB _).grown hg9 (by simp; omega) (fun g hg => (hownu.lt g hg).1)
      have hb9' : Below w.heap.size wr w9 := (hwu.alloc huB _).grown hg9 (by simp; omega) (fun g hg => (hownu.lt g hg).1)
      have hI9 : OwnI w9 w.heap.size (m ++ [⟨s.b, s.w, s.h, s.P, A2, c2'⟩]) := by
        intro g hg
        rcases List.mem_append.1 hg with hg | hg
        · have a := own_be (hownIu.out g hg) hal
          exact a.kept hg9 (own_two a (own_be hownu hal) (by decide))
        · obtain rfl := List.mem_singleton.1 hg
          have a := own_be own2'.out hal
          exact a.kept hg9 (own_two a (own_be hownu hal) (by decide))
      have hI9 := Lib.hid hI9
      have own9 := Lib.hid own9
      clear hownu hownIu own2' hwu hwu0 hal hg9 huB
      refine hK.out _ _ (by (try dsimp only); exact hS.out _ hb9') (fun hHeld2 => ?_)
      clear hHeld
      rename _ => hHeld
      clear hK K
      (try simp only [Act.put, List.setIfInBounds_toArray, List.set_cons_zero, List.set_cons_succ])
      refine wpAnyH_ready (rs := [25]) (by kernel_rfl) (by simp) ?_
      refine AllReadyH.cons (i := 25) rfl (fun K hK => ?_) AllReadyH.nil
      go_simp
      refine hK.out _ _ hHeld (fun hHeld2 => ?_)
      clear hHeld2 hK K
      (try simp only [Act.put, List.setIfInBounds_toArray, List.set_cons_zero, List.set_cons_succ])
      refine wpAnyH_done (by kernel_rfl) ?_ _
      clear hHeld hS
      go_wp2_with fail
      go_roundw
      case rel =>
        refine ⟨k + 1, A9, c9, m ++ [⟨s.b, s.w, s.h, s.P, A2, c2'⟩], by omega, by go_num, rfl, by simp [hmk], ?_, ?_, hI9.out, hb9, fun _ => by omega, fun j hj hjk => ?_⟩
        · rw [htk.out, List.map_append, List.map_append, hmp.out]; rfl
        · rw [List.flatMap_append]; simpa using own9.out
        · rcases Nat.lt_or_ge j k with h | h
          · exact h400.out j hj h
          · obtain rfl : j = k := by omega
            have e1 : l[j].P.length = s.P.length := congrArg (fun g : Im => g.P.length) hs.out
            have := h4.out
            omega
      case measure => simp [intOf]; omega
    · obtain rfl : k = l.length := by omega
      have hok : okI l = true := by
        unfold okI
        rw [Bool.and_eq_true, List.all_eq_true]
        refine ⟨?_, fun g hg => ?_⟩
        · by_cases h0 : 0 < l.length
          · simpa using h8.out h0
          · simp; omega
        · obtain ⟨j, hj, rfl⟩ := List.mem_iff_getElem.1 hg
          simpa using h400.out j hj hj
      have hok := Lib.hid hok
      have hd : decide ((l.length : Int) < (l.length : Int)) = false := by simp
      go_wp2_with fail
      go_ret2
      have hmp2 := hmp.out
      rw [List.take_length] at hmp2
      refine ⟨hbr, .inr ⟨hok.out, A1, c1, m, by rw [hmk]; rfl, hmp2, by rw [hmk]; exact hown, hownI.out⟩⟩
end Go.Proofs.YtjjdgbhplechbaaDoor.Cv
