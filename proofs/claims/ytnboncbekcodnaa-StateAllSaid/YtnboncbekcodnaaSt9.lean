/- The walk: tableauref15.Merge. Printed by gen_stref.py, its end by hand. -/
import Derived.Deep.RegionLaw
import Derived.Deep.RegionWith
import Derived.Deep.Cut
import Derived.Test.YtnboncbekcodnaaSt7
set_option linter.unusedVariables false
set_option linter.unusedSimpArgs false
namespace Go.Proofs.Ytnboncbekcodnaa.St
open Go.RowKit Go.Proofs.Ytnboncbekcodnaa.Kit Go.Proofs.Ytnboncbekcodnaa.Grow

/-- what the operations of the reference's Merge's first region yield -/
def rΦ (B : Nat) (s t : Stt) (hs ht : Hd) : Nat → Value → World → Prop
  | 0, v, _ => v = .pointer (some ⟨B, 0, none⟩)
  | 1, v, _ => v = .bool s.att
  | 2, v, _ => v = .bool s.att
  | 3, v, _ => s.att = false → v = .pointer (some ⟨B + 1, 0, none⟩)
  | 4, v, _ => s.att = false → v = .bool t.att
  | 5, v, _ => v = .bool (s.att || t.att)
  | 6, v, _ => v = .pointer (some ⟨B, 1, none⟩)
  | 7, v, _ => v = .int .i64 s.buf
  | 8, v, _ => v = .pointer (some ⟨B, 4, none⟩)
  | 9, v, _ => v = .bool s.inp
  | 10, v, _ => v = .bool s.inp
  | 11, v, _ => s.inp = false → v = .pointer (some ⟨B + 1, 4, none⟩)
  | 12, v, _ => s.inp = false → v = .bool t.inp
  | 13, v, _ => v = .bool (s.inp || t.inp)
  | 14, v, _ => v = .pointer (some ⟨B, 5, none⟩)
  | 15, v, _ => v = .bool s.all
  | 16, v, _ => v = .pointer (some ⟨B, 6, none⟩)
  | 17, v, _ => v = .slice hs.rA s.R.length hs.rc
  | 18, v, w => ∃ A c, v = .slice A s.R.length c ∧ w.ownsRow B 47 4 (.slice A s.R.length c) s.R.length (s.R.flatMap rcC)
  | 19, v, _ => v = .pointer (some ⟨B, 7, none⟩)
  | 20, v, _ => v = .bool s.ord
  | 21, v, _ => v = .bool s.ord
  | 22, v, _ => s.ord = false → v = .pointer (some ⟨B + 1, 7, none⟩)
  | 23, v, _ => s.ord = false → v = .bool t.ord
  | 24, v, _ => v = .bool (s.ord || t.ord)
  | 25, v, _ => v = .pointer (some ⟨B, 8, none⟩)
  | 26, v, _ => v = .slice hs.oA s.O.length hs.oc
  | 27, v, w => ∃ A c, v = .slice A s.O.length c ∧ w.ownsRow B 3 1 (.slice A s.O.length c) s.O.length (s.O.flatMap inC)
  | 28, v, w => ∃ h, v = .agg (stV { att := s.att || t.att, buf := s.buf, D := [], F := [], inp := s.inp || t.inp, all := s.all, R := s.R, ord := s.ord || t.ord, O := s.O, P := [] } h) ∧ StO w B { att := s.att || t.att, buf := s.buf, D := [], F := [], inp := s.inp || t.inp, all := s.all, R := s.R, ord := s.ord || t.ord, O := s.O, P := [] } h
  | 29, v, w => ∃ g, v = .pointer (some ⟨g, 0, none⟩) ∧ B + 3 ≤ g ∧ Bk w g 33 (stV zS zH)
  | _, _, _ => True
theorem rΦ_stab (B : Nat) (s t : Stt) (hs ht : Hd) (j : Nat) (v : Value) (w w' : World) (h : rΦ B s t hs ht j v w) (hb : Below w.heap.size w w') : rΦ B s t hs ht j v w' := by
  unfold rΦ at h ⊢
  split at h
  all_goals first
    | exact h
    | exact trivial
    | (obtain ⟨g, e, hg, hB⟩ := h; exact ⟨g, e, hg, hB.be hb⟩)
    | (obtain ⟨A, c, e, hB⟩ := h; exact ⟨A, c, e, own_be hB hb⟩)
    | (obtain ⟨h', e, hB⟩ := h; exact ⟨h', e, hB.be hb⟩)
theorem own_from {w : World} {base : Nat} {e : TypeId} {sz n : Nat} {v : Value} {xs : List Value} (h : w.ownsRow base e sz v n xs) : ∀ g, v.ownBlock = some g → base ≤ g := fun g hg => (h.lt g hg).1
theorem getq {a : Array Value} {k n : Nat} {v : Value} (h : a.getD k undef = v) (hs : a.size = n) (hk : k < n) : a[k]? = some v := by
  subst hs
  rw [Array.getElem?_eq_getElem hk, ← h]
  simp [hk]
section
variable {P : Program} {ops : Array Oper} {Q : Exit → Act → World → Prop} {i : Nat} {o : Oper} {a : Act} {w : World} {K : Act → World → Prop}
theorem wanted_of {j d : Nat} {b c r : Bool} (hg : o.guard = some (j, b)) (hd : (ops[j]?).bind (·.dst) = some d) (hv : a.tmps[d]? = some (.bool c)) (hr : (c == b) = r) : Region.wanted o (yielded ops a.tmps) = r := by
  rw [← hr]
  unfold Region.wanted yielded
  rw [hg]
  simp only [hd, Option.bind_some, hv]
  cases b <;> cases c <;> rfl
theorem wpOp_on (ho : ops[i]? = some o) (hw : Region.wanted o (yielded ops a.tmps) = true) (h : wpList P ops (Exit.then K Q) [{ o with guard := none }] a w) : wpOp P ops Q i K a w := by
  unfold wpOp
  simp only [ho]
  rw [if_pos hw]
  unfold wpList at h
  have hn : Region.wanted { o with guard := none } (yielded ops a.tmps) = true := rfl
  rw [if_pos hn] at h
  exact h.imp (fun h => wp_then (o := o) h) id
theorem wpOp_off (ho : ops[i]? = some o) (hw : Region.wanted o (yielded ops a.tmps) = false) (h : K (a.put o.dst undef) w) : wpOp P ops Q i K a w := by
  unfold wpOp
  simp only [ho]
  rw [if_neg (by rw [hw]; decide)]
  exact h
end
theorem lit76 (a : Array Value) (h : a.size = 76) : ∃ x0 x1 x2 x3 x4 x5 x6 x7 x8 x9 x10 x11 x12 x13 x14 x15 x16 x17 x18 x19 x20 x21 x22 x23 x24 x25 x26 x27 x28 x29 x30 x31 x32 x33 x34 x35 x36 x37 x38 x39 x40 x41 x42 x43 x44 x45 x46 x47 x48 x49 x50 x51 x52 x53 x54 x55 x56 x57 x58 x59 x60 x61 x62 x63 x64 x65 x66 x67 x68 x69 x70 x71 x72 x73 x74 x75, a = #[x0, x1, x2, x3, x4, x5, x6, x7, x8, x9, x10, x11, x12, x13, x14, x15, x16, x17, x18, x19, x20, x21, x22, x23, x24, x25, x26, x27, x28, x29, x30, x31, x32, x33, x34, x35, x36, x37, x38, x39, x40, x41, x42, x43, x44, x45, x46, x47, x48, x49, x50, x51, x52, x53, x54, x55, x56, x57, x58, x59, x60, x61, x62, x63, x64, x65, x66, x67, x68, x69, x70, x71, x72, x73, x74, x75] := by
  obtain ⟨l⟩ := a
  simp only [List.size_toArray] at h
  rcases l with _ | ⟨x0, l⟩
  · simp at h
  simp only [List.length_cons] at h
  rcases l with _ | ⟨x1, l⟩
  · simp at h
  simp only [List.length_cons] at h
  rcases l with _ | ⟨x2, l⟩
  · simp at h
  simp only [List.length_cons] at h
  rcases l with _ | ⟨x3, l⟩
  · simp at h
  simp only [List.length_cons] at h
  rcases l with _ | ⟨x4, l⟩
  · simp at h
  simp only [List.length_cons] at h
  rcases l with _ | ⟨x5, l⟩
  · simp at h
  simp only [List.length_cons] at h
  rcases l with _ | ⟨x6, l⟩
  · simp at h
  simp only [List.length_cons] at h
  rcases l with _ | ⟨x7, l⟩
  · simp at h
  simp only [List.length_cons] at h
  rcases l with _ | ⟨x8, l⟩
  · simp at h
  simp only [List.length_cons] at h
  rcases l with _ | ⟨x9, l⟩
  · simp at h
  simp only [List.length_cons] at h
  rcases l with _ | ⟨x10, l⟩
  · simp at h
  simp only [List.length_cons] at h
  rcases l with _ | ⟨x11, l⟩
  · simp at h
  simp only [List.length_cons] at h
  rcases l with _ | ⟨x12, l⟩
  · simp at h
  simp only [List.length_cons] at h
  rcases l with _ | ⟨x13, l⟩
  · simp at h
  simp only [List.length_cons] at h
  rcases l with _ | ⟨x14, l⟩
  · simp at h
  simp only [List.length_cons] at h
  rcases l with _ | ⟨x15, l⟩
  · simp at h
  simp only [List.length_cons] at h
  rcases l with _ | ⟨x16, l⟩
  · simp at h
  simp only [List.length_cons] at h
  rcases l with _ | ⟨x17, l⟩
  · simp at h
  simp only [List.length_cons] at h
  rcases l with _ | ⟨x18, l⟩
  · simp at h
  simp only [List.length_cons] at h
  rcases l with _ | ⟨x19, l⟩
  · simp at h
  simp only [List.length_cons] at h
  rcases l with _ | ⟨x20, l⟩
  · simp at h
  simp only [List.length_cons] at h
  rcases l with _ | ⟨x21, l⟩
  · simp at h
  simp only [List.length_cons] at h
  rcases l with _ | ⟨x22, l⟩
  · simp at h
  simp only [List.length_cons] at h
  rcases l with _ | ⟨x23, l⟩
  · simp at h
  simp only [List.length_cons] at h
  rcases l with _ | ⟨x24, l⟩
  · simp at h
  simp only [List.length_cons] at h
  rcases l with _ | ⟨x25, l⟩
  · simp at h
  simp only [List.length_cons] at h
  rcases l with _ | ⟨x26, l⟩
  · simp at h
  simp only [List.length_cons] at h
  rcases l with _ | ⟨x27, l⟩
  · simp at h
  simp only [List.length_cons] at h
  rcases l with _ | ⟨x28, l⟩
  · simp at h
  simp only [List.length_cons] at h
  rcases l with _ | ⟨x29, l⟩
  · simp at h
  simp only [List.length_cons] at h
  rcases l with _ | ⟨x30, l⟩
  · simp at h
  simp only [List.length_cons] at h
  rcases l with _ | ⟨x31, l⟩
  · simp at h
  simp only [List.length_cons] at h
  rcases l with _ | ⟨x32, l⟩
  · simp at h
  simp only [List.length_cons] at h
  rcases l with _ | ⟨x33, l⟩
  · simp at h
  simp only [List.length_cons] at h
  rcases l with _ | ⟨x34, l⟩
  · simp at h
  simp only [List.length_cons] at h
  rcases l with _ | ⟨x35, l⟩
  · simp at h
  simp only [List.length_cons] at h
  rcases l with _ | ⟨x36, l⟩
  · simp at h
  simp only [List.length_cons] at h
  rcases l with _ | ⟨x37, l⟩
  · simp at h
  simp only [List.length_cons] at h
  rcases l with _ | ⟨x38, l⟩
  · simp at h
  simp only [List.length_cons] at h
  rcases l with _ | ⟨x39, l⟩
  · simp at h
  simp only [List.length_cons] at h
  rcases l with _ | ⟨x40, l⟩
  · simp at h
  simp only [List.length_cons] at h
  rcases l with _ | ⟨x41, l⟩
  · simp at h
  simp only [List.length_cons] at h
  rcases l with _ | ⟨x42, l⟩
  · simp at h
  simp only [List.length_cons] at h
  rcases l with _ | ⟨x43, l⟩
  · simp at h
  simp only [List.length_cons] at h
  rcases l with _ | ⟨x44, l⟩
  · simp at h
  simp only [List.length_cons] at h
  rcases l with _ | ⟨x45, l⟩
  · simp at h
  simp only [List.length_cons] at h
  rcases l with _ | ⟨x46, l⟩
  · simp at h
  simp only [List.length_cons] at h
  rcases l with _ | ⟨x47, l⟩
  · simp at h
  simp only [List.length_cons] at h
  rcases l with _ | ⟨x48, l⟩
  · simp at h
  simp only [List.length_cons] at h
  rcases l with _ | ⟨x49, l⟩
  · simp at h
  simp only [List.length_cons] at h
  rcases l with _ | ⟨x50, l⟩
  · simp at h
  simp only [List.length_cons] at h
  rcases l with _ | ⟨x51, l⟩
  · simp at h
  simp only [List.length_cons] at h
  rcases l with _ | ⟨x52, l⟩
  · simp at h
  simp only [List.length_cons] at h
  rcases l with _ | ⟨x53, l⟩
  · simp at h
  simp only [List.length_cons] at h
  rcases l with _ | ⟨x54, l⟩
  · simp at h
  simp only [List.length_cons] at h
  rcases l with _ | ⟨x55, l⟩
  · simp at h
  simp only [List.length_cons] at h
  rcases l with _ | ⟨x56, l⟩
  · simp at h
  simp only [List.length_cons] at h
  rcases l with _ | ⟨x57, l⟩
  · simp at h
  simp only [List.length_cons] at h
  rcases l with _ | ⟨x58, l⟩
  · simp at h
  simp only [List.length_cons] at h
  rcases l with _ | ⟨x59, l⟩
  · simp at h
  simp only [List.length_cons] at h
  rcases l with _ | ⟨x60, l⟩
  · simp at h
  simp only [List.length_cons] at h
  rcases l with _ | ⟨x61, l⟩
  · simp at h
  simp only [List.length_cons] at h
  rcases l with _ | ⟨x62, l⟩
  · simp at h
  simp only [List.length_cons] at h
  rcases l with _ | ⟨x63, l⟩
  · simp at h
  simp only [List.length_cons] at h
  rcases l with _ | ⟨x64, l⟩
  · simp at h
  simp only [List.length_cons] at h
  rcases l with _ | ⟨x65, l⟩
  · simp at h
  simp only [List.length_cons] at h
  rcases l with _ | ⟨x66, l⟩
  · simp at h
  simp only [List.length_cons] at h
  rcases l with _ | ⟨x67, l⟩
  · simp at h
  simp only [List.length_cons] at h
  rcases l with _ | ⟨x68, l⟩
  · simp at h
  simp only [List.length_cons] at h
  rcases l with _ | ⟨x69, l⟩
  · simp at h
  simp only [List.length_cons] at h
  rcases l with _ | ⟨x70, l⟩
  · simp at h
  simp only [List.length_cons] at h
  rcases l with _ | ⟨x71, l⟩
  · simp at h
  simp only [List.length_cons] at h
  rcases l with _ | ⟨x72, l⟩
  · simp at h
  simp only [List.length_cons] at h
  rcases l with _ | ⟨x73, l⟩
  · simp at h
  simp only [List.length_cons] at h
  rcases l with _ | ⟨x74, l⟩
  · simp at h
  simp only [List.length_cons] at h
  rcases l with _ | ⟨x75, l⟩
  · simp at h
  simp only [List.length_cons] at h
  obtain rfl : l = [] := List.eq_nil_of_length_eq_zero (by omega)
  exact ⟨x0, x1, x2, x3, x4, x5, x6, x7, x8, x9, x10, x11, x12, x13, x14, x15, x16, x17, x18, x19, x20, x21, x22, x23, x24, x25, x26, x27, x28, x29, x30, x31, x32, x33, x34, x35, x36, x37, x38, x39, x40, x41, x42, x43, x44, x45, x46, x47, x48, x49, x50, x51, x52, x53, x54, x55, x56, x57, x58, x59, x60, x61, x62, x63, x64, x65, x66, x67, x68, x69, x70, x71, x72, x73, x74, x75, rfl⟩
set_option maxHeartbeats 16000000 in
theorem rmerge_any (s t : Stt) (hs ht : Hd) (w : World) (hS : StR w w.heap.size s hs) (hT : StR w w.heap.size t ht) (n : StN 1000 s) (m : StN 1000 t) :
    Calls Try.prog 17 #[.agg (stV s hs), .agg (stV t ht)] w fun e w' => ∃ h, e = .returned (.agg (stV (mergeS s t) h)) ∧ StO w' w.heap.size (mergeS s t) h ∧ Below w.heap.size w w' := by
  have n1 := n.d
  have n2 := n.f
  have n3 := n.r
  have n4 := n.o
  have n5 := n.p
  have m1 := m.d
  have m2 := m.f
  have m3 := m.r
  have m4 := m.o
  have m5 := m.p
  go_enter Try.func17, Try.ntmps17
  go_wp2_with fail
  refine wp_region_facts (by kernel_rfl) 30 (by decide) (fun w' => Bk w' w.heap.size 33 (stV s hs) ∧ Bk w' (w.heap.size + 1) 33 (stV t ht) ∧ Bk w' (w.heap.size + 1 + 1) 33 (stV zS zH) ∧ Below w.heap.size w w') (rΦ w.heap.size s t hs ht) (fun _ w w' => Below w.heap.size w w') (okDst_spec (by kernel_rfl)) (okIn_spec (by kernel_rfl)) (okLast_spec (by kernel_rfl)) (okOrd_spec (by kernel_rfl)) ?stab ?g0 ?op ?fin
  case stab => exact fun i j v w1 w2 _ h hb => rΦ_stab _ _ _ _ _ _ _ _ _ h hb
  case g0 =>
    refine ⟨?_, ?_, ?_, ?_⟩
    · exact ((Bk.new w 33 (stV s hs)).al _).al _
    · exact (Bk.new' (w.alloc (.cells (stV s hs) 33)) 33 (stV t ht) (by simp)).al _
    · exact Bk.new' _ _ _ (by simp)
    · exact bl_drew (bl_alloc (bl_alloc (bl_alloc (Below.refl _ _) _) _) _)
  case fin =>
    intro a w1 hM hall
    refine wpOp_list rfl ?_
    obtain ⟨hh, e28, R28⟩ := hall 28 _ (by decide) rfl
    obtain ⟨g, e29, hg, Bg⟩ := hall 29 _ (by decide) rfl
    obtain ⟨Bs, Bt, Br, hb⟩ := hM.g
    have h2 := hM.slot 2 (by kernel_rfl) rfl
    have h3 := hM.slot 3 (by kernel_rfl) rfl
    have h4 := hM.slot 4 (by kernel_rfl) rfl
    have hsz : a.tmps.size = 76 := hM.sz
    have hdf : a.defers = [] := hM.dfr
    replace e28 : a.tmps.getD 34 undef = _ := e28
    replace e29 : a.tmps.getD 5 undef = _ := e29
    clear hall hM
    obtain ⟨tm, df⟩ := a
    obtain ⟨x0, x1, x2, x3, x4, x5, x6, x7, x8, x9, x10, x11, x12, x13, x14, x15, x16, x17, x18, x19, x20, x21, x22, x23, x24, x25, x26, x27, x28, x29, x30, x31, x32, x33, x34, x35, x36, x37, x38, x39, x40, x41, x42, x43, x44, x45, x46, x47, x48, x49, x50, x51, x52, x53, x54, x55, x56, x57, x58, x59, x60, x61, x62, x63, x64, x65, x66, x67, x68, x69, x70, x71, x72, x73, x74, x75, rfl⟩ := lit76 tm hsz
    have q34 : x34 = _ := e28
    have q5 : x5 = _ := e29
    have q2 : x2 = _ := h2
    have q3 : x3 = _ := h3
    have q4 : x4 = _ := h4
    have qd : df = [] := hdf
    clear e28 e29 h2 h3 h4 hsz hdf
    subst q34 q5 q2 q3 q4 qd
    have b0 := Bg.cell 0
    have b1 := Bg.cell 1
    have b2 := Bg.cell 2
    have b3 := Bg.cell 3
    have b4 := Bg.cell 4
    have b5 := Bg.cell 5
    have b6 := Bg.cell 6
    have b7 := Bg.cell 7
    have b8 := Bg.cell 8
    have b9 := Bg.cell 9
    have bz := Bg.fz
    have g1 : ¬ (g = w.heap.size + 1) := by omega
    have g2 : ¬ (w.heap.size + 1 = g) := by omega
    have g3 : ¬ (g = w.heap.size + 1 + 1) := by omega
    have g4 : ¬ (w.heap.size + 1 + 1 = g) := by omega
    have g5 : ¬ (w.heap.size = g) := by omega
    have g6 : ¬ (g = w.heap.size) := by omega
    have hgw : w.heap.size ≤ g := by omega
    have hB1 := bk_st10 Bg (.bool (s.att || t.att)) (.int .i64 s.buf) (.slice hh.dA 0 hh.dc) (.slice hh.fA 0 hh.fc) (.bool (s.inp || t.inp)) (.bool s.all) (.slice hh.rA s.R.length hh.rc) (.bool (s.ord || t.ord)) (.slice hh.oA s.O.length hh.oc) (.slice hh.pA 0 hh.pc)
    have hS1 := StO.set10 R28 Bg (.bool (s.att || t.att)) (.int .i64 s.buf) (.slice hh.dA 0 hh.dc) (.slice hh.fA 0 hh.fc) (.bool (s.inp || t.inp)) (.bool s.all) (.slice hh.rA s.R.length hh.rc) (.bool (s.ord || t.ord)) (.slice hh.oA s.O.length hh.oc) (.slice hh.pA 0 hh.pc)
    have hb1 := bl_set10 (g := g) hb hgw (.bool (s.att || t.att)) (.int .i64 s.buf) (.slice hh.dA 0 hh.dc) (.slice hh.fA 0 hh.fc) (.bool (s.inp || t.inp)) (.bool s.all) (.slice hh.rA s.R.length hh.rc) (.bool (s.ord || t.ord)) (.slice hh.oA s.O.length hh.oc) (.slice hh.pA 0 hh.pc)
    have hBr := bk_ot10 Br g4 (.bool (s.att || t.att)) (.int .i64 s.buf) (.slice hh.dA 0 hh.dc) (.slice hh.fA 0 hh.fc) (.bool (s.inp || t.inp)) (.bool s.all) (.slice hh.rA s.R.length hh.rc) (.bool (s.ord || t.ord)) (.slice hh.oA s.O.length hh.oc) (.slice hh.pA 0 hh.pc)
    have hBt := bk_ot10 Bt g2 (.bool (s.att || t.att)) (.int .i64 s.buf) (.slice hh.dA 0 hh.dc) (.slice hh.fA 0 hh.fc) (.bool (s.inp || t.inp)) (.bool s.all) (.slice hh.rA s.R.length hh.rc) (.bool (s.ord || t.ord)) (.slice hh.oA s.O.length hh.oc) (.slice hh.pA 0 hh.pc)
    have hBs := bk_ot10 Bs g5 (.bool (s.att || t.att)) (.int .i64 s.buf) (.slice hh.dA 0 hh.dc) (.slice hh.fA 0 hh.fc) (.bool (s.inp || t.inp)) (.bool s.all) (.slice hh.rA s.R.length hh.rc) (.bool (s.ord || t.ord)) (.slice hh.oA s.O.length hh.oc) (.slice hh.pA 0 hh.pc)
    go_upto_region 2 with fail
    generalize hww : World.setCell _ ⟨g, 9, none⟩ _ = w3 at *
    generalize Value.agg (stV { att := s.att || t.att, buf := s.buf, D := [], F := [], inp := s.inp || t.inp, all := s.all, R := s.R, ord := s.ord || t.ord, O := s.O, P := [] } hh) = V34
    clear hww b0 b1 b2 b3 b4 b5 b6 b7 b8 b9 bz R28 Bg Bs Bt Br hb
    obtain ⟨h1, rfl⟩ : ∃ x : Hd, x = hh := ⟨_, rfl⟩
    have t0 : w3.cell? ⟨w.heap.size + 1, 0, none⟩ = some (.bool t.att) := hBt.cell 0
    go_upto_if 36 with fail
    go_cut [] from 36 (fun wx => ∃ h, Bk wx g 33 (stV { att := s.att || t.att, buf := if t.att then t.buf else s.buf, D := [], F := [], inp := s.inp || t.inp, all := s.all, R := s.R, ord := s.ord || t.ord, O := s.O, P := [] } h) ∧ StO wx w.heap.size { att := s.att || t.att, buf := if t.att then t.buf else s.buf, D := [], F := [], inp := s.inp || t.inp, all := s.all, R := s.R, ord := s.ord || t.ord, O := s.O, P := [] } h ∧ Bk wx w.heap.size 33 (stV s hs) ∧ Bk wx (w.heap.size + 1) 33 (stV t ht) ∧ Bk wx (w.heap.size + 1 + 1) 33 (stV zS zH) ∧ Below w.heap.size w wx)
    case first =>
      by_cases ha : t.att = true
      · have HA := Lib.hid ha
        rw [ha] at t0 ⊢
        clear ha
        have t1 : w3.cell? ⟨w.heap.size + 1, 1, none⟩ = some (.int .i64 t.buf) := hBt.cell 1
        have b1 := hB1.cell 1
        have bz := hB1.fz
        go_wp2_with fail
        all_goals go_meet
        all_goals simp only [if_pos HA.out]
        all_goals exact ⟨h1, hB1.st 1 _, sto_cp (hS1.set (j := 1) hB1) rfl rfl rfl rfl rfl, hBs.ot g5 _, hBt.ot g2 _, hBr.ot g4 _, bl_set hb1 hgw _⟩
      · have HA := Lib.hid ha
        rw [Bool.not_eq_true] at ha
        rw [ha] at t0 ⊢
        clear ha
        go_wp2_with fail
        all_goals go_meet
        all_goals simp only [if_neg HA.out]
        all_goals exact ⟨h1, hB1, sto_cp hS1 rfl rfl rfl rfl rfl, hBs, hBt, hBr, hb1⟩
    case rest =>
    clear hB1 hS1 hBs hBt hBr hb1
    obtain ⟨h1, hB1, hS1, hBs, hBt, hBr, hb1⟩ := hcut
    obtain ⟨w3, rfl⟩ : ∃ x : World, x = wc := ⟨_, rfl⟩
    clear t0
    have t0 : w3.cell? ⟨w.heap.size + 1, 4, none⟩ = some (.bool t.inp) := hBt.cell 4
    go_upto_if 41 with fail
    go_cut [] from 41 (fun wx => ∃ h, Bk wx g 33 (stV { att := s.att || t.att, buf := if t.att then t.buf else s.buf, D := [], F := [], inp := s.inp || t.inp, all := if t.inp then t.all else s.all, R := if t.inp then t.R else s.R, ord := s.ord || t.ord, O := s.O, P := [] } h) ∧ StO wx w.heap.size { att := s.att || t.att, buf := if t.att then t.buf else s.buf, D := [], F := [], inp := s.inp || t.inp, all := if t.inp then t.all else s.all, R := if t.inp then t.R else s.R, ord := s.ord || t.ord, O := s.O, P := [] } h ∧ Bk wx w.heap.size 33 (stV s hs) ∧ Bk wx (w.heap.size + 1) 33 (stV t ht) ∧ Bk wx (w.heap.size + 1 + 1) 33 (stV zS zH) ∧ Below w.heap.size w wx)
    case first =>
      by_cases ha : t.inp = true
      · have HA := Lib.hid ha
        rw [ha] at t0 ⊢
        clear ha
        have lt1 : w.heap.size + 1 < w3.heap.size := hBt.lt
        have lt2 : ¬ (w.heap.size + 1 = w3.heap.size) := by omega
        have lt3 : g < w3.heap.size := hB1.lt
        have lt4 : ¬ (g = w3.heap.size) := by omega
        have q5 : w3.cell? ⟨w.heap.size + 1, 5, none⟩ = some (.bool t.all) := hBt.cell 5
        have q6 : w3.cell? ⟨w.heap.size + 1, 6, none⟩ = some (.slice ht.rA t.R.length ht.rc) := hBt.cell 6
        have hbd : Below w.heap.size w w3.drew := bl_drew hb1
        have Bd : Below w3.heap.size w3 w3.drew := bl_drew (Below.refl _ _)
        go_upto_region 5 with fail
        go_region_with (go_at_call 33; go_loud (refine (rRects_any ht.rA t.R.length ht.rc (t.R.flatMap rcC) _ (by omega) ((hT.r.be hbd).more hbd.size) (rcC_one t.R)).mono ?_; rintro e w4 ⟨A4, c4, rfl, hown4, hb4⟩; have hown5 := own_lower hown4 (by have := hbd.size; exact this : w.heap.size ≤ _); have Bw := bl_step Bd hb4; have hbw := bl_step hbd hb4; have hB4 := hB1.be Bw; have hS4 := hS1.be Bw; have hBs4 := hBs.be Bw; have hBt4 := hBt.be Bw; have hBr4 := hBr.be Bw; have k5 := hB4.cell 5; have k6 := hB4.cell 6; have kz := hB4.fz; have p5 : w4.cell? ⟨w.heap.size + 1, 5, none⟩ = some (.bool t.all) := hBt4.cell 5))
        all_goals go_wp2_with fail
        all_goals go_meet
        all_goals simp only [if_pos HA.out]
        all_goals exact ⟨{ h1 with rA := A4, rc := c4 }, (hB4.st 5 _).st 6 _, StO.set (j := 6) (StO.set (j := 5) ⟨hS4.d, hS4.f, hown5, hS4.o, hS4.p⟩ hB4) (hB4.st 5 _), (hBs4.ot g5 _).ot g5 _, (hBt4.ot g2 _).ot g2 _, (hBr4.ot g4 _).ot g4 _, bl_set (bl_set hbw hgw _) hgw _⟩
      · have HA := Lib.hid ha
        rw [Bool.not_eq_true] at ha
        rw [ha] at t0 ⊢
        clear ha
        go_wp2_with fail
        all_goals go_meet
        all_goals simp only [if_neg HA.out]
        all_goals exact ⟨h1, hB1, sto_cp hS1 rfl rfl rfl rfl rfl, hBs, hBt, hBr, hb1⟩
    case rest =>
    clear hB1 hS1 hBs hBt hBr hb1
    obtain ⟨h1, hB1, hS1, hBs, hBt, hBr, hb1⟩ := hcut
    obtain ⟨w3, rfl⟩ : ∃ x : World, x = wc := ⟨_, rfl⟩
    clear t0
    have t0 : w3.cell? ⟨w.heap.size + 1, 7, none⟩ = some (.bool t.ord) := hBt.cell 7
    go_upto_if 50 with fail
    go_cut [] from 50 (fun wx => ∃ h, Bk wx g 33 (stV { att := s.att || t.att, buf := if t.att then t.buf else s.buf, D := [], F := [], inp := s.inp || t.inp, all := if t.inp then t.all else s.all, R := if t.inp then t.R else s.R, ord := s.ord || t.ord, O := if t.ord then t.O else s.O, P := [] } h) ∧ StO wx w.heap.size { att := s.att || t.att, buf := if t.att then t.buf else s.buf, D := [], F := [], inp := s.inp || t.inp, all := if t.inp then t.all else s.all, R := if t.inp then t.R else s.R, ord := s.ord || t.ord, O := if t.ord then t.O else s.O, P := [] } h ∧ Bk wx w.heap.size 33 (stV s hs) ∧ Bk wx (w.heap.size + 1) 33 (stV t ht) ∧ Bk wx (w.heap.size + 1 + 1) 33 (stV zS zH) ∧ Below w.heap.size w wx)
    case first =>
      by_cases ha : t.ord = true
      · have HA := Lib.hid ha
        rw [ha] at t0 ⊢
        clear ha
        have lt1 : w.heap.size + 1 < w3.heap.size := hBt.lt
        have lt2 : ¬ (w.heap.size + 1 = w3.heap.size) := by omega
        have lt3 : g < w3.heap.size := hB1.lt
        have lt4 : ¬ (g = w3.heap.size) := by omega
        have q8 : w3.cell? ⟨w.heap.size + 1, 8, none⟩ = some (.slice ht.oA t.O.length ht.oc) := hBt.cell 8
        go_wp2_with (go_at_call 34; go_loud (refine (rInts_any ht.oA t.O.length ht.oc (t.O.flatMap inC) _ (by omega) ((hT.o.be hb1).more hb1.size) (inC_one t.O)).mono ?_; rintro e w4 ⟨A4, c4, rfl, hown4, hb4⟩; have hown5 := own_lower hown4 (by have := hb1.size; exact this : w.heap.size ≤ _); have hbw := bl_step hb1 hb4; have hB4 := hB1.be hb4; have hS4 := hS1.be hb4; have hBs4 := hBs.be hb4; have hBt4 := hBt.be hb4; have hBr4 := hBr.be hb4; have k8 := hB4.cell 8; have kz := hB4.fz))
        all_goals go_meet
        all_goals simp only [if_pos HA.out]
        all_goals exact ⟨{ h1 with oA := A4, oc := c4 }, hB4.st 8 _, StO.set (j := 8) ⟨hS4.d, hS4.f, hS4.r, hown5, hS4.p⟩ hB4, hBs4.ot g5 _, hBt4.ot g2 _, hBr4.ot g4 _, bl_set hbw hgw _⟩
      · have HA := Lib.hid ha
        rw [Bool.not_eq_true] at ha
        rw [ha] at t0 ⊢
        clear ha
        go_wp2_with fail
        all_goals go_meet
        all_goals simp only [if_neg HA.out]
        all_goals exact ⟨h1, hB1, sto_cp hS1 rfl rfl rfl rfl rfl, hBs, hBt, hBr, hb1⟩
    case rest =>
    clear hB1 hS1 hBs hBt hBr hb1
    obtain ⟨h1, hB1, hS1, hBs, hBt, hBr, hb1⟩ := hcut
    obtain ⟨w3, rfl⟩ : ∃ x : World, x = wc := ⟨_, rfl⟩
    clear t0
    obtain ⟨i0, hi0, hz0, hz1, hz2⟩ := info_parts infoRect
    have q1 : w3.cell? ⟨w.heap.size, 2, none⟩ = some (.slice hs.dA s.D.length hs.dc) := hBs.cell 2
    have q2 : w3.cell? ⟨w.heap.size + 1, 2, none⟩ = some (.slice ht.dA t.D.length ht.dc) := hBt.cell 2
    have hbd : Below w.heap.size w w3.drew := bl_drew hb1
    have Bd : Below w3.heap.size w3 w3.drew := bl_drew (Below.refl _ _)
    go_upto_region 8 with fail
    go_cut [] from 55 (fun wx => ∃ h, Bk wx g 33 (stV { att := s.att || t.att, buf := if t.att then t.buf else s.buf, D := s.D ++ t.D, F := [], inp := s.inp || t.inp, all := if t.inp then t.all else s.all, R := if t.inp then t.R else s.R, ord := s.ord || t.ord, O := if t.ord then t.O else s.O, P := [] } h) ∧ StO wx w.heap.size { att := s.att || t.att, buf := if t.att then t.buf else s.buf, D := s.D ++ t.D, F := [], inp := s.inp || t.inp, all := if t.inp then t.all else s.all, R := if t.inp then t.R else s.R, ord := s.ord || t.ord, O := if t.ord then t.O else s.O, P := [] } h ∧ Bk wx w.heap.size 33 (stV s hs) ∧ Bk wx (w.heap.size + 1) 33 (stV t ht) ∧ Bk wx (w.heap.size + 1 + 1) 33 (stV zS zH) ∧ Below w.heap.size w wx)
    case first =>
      go_region_law (first
        | (refine step_app _ (by rfl) (.tmp 57) (.tmp 59) _ (by rfl) w3.drew.heap.size 47 i0 _ 4 32 Try.underlying30 hi0 hz0 hz1 hz2 rfl (by omega) (.slice A4 s.D.length c4) s.D.length (s.D.flatMap rcC) (by rfl) hown4 w.heap.size ht.dA t.D.length ht.dc (t.D.flatMap rcC) (by rfl) (hT.d.be hbw) (rcC_one t.D) (by simp only [maxLen]; omega) (by omega) hb4.size ?_; intro v6 w6 hown6 hg6 hat6; obtain ⟨A6, c6, rfl, _⟩ := own_form hown6; have hb6 : Below w3.drew.heap.size w3.drew w6 := hb4.grown hg6 hb4.size (own_from hown4); have Bw6 := bl_step Bd hb6; have hbw6 := bl_step hbd hb6; have hB6 := hB1.be Bw6; have hS6 := hS1.be Bw6; have hBs6 := hBs.be Bw6; have hBt6 := hBt.be Bw6; have hBr6 := hBr.be Bw6; have k2 := hB6.cell 2; have kz := hB6.fz)
        | (rw [if_pos (by rfl)]; go_simp; go_at_call 33; refine (rRects_any hs.dA s.D.length hs.dc (s.D.flatMap rcC) _ (by omega) ((hS.d.be hbd).more hbd.size) (rcC_one s.D)).mono ?_; rintro e w4 ⟨A4, c4, rfl, hown4, hb4⟩; have hbw := bl_step hbd hb4; have Bw4 := bl_step Bd hb4; have p2 : w4.cell? ⟨w.heap.size + 1, 2, none⟩ = some (.slice ht.dA t.D.length ht.dc) := (hBt.be Bw4).cell 2; go_wp2_with fail))
      all_goals go_wp2_with fail
      all_goals go_meet
      all_goals (have hown7 := own_lower hown6 (by have := hbd.size; exact this : w.heap.size ≤ _); rw [← List.length_append, ← List.flatMap_append] at hown7)
      all_goals rw [← List.length_append]
      all_goals exact ⟨{ h1 with dA := A6, dc := c6 }, hB6.st 2 _, StO.set (j := 2) ⟨hown7, hS6.f, hS6.r, hS6.o, hS6.p⟩ hB6, hBs6.ot g5 _, hBt6.ot g2 _, hBr6.ot g4 _, bl_set hbw6 hgw _⟩
    case rest =>
    clear hB1 hS1 hBs hBt hBr hb1
    obtain ⟨h1, hB1, hS1, hBs, hBt, hBr, hb1⟩ := hcut
    obtain ⟨w3, rfl⟩ : ∃ x : World, x = wc := ⟨_, rfl⟩
    clear q1 q2
    obtain ⟨i0, hi0, hz0, hz1, hz2⟩ := info_parts infoInt
    have q1 : w3.cell? ⟨w.heap.size, 3, none⟩ = some (.slice hs.fA s.F.length hs.fc) := hBs.cell 3
    have q2 : w3.cell? ⟨w.heap.size + 1, 3, none⟩ = some (.slice ht.fA t.F.length ht.fc) := hBt.cell 3
    have hbd : Below w.heap.size w w3.drew := bl_drew hb1
    have Bd : Below w3.heap.size w3 w3.drew := bl_drew (Below.refl _ _)
    go_upto_region 9 with fail
    go_cut [] from 62 (fun wx => ∃ h, Bk wx g 33 (stV { att := s.att || t.att, buf := if t.att then t.buf else s.buf, D := s.D ++ t.D, F := s.F ++ t.F, inp := s.inp || t.inp, all := if t.inp then t.all else s.all, R := if t.inp then t.R else s.R, ord := s.ord || t.ord, O := if t.ord then t.O else s.O, P := [] } h) ∧ StO wx w.heap.size { att := s.att || t.att, buf := if t.att then t.buf else s.buf, D := s.D ++ t.D, F := s.F ++ t.F, inp := s.inp || t.inp, all := if t.inp then t.all else s.all, R := if t.inp then t.R else s.R, ord := s.ord || t.ord, O := if t.ord then t.O else s.O, P := [] } h ∧ Bk wx w.heap.size 33 (stV s hs) ∧ Bk wx (w.heap.size + 1) 33 (stV t ht) ∧ Bk wx (w.heap.size + 1 + 1) 33 (stV zS zH) ∧ Below w.heap.size w wx)
    case first =>
      go_region_law (first
        | (refine step_app _ (by rfl) (.tmp 64) (.tmp 66) _ (by rfl) w3.drew.heap.size 3 i0 _ 1 8 Try.underlying31 hi0 hz0 hz1 hz2 rfl (by omega) (.slice A4 s.F.length c4) s.F.length (s.F.flatMap inC) (by rfl) hown4 w.heap.size ht.fA t.F.length ht.fc (t.F.flatMap inC) (by rfl) (hT.f.be hbw) (inC_one t.F) (by simp only [maxLen]; omega) (by omega) hb4.size ?_; intro v6 w6 hown6 hg6 hat6; obtain ⟨A6, c6, rfl, _⟩ := own_form hown6; have hb6 : Below w3.drew.heap.size w3.drew w6 := hb4.grown hg6 hb4.size (own_from hown4); have Bw6 := bl_step Bd hb6; have hbw6 := bl_step hbd hb6; have hB6 := hB1.be Bw6; have hS6 := hS1.be Bw6; have hBs6 := hBs.be Bw6; have hBt6 := hBt.be Bw6; have hBr6 := hBr.be Bw6; have k2 := hB6.cell 3; have kz := hB6.fz)
        | (rw [if_pos (by rfl)]; go_simp; go_at_call 34; refine (rInts_any hs.fA s.F.length hs.fc (s.F.flatMap inC) _ (by omega) ((hS.f.be hbd).more hbd.size) (inC_one s.F)).mono ?_; rintro e w4 ⟨A4, c4, rfl, hown4, hb4⟩; have hbw := bl_step hbd hb4; have Bw4 := bl_step Bd hb4; have p2 : w4.cell? ⟨w.heap.size + 1, 3, none⟩ = some (.slice ht.fA t.F.length ht.fc) := (hBt.be Bw4).cell 3; go_wp2_with fail))
      all_goals go_wp2_with fail
      all_goals go_meet
      all_goals (have hown7 := own_lower hown6 (by have := hbd.size; exact this : w.heap.size ≤ _); rw [← List.length_append, ← List.flatMap_append] at hown7)
      all_goals rw [← List.length_append]
      all_goals exact ⟨{ h1 with fA := A6, fc := c6 }, hB6.st 3 _, StO.set (j := 3) ⟨hS6.d, hown7, hS6.r, hS6.o, hS6.p⟩ hB6, hBs6.ot g5 _, hBt6.ot g2 _, hBr6.ot g4 _, bl_set hbw6 hgw _⟩
    case rest =>
    clear hB1 hS1 hBs hBt hBr hb1
    obtain ⟨h1, hB1, hS1, hBs, hBt, hBr, hb1⟩ := hcut
    obtain ⟨w3, rfl⟩ : ∃ x : World, x = wc := ⟨_, rfl⟩
    clear q1 q2
    have q1 : w3.cell? ⟨w.heap.size, 9, none⟩ = some (.slice hs.pA s.P.length hs.pc) := hBs.cell 9
    have q2 : w3.cell? ⟨w.heap.size + 1, 9, none⟩ = some (.slice ht.pA t.P.length ht.pc) := hBt.cell 9
    go_upto_region 10 with fail
    go_cut [] from 69 (fun wx => ∃ h, Bk wx g 33 (stV { att := s.att || t.att, buf := if t.att then t.buf else s.buf, D := s.D ++ t.D, F := s.F ++ t.F, inp := s.inp || t.inp, all := if t.inp then t.all else s.all, R := if t.inp then t.R else s.R, ord := s.ord || t.ord, O := if t.ord then t.O else s.O, P := t.P.foldl putC s.P } h) ∧ StO wx w.heap.size { att := s.att || t.att, buf := if t.att then t.buf else s.buf, D := s.D ++ t.D, F := s.F ++ t.F, inp := s.inp || t.inp, all := if t.inp then t.all else s.all, R := if t.inp then t.R else s.R, ord := s.ord || t.ord, O := if t.ord then t.O else s.O, P := t.P.foldl putC s.P } h ∧ Bk wx w.heap.size 33 (stV s hs) ∧ Bk wx (w.heap.size + 1) 33 (stV t ht) ∧ Bk wx (w.heap.size + 1 + 1) 33 (stV zS zH) ∧ Below w.heap.size w wx)
    case first =>
      go_wp2_with (go_at_call 35; go_loud (refine (puts_any hs.pA ht.pA hs.pc ht.pc s.P t.P _ n5 m5 ((hS.p.be hb1).more hb1.size) ((hT.p.be hb1).more hb1.size)).mono ?_; rintro e w4 ⟨A4, c4, rfl, hown4, hb4⟩; have hown5 := own_lower hown4 (by have := hb1.size; exact this : w.heap.size ≤ _); have hbw := bl_step hb1 hb4; have hB4 := hB1.be hb4; have hS4 := hS1.be hb4; have hBs4 := hBs.be hb4; have hBt4 := hBt.be hb4; have hBr4 := hBr.be hb4; have k9 := hB4.cell 9; have kz := hB4.fz))
      all_goals go_meet
      all_goals exact ⟨{ h1 with pA := A4, pc := c4 }, hB4.st 9 _, StO.set (j := 9) ⟨hS4.d, hS4.f, hS4.r, hS4.o, hown5⟩ hB4, hBs4.ot g5 _, hBt4.ot g2 _, hBr4.ot g4 _, bl_set hbw hgw _⟩
    case rest =>
    clear hB1 hS1 hBs hBt hBr hb1
    obtain ⟨h1, hB1, hS1, hBs, hBt, hBr, hb1⟩ := hcut
    obtain ⟨w3, rfl⟩ : ∃ x : World, x = wc := ⟨_, rfl⟩
    clear q1 q2
    rw [show { att := s.att || t.att, buf := if t.att then t.buf else s.buf, D := s.D ++ t.D, F := s.F ++ t.F, inp := s.inp || t.inp, all := if t.inp then t.all else s.all, R := if t.inp then t.R else s.R, ord := s.ord || t.ord, O := if t.ord then t.O else s.O, P := t.P.foldl putC s.P } = mergeS s t from rfl] at hB1 hS1
    generalize hm : mergeS s t = m' at hB1 hS1
    have HM := Lib.hid hm
    clear hm
    have b0 : w3.cell? ⟨g, 0, none⟩ = some (.bool m'.att) := hB1.cell 0
    have b1 : w3.cell? ⟨g, 1, none⟩ = some (.int .i64 m'.buf) := hB1.cell 1
    have b2 : w3.cell? ⟨g, 2, none⟩ = some (.slice h1.dA m'.D.length h1.dc) := hB1.cell 2
    have b3 : w3.cell? ⟨g, 3, none⟩ = some (.slice h1.fA m'.F.length h1.fc) := hB1.cell 3
    have b4 : w3.cell? ⟨g, 4, none⟩ = some (.bool m'.inp) := hB1.cell 4
    have b5 : w3.cell? ⟨g, 5, none⟩ = some (.bool m'.all) := hB1.cell 5
    have b6 : w3.cell? ⟨g, 6, none⟩ = some (.slice h1.rA m'.R.length h1.rc) := hB1.cell 6
    have b7 : w3.cell? ⟨g, 7, none⟩ = some (.bool m'.ord) := hB1.cell 7
    have b8 : w3.cell? ⟨g, 8, none⟩ = some (.slice h1.oA m'.O.length h1.oc) := hB1.cell 8
    have b9 : w3.cell? ⟨g, 9, none⟩ = some (.slice h1.pA m'.P.length h1.pc) := hB1.cell 9
    have r0 := hBr.cell 0
    have r1 := hBr.cell 1
    have r2 := hBr.cell 2
    have r3 := hBr.cell 3
    have r4 := hBr.cell 4
    have r5 := hBr.cell 5
    have r6 := hBr.cell 6
    have r7 := hBr.cell 7
    have r8 := hBr.cell 8
    have r9 := hBr.cell 9
    have rz := hBr.fz
    go_wp2_with fail
    obtain rfl := HM.out
    refine post_cell (w.heap.size + 1 + 1) 33 _ Try.results17 Try.underlying33 rfl (by kernel_rfl) rfl (bk_st10 hBr (.bool (mergeS s t).att) (.int .i64 (mergeS s t).buf) (.slice h1.dA (mergeS s t).D.length h1.dc) (.slice h1.fA (mergeS s t).F.length h1.fc) (.bool (mergeS s t).inp) (.bool (mergeS s t).all) (.slice h1.rA (mergeS s t).R.length h1.rc) (.bool (mergeS s t).ord) (.slice h1.oA (mergeS s t).O.length h1.oc) (.slice h1.pA (mergeS s t).P.length h1.pc)) rfl ⟨h1, rfl, StO.set10 hS1 hBr _ _ _ _ _ _ _ _ _ _, bl_set10 hb1 (by omega) _ _ _ _ _ _ _ _ _ _⟩
  case op =>
    intro i o ho hne a w1 hM hd
    have hG := hM.g
    have hsz : a.tmps.size = 76 := hM.sz
    obtain ⟨Bs, Bt, Br, hb⟩ := hM.g
    have h2 := hM.slot 2 (by kernel_rfl) rfl
    have h3 := hM.slot 3 (by kernel_rfl) rfl
    match i, ho with
    | 0, ho =>
      obtain rfl := Option.some.inj ho
      clear hsz
      refine wpOp_list rfl ?_
      go_wp2_with fail
      first | exact ⟨_, rfl, rfl, Below.refl _ _⟩ | exact ⟨_, rfl, rfl, Below.refl _ _, hG⟩
    | 1, ho =>
      obtain rfl := Option.some.inj ho
      clear hsz
      refine wpOp_list rfl ?_
      have d0 := dep hd 0 6 (by kernel_rfl)
      simp only [rΦ] at d0
      have c0 := Bs.cell 0
      go_wp2_with fail
      first | exact ⟨_, rfl, rfl, Below.refl _ _⟩ | exact ⟨_, rfl, rfl, Below.refl _ _, hG⟩
    | 2, ho =>
      obtain rfl := Option.some.inj ho
      clear hsz
      refine wpOp_list rfl ?_
      have d0 := dep hd 1 7 (by kernel_rfl)
      simp only [rΦ] at d0
      have e0 := d0
      rw [Array.getD_eq_getD_getElem?] at e0
      go_wp2_with fail
      first | exact ⟨_, rfl, rfl, Below.refl _ _⟩ | exact ⟨_, rfl, rfl, Below.refl _ _, hG⟩
    | 3, ho =>
      obtain rfl := Option.some.inj ho
      have dg := dep hd 2 8 (by kernel_rfl)
      simp only [rΦ] at dg
      skip
      cases ha : s.att with
      | true =>
        rw [ha] at dg
        exact wpOp_off rfl (wanted_of rfl rfl (getq dg hsz (by decide)) rfl) ⟨_, rfl, (show s.att = false → _ from fun q => by rw [ha] at q; cases q), Below.refl _ _, hG⟩
      | false =>
        rw [ha] at dg
        refine wpOp_on rfl (wanted_of rfl rfl (getq dg hsz (by decide)) rfl) ?_
        clear hsz
        go_wp2_with fail
        first | exact ⟨_, rfl, (show s.att = false → _ from fun _ => rfl), Below.refl _ _⟩ | exact ⟨_, rfl, (show s.att = false → _ from fun _ => rfl), Below.refl _ _, hG⟩
    | 4, ho =>
      obtain rfl := Option.some.inj ho
      have dg := dep hd 2 8 (by kernel_rfl)
      simp only [rΦ] at dg
      have d0 := dep hd 3 9 (by kernel_rfl)
      simp only [rΦ] at d0
      have c0 := Bt.cell 0
      cases ha : s.att with
      | true =>
        rw [ha] at dg
        exact wpOp_off rfl (wanted_of rfl rfl (getq dg hsz (by decide)) rfl) ⟨_, rfl, (show s.att = false → _ from fun q => by rw [ha] at q; cases q), Below.refl _ _, hG⟩
      | false =>
        rw [ha] at dg
        refine wpOp_on rfl (wanted_of rfl rfl (getq dg hsz (by decide)) rfl) ?_
        replace d0 := d0 ha
        clear hsz
        go_wp2_with fail
        first | exact ⟨_, rfl, (show s.att = false → _ from fun _ => rfl), Below.refl _ _⟩ | exact ⟨_, rfl, (show s.att = false → _ from fun _ => rfl), Below.refl _ _, hG⟩
    | 5, ho =>
      obtain rfl := Option.some.inj ho
      clear hsz
      refine wpOp_list rfl ?_
      have d0 := dep hd 2 8 (by kernel_rfl)
      simp only [rΦ] at d0
      have d1 := dep hd 4 10 (by kernel_rfl)
      simp only [rΦ] at d1
      cases ha : s.att with
      | true =>
        rw [ha] at d0
        have e0 := d0
        rw [Array.getD_eq_getD_getElem?] at e0
        go_wp2_with fail
        first | (show _ = Value.bool (s.att || t.att); rw [ha]; rfl) | exact ⟨_, rfl, (show _ = Value.bool (s.att || t.att) by rw [ha]; rfl), Below.refl _ _⟩ | exact ⟨_, rfl, (show _ = Value.bool (s.att || t.att) by rw [ha]; rfl), Below.refl _ _, hG⟩
      | false =>
        rw [ha] at d0
        replace d1 := d1 ha
        have e0 := d0
        rw [Array.getD_eq_getD_getElem?] at e0
        have e1 := d1
        rw [Array.getD_eq_getD_getElem?] at e1
        go_wp2_with fail
        first | (show _ = Value.bool (s.att || t.att); rw [ha]; rfl) | exact ⟨_, rfl, (show _ = Value.bool (s.att || t.att) by rw [ha]; rfl), Below.refl _ _⟩ | exact ⟨_, rfl, (show _ = Value.bool (s.att || t.att) by rw [ha]; rfl), Below.refl _ _, hG⟩
    | 6, ho =>
      obtain rfl := Option.some.inj ho
      clear hsz
      refine wpOp_list rfl ?_
      go_wp2_with fail
      first | exact ⟨_, rfl, rfl, Below.refl _ _⟩ | exact ⟨_, rfl, rfl, Below.refl _ _, hG⟩
    | 7, ho =>
      obtain rfl := Option.some.inj ho
      clear hsz
      refine wpOp_list rfl ?_
      have d0 := dep hd 6 12 (by kernel_rfl)
      simp only [rΦ] at d0
      have c0 := Bs.cell 1
      go_wp2_with fail
      first | exact ⟨_, rfl, rfl, Below.refl _ _⟩ | exact ⟨_, rfl, rfl, Below.refl _ _, hG⟩
    | 8, ho =>
      obtain rfl := Option.some.inj ho
      clear hsz
      refine wpOp_list rfl ?_
      go_wp2_with fail
      first | exact ⟨_, rfl, rfl, Below.refl _ _⟩ | exact ⟨_, rfl, rfl, Below.refl _ _, hG⟩
    | 9, ho =>
      obtain rfl := Option.some.inj ho
      clear hsz
      refine wpOp_list rfl ?_
      have d0 := dep hd 8 14 (by kernel_rfl)
      simp only [rΦ] at d0
      have c0 := Bs.cell 4
      go_wp2_with fail
      first | exact ⟨_, rfl, rfl, Below.refl _ _⟩ | exact ⟨_, rfl, rfl, Below.refl _ _, hG⟩
    | 10, ho =>
      obtain rfl := Option.some.inj ho
      clear hsz
      refine wpOp_list rfl ?_
      have d0 := dep hd 9 15 (by kernel_rfl)
      simp only [rΦ] at d0
      have e0 := d0
      rw [Array.getD_eq_getD_getElem?] at e0
      go_wp2_with fail
      first | exact ⟨_, rfl, rfl, Below.refl _ _⟩ | exact ⟨_, rfl, rfl, Below.refl _ _, hG⟩
    | 11, ho =>
      obtain rfl := Option.some.inj ho
      have dg := dep hd 10 16 (by kernel_rfl)
      simp only [rΦ] at dg
      skip
      cases ha : s.inp with
      | true =>
        rw [ha] at dg
        exact wpOp_off rfl (wanted_of rfl rfl (getq dg hsz (by decide)) rfl) ⟨_, rfl, (show s.inp = false → _ from fun q => by rw [ha] at q; cases q), Below.refl _ _, hG⟩
      | false =>
        rw [ha] at dg
        refine wpOp_on rfl (wanted_of rfl rfl (getq dg hsz (by decide)) rfl) ?_
        clear hsz
        go_wp2_with fail
        first | exact ⟨_, rfl, (show s.inp = false → _ from fun _ => rfl), Below.refl _ _⟩ | exact ⟨_, rfl, (show s.inp = false → _ from fun _ => rfl), Below.refl _ _, hG⟩
    | 12, ho =>
      obtain rfl := Option.some.inj ho
      have dg := dep hd 10 16 (by kernel_rfl)
      simp only [rΦ] at dg
      have d0 := dep hd 11 17 (by kernel_rfl)
      simp only [rΦ] at d0
      have c0 := Bt.cell 4
      cases ha : s.inp with
      | true =>
        rw [ha] at dg
        exact wpOp_off rfl (wanted_of rfl rfl (getq dg hsz (by decide)) rfl) ⟨_, rfl, (show s.inp = false → _ from fun q => by rw [ha] at q; cases q), Below.refl _ _, hG⟩
      | false =>
        rw [ha] at dg
        refine wpOp_on rfl (wanted_of rfl rfl (getq dg hsz (by decide)) rfl) ?_
        replace d0 := d0 ha
        clear hsz
        go_wp2_with fail
        first | exact ⟨_, rfl, (show s.inp = false → _ from fun _ => rfl), Below.refl _ _⟩ | exact ⟨_, rfl, (show s.inp = false → _ from fun _ => rfl), Below.refl _ _, hG⟩
    | 13, ho =>
      obtain rfl := Option.some.inj ho
      clear hsz
      refine wpOp_list rfl ?_
      have d0 := dep hd 10 16 (by kernel_rfl)
      simp only [rΦ] at d0
      have d1 := dep hd 12 18 (by kernel_rfl)
      simp only [rΦ] at d1
      cases ha : s.inp with
      | true =>
        rw [ha] at d0
        have e0 := d0
        rw [Array.getD_eq_getD_getElem?] at e0
        go_wp2_with fail
        first | (show _ = Value.bool (s.inp || t.inp); rw [ha]; rfl) | exact ⟨_, rfl, (show _ = Value.bool (s.inp || t.inp) by rw [ha]; rfl), Below.refl _ _⟩ | exact ⟨_, rfl, (show _ = Value.bool (s.inp || t.inp) by rw [ha]; rfl), Below.refl _ _, hG⟩
      | false =>
        rw [ha] at d0
        replace d1 := d1 ha
        have e0 := d0
        rw [Array.getD_eq_getD_getElem?] at e0
        have e1 := d1
        rw [Array.getD_eq_getD_getElem?] at e1
        go_wp2_with fail
        first | (show _ = Value.bool (s.inp || t.inp); rw [ha]; rfl) | exact ⟨_, rfl, (show _ = Value.bool (s.inp || t.inp) by rw [ha]; rfl), Below.refl _ _⟩ | exact ⟨_, rfl, (show _ = Value.bool (s.inp || t.inp) by rw [ha]; rfl), Below.refl _ _, hG⟩
    | 14, ho =>
      obtain rfl := Option.some.inj ho
      clear hsz
      refine wpOp_list rfl ?_
      go_wp2_with fail
      first | exact ⟨_, rfl, rfl, Below.refl _ _⟩ | exact ⟨_, rfl, rfl, Below.refl _ _, hG⟩
    | 15, ho =>
      obtain rfl := Option.some.inj ho
      clear hsz
      refine wpOp_list rfl ?_
      have d0 := dep hd 14 20 (by kernel_rfl)
      simp only [rΦ] at d0
      have c0 := Bs.cell 5
      go_wp2_with fail
      first | exact ⟨_, rfl, rfl, Below.refl _ _⟩ | exact ⟨_, rfl, rfl, Below.refl _ _, hG⟩
    | 16, ho =>
      obtain rfl := Option.some.inj ho
      clear hsz
      refine wpOp_list rfl ?_
      go_wp2_with fail
      first | exact ⟨_, rfl, rfl, Below.refl _ _⟩ | exact ⟨_, rfl, rfl, Below.refl _ _, hG⟩
    | 17, ho =>
      obtain rfl := Option.some.inj ho
      clear hsz
      refine wpOp_list rfl ?_
      have d0 := dep hd 16 22 (by kernel_rfl)
      simp only [rΦ] at d0
      have c0 := Bs.cell 6
      go_wp2_with fail
      first | exact ⟨_, rfl, rfl, Below.refl _ _⟩ | exact ⟨_, rfl, rfl, Below.refl _ _, hG⟩
    | 18, ho =>
      obtain rfl := Option.some.inj ho
      clear hsz
      refine wpOp_list rfl ?_
      have d0 := dep hd 17 23 (by kernel_rfl)
      simp only [rΦ] at d0
      have e0 := d0
      rw [Array.getD_eq_getD_getElem?] at e0
      go_wp2_with fail
      refine (rRects_any hs.rA s.R.length hs.rc (s.R.flatMap rcC) w1 (by omega) ((hS.r.be hb).more hb.size) (rcC_one s.R)).mono ?_
      rintro e w2 ⟨A2, c2, rfl, hown, hb2⟩
      go_wp2_with fail
      first | exact ⟨_, rfl, ⟨A2, c2, rfl, own_lower hown (by have := hb.size; omega)⟩, Bs.be hb2, Bt.be hb2, Br.be hb2, bl_step hb hb2⟩ | exact ⟨_, rfl, ⟨A2, c2, rfl, own_lower hown (by have := hb.size; omega)⟩, hb2, Bs.be hb2, Bt.be hb2, Br.be hb2, bl_step hb hb2⟩
    | 19, ho =>
      obtain rfl := Option.some.inj ho
      clear hsz
      refine wpOp_list rfl ?_
      go_wp2_with fail
      first | exact ⟨_, rfl, rfl, Below.refl _ _⟩ | exact ⟨_, rfl, rfl, Below.refl _ _, hG⟩
    | 20, ho =>
      obtain rfl := Option.some.inj ho
      clear hsz
      refine wpOp_list rfl ?_
      have d0 := dep hd 19 25 (by kernel_rfl)
      simp only [rΦ] at d0
      have c0 := Bs.cell 7
      go_wp2_with fail
      first | exact ⟨_, rfl, rfl, Below.refl _ _⟩ | exact ⟨_, rfl, rfl, Below.refl _ _, hG⟩
    | 21, ho =>
      obtain rfl := Option.some.inj ho
      clear hsz
      refine wpOp_list rfl ?_
      have d0 := dep hd 20 26 (by kernel_rfl)
      simp only [rΦ] at d0
      have e0 := d0
      rw [Array.getD_eq_getD_getElem?] at e0
      go_wp2_with fail
      first | exact ⟨_, rfl, rfl, Below.refl _ _⟩ | exact ⟨_, rfl, rfl, Below.refl _ _, hG⟩
    | 22, ho =>
      obtain rfl := Option.some.inj ho
      have dg := dep hd 21 27 (by kernel_rfl)
      simp only [rΦ] at dg
      skip
      cases ha : s.ord with
      | true =>
        rw [ha] at dg
        exact wpOp_off rfl (wanted_of rfl rfl (getq dg hsz (by decide)) rfl) ⟨_, rfl, (show s.ord = false → _ from fun q => by rw [ha] at q; cases q), Below.refl _ _, hG⟩
      | false =>
        rw [ha] at dg
        refine wpOp_on rfl (wanted_of rfl rfl (getq dg hsz (by decide)) rfl) ?_
        clear hsz
        go_wp2_with fail
        first | exact ⟨_, rfl, (show s.ord = false → _ from fun _ => rfl), Below.refl _ _⟩ | exact ⟨_, rfl, (show s.ord = false → _ from fun _ => rfl), Below.refl _ _, hG⟩
    | 23, ho =>
      obtain rfl := Option.some.inj ho
      have dg := dep hd 21 27 (by kernel_rfl)
      simp only [rΦ] at dg
      have d0 := dep hd 22 28 (by kernel_rfl)
      simp only [rΦ] at d0
      have c0 := Bt.cell 7
      cases ha : s.ord with
      | true =>
        rw [ha] at dg
        exact wpOp_off rfl (wanted_of rfl rfl (getq dg hsz (by decide)) rfl) ⟨_, rfl, (show s.ord = false → _ from fun q => by rw [ha] at q; cases q), Below.refl _ _, hG⟩
      | false =>
        rw [ha] at dg
        refine wpOp_on rfl (wanted_of rfl rfl (getq dg hsz (by decide)) rfl) ?_
        replace d0 := d0 ha
        clear hsz
        go_wp2_with fail
        first | exact ⟨_, rfl, (show s.ord = false → _ from fun _ => rfl), Below.refl _ _⟩ | exact ⟨_, rfl, (show s.ord = false → _ from fun _ => rfl), Below.refl _ _, hG⟩
    | 24, ho =>
      obtain rfl := Option.some.inj ho
      clear hsz
      refine wpOp_list rfl ?_
      have d0 := dep hd 21 27 (by kernel_rfl)
      simp only [rΦ] at d0
      have d1 := dep hd 23 29 (by kernel_rfl)
      simp only [rΦ] at d1
      cases ha : s.ord with
      | true =>
        rw [ha] at d0
        have e0 := d0
        rw [Array.getD_eq_getD_getElem?] at e0
        go_wp2_with fail
        first | (show _ = Value.bool (s.ord || t.ord); rw [ha]; rfl) | exact ⟨_, rfl, (show _ = Value.bool (s.ord || t.ord) by rw [ha]; rfl), Below.refl _ _⟩ | exact ⟨_, rfl, (show _ = Value.bool (s.ord || t.ord) by rw [ha]; rfl), Below.refl _ _, hG⟩
      | false =>
        rw [ha] at d0
        replace d1 := d1 ha
        have e0 := d0
        rw [Array.getD_eq_getD_getElem?] at e0
        have e1 := d1
        rw [Array.getD_eq_getD_getElem?] at e1
        go_wp2_with fail
        first | (show _ = Value.bool (s.ord || t.ord); rw [ha]; rfl) | exact ⟨_, rfl, (show _ = Value.bool (s.ord || t.ord) by rw [ha]; rfl), Below.refl _ _⟩ | exact ⟨_, rfl, (show _ = Value.bool (s.ord || t.ord) by rw [ha]; rfl), Below.refl _ _, hG⟩
    | 25, ho =>
      obtain rfl := Option.some.inj ho
      clear hsz
      refine wpOp_list rfl ?_
      go_wp2_with fail
      first | exact ⟨_, rfl, rfl, Below.refl _ _⟩ | exact ⟨_, rfl, rfl, Below.refl _ _, hG⟩
    | 26, ho =>
      obtain rfl := Option.some.inj ho
      clear hsz
      refine wpOp_list rfl ?_
      have d0 := dep hd 25 31 (by kernel_rfl)
      simp only [rΦ] at d0
      have c0 := Bs.cell 8
      go_wp2_with fail
      first | exact ⟨_, rfl, rfl, Below.refl _ _⟩ | exact ⟨_, rfl, rfl, Below.refl _ _, hG⟩
    | 27, ho =>
      obtain rfl := Option.some.inj ho
      clear hsz
      refine wpOp_list rfl ?_
      have d0 := dep hd 26 32 (by kernel_rfl)
      simp only [rΦ] at d0
      have e0 := d0
      rw [Array.getD_eq_getD_getElem?] at e0
      go_wp2_with fail
      refine (rInts_any hs.oA s.O.length hs.oc (s.O.flatMap inC) w1 (by omega) ((hS.o.be hb).more hb.size) (inC_one s.O)).mono ?_
      rintro e w2 ⟨A2, c2, rfl, hown, hb2⟩
      go_wp2_with fail
      first | exact ⟨_, rfl, ⟨A2, c2, rfl, own_lower hown (by have := hb.size; omega)⟩, Bs.be hb2, Bt.be hb2, Br.be hb2, bl_step hb hb2⟩ | exact ⟨_, rfl, ⟨A2, c2, rfl, own_lower hown (by have := hb.size; omega)⟩, hb2, Bs.be hb2, Bt.be hb2, Br.be hb2, bl_step hb hb2⟩
    | 28, ho =>
      obtain rfl := Option.some.inj ho
      clear hsz
      refine wpOp_list rfl ?_
      have d5 := dep hd 5 11 (by kernel_rfl)
      simp only [rΦ] at d5
      have e5 := d5
      rw [Array.getD_eq_getD_getElem?] at e5
      have d7 := dep hd 7 13 (by kernel_rfl)
      simp only [rΦ] at d7
      have e7 := d7
      rw [Array.getD_eq_getD_getElem?] at e7
      have d13 := dep hd 13 19 (by kernel_rfl)
      simp only [rΦ] at d13
      have e13 := d13
      rw [Array.getD_eq_getD_getElem?] at e13
      have d15 := dep hd 15 21 (by kernel_rfl)
      simp only [rΦ] at d15
      have e15 := d15
      rw [Array.getD_eq_getD_getElem?] at e15
      have d24 := dep hd 24 30 (by kernel_rfl)
      simp only [rΦ] at d24
      have e24 := d24
      rw [Array.getD_eq_getD_getElem?] at e24
      obtain ⟨A18, c18, d18, R18⟩ := dep hd 18 24 (by kernel_rfl)
      have e18 := d18
      rw [Array.getD_eq_getD_getElem?] at e18
      obtain ⟨A27, c27, d27, R27⟩ := dep hd 27 33 (by kernel_rfl)
      have e27 := d27
      rw [Array.getD_eq_getD_getElem?] at e27
      go_wp2_with fail
      have H : StO w1 w.heap.size { att := s.att || t.att, buf := s.buf, D := [], F := [], inp := s.inp || t.inp, all := s.all, R := s.R, ord := s.ord || t.ord, O := s.O, P := [] } ⟨none, 0, none, 0, A18, c18, A27, c27, none, 0⟩ := ⟨World.ownsRow_nil _ _ _ _, World.ownsRow_nil _ _ _ _, R18, R27, World.ownsRow_nil _ _ _ _⟩
      first | exact ⟨_, rfl, ⟨_, rfl, H⟩, Below.refl _ _⟩ | exact ⟨_, rfl, ⟨_, rfl, H⟩, Below.refl _ _, hG⟩
    | 29, ho =>
      obtain rfl := Option.some.inj ho
      clear hsz
      refine wpOp_list rfl ?_
      go_wp2_with fail
      exact ⟨_, rfl, ⟨_, rfl, Br.lt, Bk.new _ _ _⟩, bl_alloc (Below.refl _ _) _, Bs.al _, Bt.al _, Br.al _, bl_alloc hb _⟩
    | i + 30, ho =>
      rcases i with _ | i
      · exact absurd rfl hne
      · simp at ho
end Go.Proofs.Ytnboncbekcodnaa.St
