/- The walk: Merge (begun). -/
import Derived.Test.YtnboncbekcodnaaSt5
import Derived.Test.YtnboncbekcodnaaStV
import Derived.Deep.RegionLaw
import Derived.Deep.RegionWith
import Derived.Deep.Cut
import Derived.Test.YtnboncbekcodnaaGrow
set_option linter.unusedVariables false
set_option linter.unusedSimpArgs false
namespace Go.Proofs.Ytnboncbekcodnaa.St
open Go.RowKit Go.Proofs.Ytnboncbekcodnaa.Kit Go.Proofs.Ytnboncbekcodnaa.Grow

def zS : Stt := { att := false, buf := 0, D := [], F := [], inp := false, all := false, R := [], ord := false, O := [], P := [] }
def zH : Hd := { dA := none, dc := 0, fA := none, fc := 0, rA := none, rc := 0, oA := none, oc := 0, pA := none, pc := 0 }

theorem own_be {w w' : World} {base : Nat} {e : TypeId} {sz : Nat} {v : Value} {n : Nat} {xs : List Value} (h : w.ownsRow base e sz v n xs) (hb : Below w.heap.size w w') : w'.ownsRow base e sz v n xs := by
  refine ⟨h.1, ?_⟩
  rcases h.2 with h2 | ⟨g, cap, cur, h1, h2, h3, h4⟩
  · exact .inl h2
  · exact .inr ⟨g, cap, cur, h1, h2, (hb.block g (Array.getElem?_eq_some_iff.1 h3).1).trans h3, h4⟩
theorem own_lower {w : World} {base base' : Nat} {e : TypeId} {sz : Nat} {v : Value} {n : Nat} {xs : List Value} (h : w.ownsRow base e sz v n xs) (hb : base' ≤ base) : w.ownsRow base' e sz v n xs := by
  refine ⟨h.1, ?_⟩
  rcases h.2 with h2 | ⟨g, cap, cur, h1, h2, h3⟩
  · exact .inl h2
  · exact .inr ⟨g, cap, cur, h1, by omega, h3⟩
/-- A state whose lists are rows of the call's own. -/
structure StO (w : World) (B : Nat) (t : Stt) (h : Hd) : Prop where
  d : w.ownsRow B 47 4 (.slice h.dA t.D.length h.dc) t.D.length (t.D.flatMap rcC)
  f : w.ownsRow B 3 1 (.slice h.fA t.F.length h.fc) t.F.length (t.F.flatMap inC)
  r : w.ownsRow B 47 4 (.slice h.rA t.R.length h.rc) t.R.length (t.R.flatMap rcC)
  o : w.ownsRow B 3 1 (.slice h.oA t.O.length h.oc) t.O.length (t.O.flatMap inC)
  p : w.ownsRow B 24 3 (.slice h.pA t.P.length h.pc) t.P.length (t.P.flatMap chC)
theorem StO.be {w w' : World} {B : Nat} {t : Stt} {h : Hd} (s : StO w B t h) (hb : Below w.heap.size w w') : StO w' B t h := ⟨own_be s.d hb, own_be s.f hb, own_be s.r hb, own_be s.o hb, own_be s.p hb⟩
theorem own_set {w : World} {base : Nat} {e t : TypeId} {sz n g : Nat} {v : Value} {xs : List Value} {cs : Array Value} (h : w.ownsRow base e sz v n xs) (hb : Bk w g t cs) (hne : e ≠ t) (j : Nat) (u : Value) : (w.setCell ⟨g, j, none⟩ u).ownsRow base e sz v n xs := by
  refine ⟨h.1, ?_⟩
  rcases h.2 with h2 | ⟨g', cap, cur, h1, h2, h3, h4⟩
  · exact .inl h2
  · refine .inr ⟨g', cap, cur, h1, h2, ?_, h4⟩
    rw [Below.heap_setCell w ⟨g, j, none⟩ u g' (fun he => ?_)]
    · exact h3
    · have hg : g' = g := he
      subst hg
      unfold Bk at hb
      rw [h3] at hb
      injection hb with hb
      injection hb with _ hb
      exact hne hb
theorem StO.set {w : World} {B g j : Nat} {t : Stt} {h : Hd} {cs : Array Value} {u : Value} (s : StO w B t h) (hb : Bk w g 33 cs) : StO (w.setCell ⟨g, j, none⟩ u) B t h :=
  ⟨own_set s.d hb (by decide) j u, own_set s.f hb (by decide) j u, own_set s.r hb (by decide) j u, own_set s.o hb (by decide) j u, own_set s.p hb (by decide) j u⟩
theorem bk_st10 {w : World} {g : Nat} {t : TypeId} {x0 x1 x2 x3 x4 x5 x6 x7 x8 x9 : Value} (h : Bk w g t #[x0, x1, x2, x3, x4, x5, x6, x7, x8, x9]) (u0 u1 u2 u3 u4 u5 u6 u7 u8 u9 : Value) : Bk ((((((((((w.setCell ⟨g, 0, none⟩ u0).setCell ⟨g, 1, none⟩ u1).setCell ⟨g, 2, none⟩ u2).setCell ⟨g, 3, none⟩ u3).setCell ⟨g, 4, none⟩ u4).setCell ⟨g, 5, none⟩ u5).setCell ⟨g, 6, none⟩ u6).setCell ⟨g, 7, none⟩ u7).setCell ⟨g, 8, none⟩ u8).setCell ⟨g, 9, none⟩ u9) g t #[u0, u1, u2, u3, u4, u5, u6, u7, u8, u9] := by
  have h0 : Bk (w.setCell ⟨g, 0, none⟩ u0) g t #[u0, x1, x2, x3, x4, x5, x6, x7, x8, x9] := by
    have := Bk.st h 0 u0
    simpa only [List.setIfInBounds_toArray, List.set_cons_succ, List.set_cons_zero] using this
  have h1 : Bk ((w.setCell ⟨g, 0, none⟩ u0).setCell ⟨g, 1, none⟩ u1) g t #[u0, u1, x2, x3, x4, x5, x6, x7, x8, x9] := by
    have := Bk.st h0 1 u1
    simpa only [List.setIfInBounds_toArray, List.set_cons_succ, List.set_cons_zero] using this
  have h2 : Bk (((w.setCell ⟨g, 0, none⟩ u0).setCell ⟨g, 1, none⟩ u1).setCell ⟨g, 2, none⟩ u2) g t #[u0, u1, u2, x3, x4, x5, x6, x7, x8, x9] := by
    have := Bk.st h1 2 u2
    simpa only [List.setIfInBounds_toArray, List.set_cons_succ, List.set_cons_zero] using this
  have h3 : Bk ((((w.setCell ⟨g, 0, none⟩ u0).setCell ⟨g, 1, none⟩ u1).setCell ⟨g, 2, none⟩ u2).setCell ⟨g, 3, none⟩ u3) g t #[u0, u1, u2, u3, x4, x5, x6, x7, x8, x9] := by
    have := Bk.st h2 3 u3
    simpa only [List.setIfInBounds_toArray, List.set_cons_succ, List.set_cons_zero] using this
  have h4 : Bk (((((w.setCell ⟨g, 0, none⟩ u0).setCell ⟨g, 1, none⟩ u1).setCell ⟨g, 2, none⟩ u2).setCell ⟨g, 3, none⟩ u3).setCell ⟨g, 4, none⟩ u4) g t #[u0, u1, u2, u3, u4, x5, x6, x7, x8, x9] := by
    have := Bk.st h3 4 u4
    simpa only [List.setIfInBounds_toArray, List.set_cons_succ, List.set_cons_zero] using this
  have h5 : Bk ((((((w.setCell ⟨g, 0, none⟩ u0).setCell ⟨g, 1, none⟩ u1).setCell ⟨g, 2, none⟩ u2).setCell ⟨g, 3, none⟩ u3).setCell ⟨g, 4, none⟩ u4).setCell ⟨g, 5, none⟩ u5) g t #[u0, u1, u2, u3, u4, u5, x6, x7, x8, x9] := by
    have := Bk.st h4 5 u5
    simpa only [List.setIfInBounds_toArray, List.set_cons_succ, List.set_cons_zero] using this
  have h6 : Bk (((((((w.setCell ⟨g, 0, none⟩ u0).setCell ⟨g, 1, none⟩ u1).setCell ⟨g, 2, none⟩ u2).setCell ⟨g, 3, none⟩ u3).setCell ⟨g, 4, none⟩ u4).setCell ⟨g, 5, none⟩ u5).setCell ⟨g, 6, none⟩ u6) g t #[u0, u1, u2, u3, u4, u5, u6, x7, x8, x9] := by
    have := Bk.st h5 6 u6
    simpa only [List.setIfInBounds_toArray, List.set_cons_succ, List.set_cons_zero] using this
  have h7 : Bk ((((((((w.setCell ⟨g, 0, none⟩ u0).setCell ⟨g, 1, none⟩ u1).setCell ⟨g, 2, none⟩ u2).setCell ⟨g, 3, none⟩ u3).setCell ⟨g, 4, none⟩ u4).setCell ⟨g, 5, none⟩ u5).setCell ⟨g, 6, none⟩ u6).setCell ⟨g, 7, none⟩ u7) g t #[u0, u1, u2, u3, u4, u5, u6, u7, x8, x9] := by
    have := Bk.st h6 7 u7
    simpa only [List.setIfInBounds_toArray, List.set_cons_succ, List.set_cons_zero] using this
  have h8 : Bk (((((((((w.setCell ⟨g, 0, none⟩ u0).setCell ⟨g, 1, none⟩ u1).setCell ⟨g, 2, none⟩ u2).setCell ⟨g, 3, none⟩ u3).setCell ⟨g, 4, none⟩ u4).setCell ⟨g, 5, none⟩ u5).setCell ⟨g, 6, none⟩ u6).setCell ⟨g, 7, none⟩ u7).setCell ⟨g, 8, none⟩ u8) g t #[u0, u1, u2, u3, u4, u5, u6, u7, u8, x9] := by
    have := Bk.st h7 8 u8
    simpa only [List.setIfInBounds_toArray, List.set_cons_succ, List.set_cons_zero] using this
  have h9 : Bk ((((((((((w.setCell ⟨g, 0, none⟩ u0).setCell ⟨g, 1, none⟩ u1).setCell ⟨g, 2, none⟩ u2).setCell ⟨g, 3, none⟩ u3).setCell ⟨g, 4, none⟩ u4).setCell ⟨g, 5, none⟩ u5).setCell ⟨g, 6, none⟩ u6).setCell ⟨g, 7, none⟩ u7).setCell ⟨g, 8, none⟩ u8).setCell ⟨g, 9, none⟩ u9) g t #[u0, u1, u2, u3, u4, u5, u6, u7, u8, u9] := by
    have := Bk.st h8 9 u9
    simpa only [List.setIfInBounds_toArray, List.set_cons_succ, List.set_cons_zero] using this
  exact h9
theorem bk_ot10 {w : World} {g b : Nat} {t : TypeId} {cs : Array Value} (h : Bk w g t cs) (hp : g ≠ b) (u0 u1 u2 u3 u4 u5 u6 u7 u8 u9 : Value) : Bk ((((((((((w.setCell ⟨b, 0, none⟩ u0).setCell ⟨b, 1, none⟩ u1).setCell ⟨b, 2, none⟩ u2).setCell ⟨b, 3, none⟩ u3).setCell ⟨b, 4, none⟩ u4).setCell ⟨b, 5, none⟩ u5).setCell ⟨b, 6, none⟩ u6).setCell ⟨b, 7, none⟩ u7).setCell ⟨b, 8, none⟩ u8).setCell ⟨b, 9, none⟩ u9) g t cs :=
  ((((((((((h.ot (p := ⟨b, 0, none⟩) hp u0).ot (p := ⟨b, 1, none⟩) hp u1).ot (p := ⟨b, 2, none⟩) hp u2).ot (p := ⟨b, 3, none⟩) hp u3).ot (p := ⟨b, 4, none⟩) hp u4).ot (p := ⟨b, 5, none⟩) hp u5).ot (p := ⟨b, 6, none⟩) hp u6).ot (p := ⟨b, 7, none⟩) hp u7).ot (p := ⟨b, 8, none⟩) hp u8).ot (p := ⟨b, 9, none⟩) hp u9)
theorem StO.set10 {w : World} {B g : Nat} {t : Stt} {h : Hd} {x0 x1 x2 x3 x4 x5 x6 x7 x8 x9 : Value} (s : StO w B t h) (hb : Bk w g 33 #[x0, x1, x2, x3, x4, x5, x6, x7, x8, x9]) (u0 u1 u2 u3 u4 u5 u6 u7 u8 u9 : Value) : StO ((((((((((w.setCell ⟨g, 0, none⟩ u0).setCell ⟨g, 1, none⟩ u1).setCell ⟨g, 2, none⟩ u2).setCell ⟨g, 3, none⟩ u3).setCell ⟨g, 4, none⟩ u4).setCell ⟨g, 5, none⟩ u5).setCell ⟨g, 6, none⟩ u6).setCell ⟨g, 7, none⟩ u7).setCell ⟨g, 8, none⟩ u8).setCell ⟨g, 9, none⟩ u9) B t h := by
  have b0 := hb
  have s1 := s.set (j := 0) (u := u0) b0
  have b1 := b0.st 0 u0
  have s2 := s1.set (j := 1) (u := u1) b1
  have b2 := b1.st 1 u1
  have s3 := s2.set (j := 2) (u := u2) b2
  have b3 := b2.st 2 u2
  have s4 := s3.set (j := 3) (u := u3) b3
  have b4 := b3.st 3 u3
  have s5 := s4.set (j := 4) (u := u4) b4
  have b5 := b4.st 4 u4
  have s6 := s5.set (j := 5) (u := u5) b5
  have b6 := b5.st 5 u5
  have s7 := s6.set (j := 6) (u := u6) b6
  have b7 := b6.st 6 u6
  have s8 := s7.set (j := 7) (u := u7) b7
  have b8 := b7.st 7 u7
  have s9 := s8.set (j := 8) (u := u8) b8
  have b9 := b8.st 8 u8
  have s10 := s9.set (j := 9) (u := u9) b9
  have b10 := b9.st 9 u9
  exact s10
theorem bl_set10 {w w0 : World} {g : Nat} (h : Below w0.heap.size w0 w) (hg : w0.heap.size ≤ g) (u0 u1 u2 u3 u4 u5 u6 u7 u8 u9 : Value) : Below w0.heap.size w0 ((((((((((w.setCell ⟨g, 0, none⟩ u0).setCell ⟨g, 1, none⟩ u1).setCell ⟨g, 2, none⟩ u2).setCell ⟨g, 3, none⟩ u3).setCell ⟨g, 4, none⟩ u4).setCell ⟨g, 5, none⟩ u5).setCell ⟨g, 6, none⟩ u6).setCell ⟨g, 7, none⟩ u7).setCell ⟨g, 8, none⟩ u8).setCell ⟨g, 9, none⟩ u9) :=
  (bl_set (bl_set (bl_set (bl_set (bl_set (bl_set (bl_set (bl_set (bl_set (bl_set h (p := ⟨g, 0, none⟩) hg u0) (p := ⟨g, 1, none⟩) hg u1) (p := ⟨g, 2, none⟩) hg u2) (p := ⟨g, 3, none⟩) hg u3) (p := ⟨g, 4, none⟩) hg u4) (p := ⟨g, 5, none⟩) hg u5) (p := ⟨g, 6, none⟩) hg u6) (p := ⟨g, 7, none⟩) hg u7) (p := ⟨g, 8, none⟩) hg u8) (p := ⟨g, 9, none⟩) hg u9)

/-- what the operations of Merge's first region yield -/
def mΦ (B : Nat) (s t : Stt) (hs ht : Hd) : Nat → Value → World → Prop
  | 0, v, _ => v = .pointer (some ⟨B, 0, none⟩)
  | 1, v, _ => v = .bool s.att
  | 2, v, _ => v = .pointer (some ⟨B, 1, none⟩)
  | 3, v, _ => v = .int .i64 s.buf
  | 4, v, _ => v = .pointer (some ⟨B, 2, none⟩)
  | 5, v, _ => v = .slice hs.dA s.D.length hs.dc
  | 6, v, _ => v = .pointer (some ⟨B + 1, 2, none⟩)
  | 7, v, _ => v = .slice ht.dA t.D.length ht.dc
  | 8, v, w => ∃ g, v = .slice (some ⟨g, 0, none⟩) 2 2 ∧ B ≤ g ∧ Bk w g 30 #[.slice hs.dA s.D.length hs.dc, .slice ht.dA t.D.length ht.dc]
  | 9, v, w => ∃ A c, v = .slice A (s.D ++ t.D).length c ∧ w.ownsRow B 47 4 (.slice A (s.D ++ t.D).length c) (s.D ++ t.D).length ((s.D ++ t.D).flatMap rcC)
  | 10, v, _ => v = .pointer (some ⟨B, 3, none⟩)
  | 11, v, _ => v = .slice hs.fA s.F.length hs.fc
  | 12, v, _ => v = .pointer (some ⟨B + 1, 3, none⟩)
  | 13, v, _ => v = .slice ht.fA t.F.length ht.fc
  | 14, v, w => ∃ g, v = .slice (some ⟨g, 0, none⟩) 2 2 ∧ B ≤ g ∧ Bk w g 31 #[.slice hs.fA s.F.length hs.fc, .slice ht.fA t.F.length ht.fc]
  | 15, v, w => ∃ A c, v = .slice A (s.F ++ t.F).length c ∧ w.ownsRow B 3 1 (.slice A (s.F ++ t.F).length c) (s.F ++ t.F).length ((s.F ++ t.F).flatMap inC)
  | 16, v, _ => v = .pointer (some ⟨B, 4, none⟩)
  | 17, v, _ => v = .bool s.inp
  | 18, v, _ => v = .pointer (some ⟨B, 5, none⟩)
  | 19, v, _ => v = .bool s.all
  | 20, v, _ => v = .pointer (some ⟨B, 6, none⟩)
  | 21, v, _ => v = .slice hs.rA s.R.length hs.rc
  | 22, v, w => ∃ g, v = .slice (some ⟨g, 0, none⟩) 1 1 ∧ B ≤ g ∧ Bk w g 30 #[.slice hs.rA s.R.length hs.rc]
  | 23, v, w => ∃ A c, v = .slice A s.R.length c ∧ w.ownsRow B 47 4 (.slice A s.R.length c) s.R.length (s.R.flatMap rcC)
  | 24, v, _ => v = .pointer (some ⟨B, 7, none⟩)
  | 25, v, _ => v = .bool s.ord
  | 26, v, _ => v = .pointer (some ⟨B, 8, none⟩)
  | 27, v, _ => v = .slice hs.oA s.O.length hs.oc
  | 28, v, w => ∃ g, v = .slice (some ⟨g, 0, none⟩) 1 1 ∧ B ≤ g ∧ Bk w g 31 #[.slice hs.oA s.O.length hs.oc]
  | 29, v, w => ∃ A c, v = .slice A s.O.length c ∧ w.ownsRow B 3 1 (.slice A s.O.length c) s.O.length (s.O.flatMap inC)
  | 30, v, _ => v = .pointer (some ⟨B, 9, none⟩)
  | 31, v, _ => v = .slice hs.pA s.P.length hs.pc
  | 32, v, _ => v = .pointer (some ⟨B + 1, 9, none⟩)
  | 33, v, _ => v = .slice ht.pA t.P.length ht.pc
  | 34, v, w => ∃ A c, v = .slice A (t.P.foldl putC s.P).length c ∧ w.ownsRow B 24 3 (.slice A (t.P.foldl putC s.P).length c) (t.P.foldl putC s.P).length ((t.P.foldl putC s.P).flatMap chC)
  | 35, v, w => ∃ h, v = .agg #[.bool s.att, .int .i64 s.buf, .slice h.dA (s.D ++ t.D).length h.dc, .slice h.fA (s.F ++ t.F).length h.fc, .bool s.inp, .bool s.all, .slice h.rA s.R.length h.rc, .bool s.ord, .slice h.oA s.O.length h.oc, .slice h.pA (t.P.foldl putC s.P).length h.pc] ∧ StO w B { att := s.att, buf := s.buf, D := s.D ++ t.D, F := s.F ++ t.F, inp := s.inp, all := s.all, R := s.R, ord := s.ord, O := s.O, P := t.P.foldl putC s.P } h
  | 36, v, w => ∃ g, v = .pointer (some ⟨g, 0, none⟩) ∧ B + 3 ≤ g ∧ Bk w g 33 (stV zS zH)
  | _, _, _ => True

theorem mΦ_stab (B : Nat) (s t : Stt) (hs ht : Hd) (j : Nat) (v : Value) (w w' : World) (h : mΦ B s t hs ht j v w) (hb : Below w.heap.size w w') : mΦ B s t hs ht j v w' := by
  unfold mΦ at h ⊢
  split at h
  all_goals first
    | exact h
    | exact trivial
    | (obtain ⟨g, e, hg, hB⟩ := h; exact ⟨g, e, hg, hB.be hb⟩)
    | (obtain ⟨A, c, e, hB⟩ := h; exact ⟨A, c, e, own_be hB hb⟩)
    | (obtain ⟨h', e, hB⟩ := h; exact ⟨h', e, hB.be hb⟩)

theorem lit68 (a : Array Value) (h : a.size = 68) : ∃ x0 x1 x2 x3 x4 x5 x6 x7 x8 x9 x10 x11 x12 x13 x14 x15 x16 x17 x18 x19 x20 x21 x22 x23 x24 x25 x26 x27 x28 x29 x30 x31 x32 x33 x34 x35 x36 x37 x38 x39 x40 x41 x42 x43 x44 x45 x46 x47 x48 x49 x50 x51 x52 x53 x54 x55 x56 x57 x58 x59 x60 x61 x62 x63 x64 x65 x66 x67 : Value, a = #[x0, x1, x2, x3, x4, x5, x6, x7, x8, x9, x10, x11, x12, x13, x14, x15, x16, x17, x18, x19, x20, x21, x22, x23, x24, x25, x26, x27, x28, x29, x30, x31, x32, x33, x34, x35, x36, x37, x38, x39, x40, x41, x42, x43, x44, x45, x46, x47, x48, x49, x50, x51, x52, x53, x54, x55, x56, x57, x58, x59, x60, x61, x62, x63, x64, x65, x66, x67] := by
  obtain ⟨l⟩ := a
  simp only [List.size_toArray] at h
  rcases l with _ | ⟨x0, l⟩
  · simp at h
  simp only [List.length_cons] at h
  rcases l with _ | ⟨x1, l⟩
  · simp at h
  simp only [List.length_cons] at h
  rcases l with _ | ⟨x2, l⟩
  · simp at h
  simp only [List.length_cons] at h
  rcases l with _ | ⟨x3, l⟩
  · simp at h
  simp only [List.length_cons] at h
  rcases l with _ | ⟨x4, l⟩
  · simp at h
  simp only [List.length_cons] at h
  rcases l with _ | ⟨x5, l⟩
  · simp at h
  simp only [List.length_cons] at h
  rcases l with _ | ⟨x6, l⟩
  · simp at h
  simp only [List.length_cons] at h
  rcases l with _ | ⟨x7, l⟩
  · simp at h
  simp only [List.length_cons] at h
  rcases l with _ | ⟨x8, l⟩
  · simp at h
  simp only [List.length_cons] at h
  rcases l with _ | ⟨x9, l⟩
  · simp at h
  simp only [List.length_cons] at h
  rcases l with _ | ⟨x10, l⟩
  · simp at h
  simp only [List.length_cons] at h
  rcases l with _ | ⟨x11, l⟩
  · simp at h
  simp only [List.length_cons] at h
  rcases l with _ | ⟨x12, l⟩
  · simp at h
  simp only [List.length_cons] at h
  rcases l with _ | ⟨x13, l⟩
  · simp at h
  simp only [List.length_cons] at h
  rcases l with _ | ⟨x14, l⟩
  · simp at h
  simp only [List.length_cons] at h
  rcases l with _ | ⟨x15, l⟩
  · simp at h
  simp only [List.length_cons] at h
  rcases l with _ | ⟨x16, l⟩
  · simp at h
  simp only [List.length_cons] at h
  rcases l with _ | ⟨x17, l⟩
  · simp at h
  simp only [List.length_cons] at h
  rcases l with _ | ⟨x18, l⟩
  · simp at h
  simp only [List.length_cons] at h
  rcases l with _ | ⟨x19, l⟩
  · simp at h
  simp only [List.length_cons] at h
  rcases l with _ | ⟨x20, l⟩
  · simp at h
  simp only [List.length_cons] at h
  rcases l with _ | ⟨x21, l⟩
  · simp at h
  simp only [List.length_cons] at h
  rcases l with _ | ⟨x22, l⟩
  · simp at h
  simp only [List.length_cons] at h
  rcases l with _ | ⟨x23, l⟩
  · simp at h
  simp only [List.length_cons] at h
  rcases l with _ | ⟨x24, l⟩
  · simp at h
  simp only [List.length_cons] at h
  rcases l with _ | ⟨x25, l⟩
  · simp at h
  simp only [List.length_cons] at h
  rcases l with _ | ⟨x26, l⟩
  · simp at h
  simp only [List.length_cons] at h
  rcases l with _ | ⟨x27, l⟩
  · simp at h
  simp only [List.length_cons] at h
  rcases l with _ | ⟨x28, l⟩
  · simp at h
  simp only [List.length_cons] at h
  rcases l with _ | ⟨x29, l⟩
  · simp at h
  simp only [List.length_cons] at h
  rcases l with _ | ⟨x30, l⟩
  · simp at h
  simp only [List.length_cons] at h
  rcases l with _ | ⟨x31, l⟩
  · simp at h
  simp only [List.length_cons] at h
  rcases l with _ | ⟨x32, l⟩
  · simp at h
  simp only [List.length_cons] at h
  rcases l with _ | ⟨x33, l⟩
  · simp at h
  simp only [List.length_cons] at h
  rcases l with _ | ⟨x34, l⟩
  · simp at h
  simp only [List.length_cons] at h
  rcases l with _ | ⟨x35, l⟩
  · simp at h
  simp only [List.length_cons] at h
  rcases l with _ | ⟨x36, l⟩
  · simp at h
  simp only [List.length_cons] at h
  rcases l with _ | ⟨x37, l⟩
  · simp at h
  simp only [List.length_cons] at h
  rcases l with _ | ⟨x38, l⟩
  · simp at h
  simp only [List.length_cons] at h
  rcases l with _ | ⟨x39, l⟩
  · simp at h
  simp only [List.length_cons] at h
  rcases l with _ | ⟨x40, l⟩
  · simp at h
  simp only [List.length_cons] at h
  rcases l with _ | ⟨x41, l⟩
  · simp at h
  simp only [List.length_cons] at h
  rcases l with _ | ⟨x42, l⟩
  · simp at h
  simp only [List.length_cons] at h
  rcases l with _ | ⟨x43, l⟩
  · simp at h
  simp only [List.length_cons] at h
  rcases l with _ | ⟨x44, l⟩
  · simp at h
  simp only [List.length_cons] at h
  rcases l with _ | ⟨x45, l⟩
  · simp at h
  simp only [List.length_cons] at h
  rcases l with _ | ⟨x46, l⟩
  · simp at h
  simp only [List.length_cons] at h
  rcases l with _ | ⟨x47, l⟩
  · simp at h
  simp only [List.length_cons] at h
  rcases l with _ | ⟨x48, l⟩
  · simp at h
  simp only [List.length_cons] at h
  rcases l with _ | ⟨x49, l⟩
  · simp at h
  simp only [List.length_cons] at h
  rcases l with _ | ⟨x50, l⟩
  · simp at h
  simp only [List.length_cons] at h
  rcases l with _ | ⟨x51, l⟩
  · simp at h
  simp only [List.length_cons] at h
  rcases l with _ | ⟨x52, l⟩
  · simp at h
  simp only [List.length_cons] at h
  rcases l with _ | ⟨x53, l⟩
  · simp at h
  simp only [List.length_cons] at h
  rcases l with _ | ⟨x54, l⟩
  · simp at h
  simp only [List.length_cons] at h
  rcases l with _ | ⟨x55, l⟩
  · simp at h
  simp only [List.length_cons] at h
  rcases l with _ | ⟨x56, l⟩
  · simp at h
  simp only [List.length_cons] at h
  rcases l with _ | ⟨x57, l⟩
  · simp at h
  simp only [List.length_cons] at h
  rcases l with _ | ⟨x58, l⟩
  · simp at h
  simp only [List.length_cons] at h
  rcases l with _ | ⟨x59, l⟩
  · simp at h
  simp only [List.length_cons] at h
  rcases l with _ | ⟨x60, l⟩
  · simp at h
  simp only [List.length_cons] at h
  rcases l with _ | ⟨x61, l⟩
  · simp at h
  simp only [List.length_cons] at h
  rcases l with _ | ⟨x62, l⟩
  · simp at h
  simp only [List.length_cons] at h
  rcases l with _ | ⟨x63, l⟩
  · simp at h
  simp only [List.length_cons] at h
  rcases l with _ | ⟨x64, l⟩
  · simp at h
  simp only [List.length_cons] at h
  rcases l with _ | ⟨x65, l⟩
  · simp at h
  simp only [List.length_cons] at h
  rcases l with _ | ⟨x66, l⟩
  · simp at h
  simp only [List.length_cons] at h
  rcases l with _ | ⟨x67, l⟩
  · simp at h
  simp only [List.length_cons] at h
  obtain rfl : l = [] := List.eq_nil_of_length_eq_zero (by omega)
  exact ⟨x0, x1, x2, x3, x4, x5, x6, x7, x8, x9, x10, x11, x12, x13, x14, x15, x16, x17, x18, x19, x20, x21, x22, x23, x24, x25, x26, x27, x28, x29, x30, x31, x32, x33, x34, x35, x36, x37, x38, x39, x40, x41, x42, x43, x44, x45, x46, x47, x48, x49, x50, x51, x52, x53, x54, x55, x56, x57, x58, x59, x60, x61, x62, x63, x64, x65, x66, x67, rfl⟩
theorem sto_cp {w : World} {B : Nat} {t t' : Stt} {h : Hd} (s : StO w B t h) (e1 : t'.D = t.D) (e2 : t'.F = t.F) (e3 : t'.R = t.R) (e4 : t'.O = t.O) (e5 : t'.P = t.P) : StO w B t' h :=
  ⟨by rw [e1]; exact s.d, by rw [e2]; exact s.f, by rw [e3]; exact s.r, by rw [e4]; exact s.o, by rw [e5]; exact s.p⟩
theorem sto_dr {w : World} {B : Nat} {t : Stt} {h : Hd} (s : StO w B t h) : StO w.drew B t h := ⟨s.d, s.f, s.r, s.o, s.p⟩
theorem all1R {W : World} {B g : Nat} (A : Option Addr) (l : List Rc) (c : Nat) (hr : Rds W B 4 A l.length (l.flatMap rcC)) (hB : B ≤ W.heap.size) (hbk : Bk W g 30 #[.slice A l.length c]) (hl : l.length ≤ 1000) :
    Calls Try.prog 27 #[.slice (some ⟨g, 0, none⟩) 1 1] W fun e w' => ∃ A' c', e = .returned (.slice A' l.length c') ∧ w'.ownsRow B 47 4 (.slice A' l.length c') l.length (l.flatMap rcC) ∧ Below W.heap.size W w' := by
  refine (allRect (some ⟨g, 0, none⟩) 1 [⟨A, l.length, c, l.flatMap rcC⟩] _ (Rds.block hbk rfl hbk.lt) (by intro p hp; simp at hp; subst hp; exact hr.more hB) (by intro p hp; simp at hp; subst hp; exact rcC_one l) (by simp) (by simp [total]; omega)).mono ?_
  rintro e w4 ⟨v4, rfl, hown, hb4⟩
  have hown4 : w4.ownsRow B 47 4 v4 l.length (l.flatMap rcC) := own_low (by simpa [total, cat] using hown) hB
  obtain ⟨A4, c4, rfl, _⟩ := own_form hown4
  exact ⟨_, _, rfl, hown4, hb4⟩
theorem all1I {W : World} {B g : Nat} (A : Option Addr) (l : List Int) (c : Nat) (hr : Rds W B 1 A l.length (l.flatMap inC)) (hB : B ≤ W.heap.size) (hbk : Bk W g 31 #[.slice A l.length c]) (hl : l.length ≤ 1000) :
    Calls Try.prog 28 #[.slice (some ⟨g, 0, none⟩) 1 1] W fun e w' => ∃ A' c', e = .returned (.slice A' l.length c') ∧ w'.ownsRow B 3 1 (.slice A' l.length c') l.length (l.flatMap inC) ∧ Below W.heap.size W w' := by
  refine (allInt (some ⟨g, 0, none⟩) 1 [⟨A, l.length, c, l.flatMap inC⟩] _ (Rds.block hbk rfl hbk.lt) (by intro p hp; simp at hp; subst hp; exact hr.more hB) (by intro p hp; simp at hp; subst hp; exact inC_one l) (by simp) (by simp [total]; omega)).mono ?_
  rintro e w4 ⟨v4, rfl, hown, hb4⟩
  have hown4 : w4.ownsRow B 3 1 v4 l.length (l.flatMap inC) := own_low (by simpa [total, cat] using hown) hB
  obtain ⟨A4, c4, rfl, _⟩ := own_form hown4
  exact ⟨_, _, rfl, hown4, hb4⟩
set_option maxHeartbeats 16000000 in
theorem merge_any (s t : Stt) (hs ht : Hd) (w : World) (hS : StR w w.heap.size s hs) (hT : StR w w.heap.size t ht) (n1 : s.D.length ≤ 1000) (n2 : s.F.length ≤ 1000) (n3 : s.R.length ≤ 1000) (n4 : s.O.length ≤ 1000) (n5 : s.P.length ≤ 1000) (m1 : t.D.length ≤ 1000) (m2 : t.F.length ≤ 1000) (m3 : t.R.length ≤ 1000) (m4 : t.O.length ≤ 1000) (m5 : t.P.length ≤ 1000) :
    Calls Try.prog 13 #[.agg (stV s hs), .agg (stV t ht)] w fun e w' => ∃ h, e = .returned (.agg (stV (mergeS s t) h)) ∧ StO w' w.heap.size (mergeS s t) h ∧ Below w.heap.size w w' := by
  go_enter Try.func13, Try.ntmps13
  go_wp2_with fail
  refine wp_region_facts (by kernel_rfl) 37 (by decide) (fun w' => Bk w' w.heap.size 33 (stV s hs) ∧ Bk w' (w.heap.size + 1) 33 (stV t ht) ∧ Bk w' (w.heap.size + 1 + 1) 33 (stV zS zH) ∧ Below w.heap.size w w') (mΦ w.heap.size s t hs ht) (fun _ w w' => Below w.heap.size w w') (okDst_spec (by kernel_rfl)) (okIn_spec (by kernel_rfl)) (okLast_spec (by kernel_rfl)) (okOrd_spec (by kernel_rfl)) ?stab ?g0 ?op ?fin
  case stab => exact fun i j v w1 w2 _ h hb => mΦ_stab _ _ _ _ _ _ _ _ _ h hb
  case g0 =>
    refine ⟨?_, ?_, ?_, ?_⟩
    · exact ((Bk.new w 33 (stV s hs)).al _).al _
    · exact (Bk.new' (w.alloc (.cells (stV s hs) 33)) 33 (stV t ht) (by simp)).al _
    · exact Bk.new' _ _ _ (by simp)
    · exact bl_drew (bl_alloc (bl_alloc (bl_alloc (Below.refl _ _) _) _) _)
  case fin =>
    intro a w1 hM hall
    refine wpOp_list rfl ?_
    obtain ⟨hh, e35, R35⟩ := hall 35 _ (by decide) rfl
    obtain ⟨g, e36, hg, Bg⟩ := hall 36 _ (by decide) rfl
    obtain ⟨Bs, Bt, Br, hb⟩ := hM.g
    have h2 := hM.slot 2 (by kernel_rfl) rfl
    have h3 := hM.slot 3 (by kernel_rfl) rfl
    have h4 := hM.slot 4 (by kernel_rfl) rfl
    have hsz : a.tmps.size = 68 := hM.sz
    have hdf : a.defers = [] := hM.dfr
    replace e35 : a.tmps.getD 41 undef = _ := e35
    replace e36 : a.tmps.getD 5 undef = _ := e36
    clear hall hM
    obtain ⟨tm, df⟩ := a
    obtain ⟨x0, x1, x2, x3, x4, x5, x6, x7, x8, x9, x10, x11, x12, x13, x14, x15, x16, x17, x18, x19, x20, x21, x22, x23, x24, x25, x26, x27, x28, x29, x30, x31, x32, x33, x34, x35, x36, x37, x38, x39, x40, x41, x42, x43, x44, x45, x46, x47, x48, x49, x50, x51, x52, x53, x54, x55, x56, x57, x58, x59, x60, x61, x62, x63, x64, x65, x66, x67, rfl⟩ := lit68 tm hsz
    have q41 : x41 = _ := e35
    have q5 : x5 = _ := e36
    have q2 : x2 = _ := h2
    have q3 : x3 = _ := h3
    have q4 : x4 = _ := h4
    have qd : df = [] := hdf
    clear e35 e36 h2 h3 h4 hsz hdf
    subst q41 q5 q2 q3 q4 qd
    have b0 := Bg.cell 0
    have b1 := Bg.cell 1
    have b2 := Bg.cell 2
    have b3 := Bg.cell 3
    have b4 := Bg.cell 4
    have b5 := Bg.cell 5
    have b6 := Bg.cell 6
    have b7 := Bg.cell 7
    have b8 := Bg.cell 8
    have b9 := Bg.cell 9
    have bz := Bg.fz
    have g1 : ¬ (g = w.heap.size + 1) := by omega
    have g2 : ¬ (w.heap.size + 1 = g) := by omega
    have g3 : ¬ (g = w.heap.size + 1 + 1) := by omega
    have g4 : ¬ (w.heap.size + 1 + 1 = g) := by omega
    have g5 : ¬ (w.heap.size = g) := by omega
    go_upto_region 2 with fail
    have hB1 := bk_st10 Bg (.bool s.att) (.int .i64 s.buf) (.slice hh.dA (s.D.length + t.D.length) hh.dc) (.slice hh.fA (s.F.length + t.F.length) hh.fc) (.bool s.inp) (.bool s.all) (.slice hh.rA s.R.length hh.rc) (.bool s.ord) (.slice hh.oA s.O.length hh.oc) (.slice hh.pA (t.P.foldl putC s.P).length hh.pc)
    have hS1 := StO.set10 R35 Bg (.bool s.att) (.int .i64 s.buf) (.slice hh.dA (s.D.length + t.D.length) hh.dc) (.slice hh.fA (s.F.length + t.F.length) hh.fc) (.bool s.inp) (.bool s.all) (.slice hh.rA s.R.length hh.rc) (.bool s.ord) (.slice hh.oA s.O.length hh.oc) (.slice hh.pA (t.P.foldl putC s.P).length hh.pc)
    have hb1 := bl_set10 (g := g) hb (by omega) (.bool s.att) (.int .i64 s.buf) (.slice hh.dA (s.D.length + t.D.length) hh.dc) (.slice hh.fA (s.F.length + t.F.length) hh.fc) (.bool s.inp) (.bool s.all) (.slice hh.rA s.R.length hh.rc) (.bool s.ord) (.slice hh.oA s.O.length hh.oc) (.slice hh.pA (t.P.foldl putC s.P).length hh.pc)
    have hBr := bk_ot10 Br g4 (.bool s.att) (.int .i64 s.buf) (.slice hh.dA (s.D.length + t.D.length) hh.dc) (.slice hh.fA (s.F.length + t.F.length) hh.fc) (.bool s.inp) (.bool s.all) (.slice hh.rA s.R.length hh.rc) (.bool s.ord) (.slice hh.oA s.O.length hh.oc) (.slice hh.pA (t.P.foldl putC s.P).length hh.pc)
    have hBt := bk_ot10 Bt g2 (.bool s.att) (.int .i64 s.buf) (.slice hh.dA (s.D.length + t.D.length) hh.dc) (.slice hh.fA (s.F.length + t.F.length) hh.fc) (.bool s.inp) (.bool s.all) (.slice hh.rA s.R.length hh.rc) (.bool s.ord) (.slice hh.oA s.O.length hh.oc) (.slice hh.pA (t.P.foldl putC s.P).length hh.pc)
    generalize hww : World.setCell _ ⟨g, 9, none⟩ _ = w2 at *
    rw [← List.length_append, ← List.length_append] at hB1
    clear hww b0 b1 b2 b3 b4 b5 b6 b7 b8 b9 bz R35 Bg Bs Bt Br hb
    have t0 : w2.cell? ⟨w.heap.size + 1, 0, none⟩ = some (.bool t.att) := hBt.cell 0
    have t1 : w2.cell? ⟨w.heap.size + 1, 1, none⟩ = some (.int .i64 t.buf) := hBt.cell 1
    have b0 := hB1.cell 0
    have b1 := hB1.cell 1
    have bz := hB1.fz
    have hgw : w.heap.size ≤ g := by omega
    go_upto_if 43 with fail
    go_cut [] from 43 (fun wx => ∃ h, Bk wx g 33 (stV { s with att := s.att || t.att, buf := if t.att then t.buf else s.buf, D := s.D ++ t.D, F := s.F ++ t.F, P := t.P.foldl putC s.P } h) ∧ StO wx w.heap.size { s with att := s.att || t.att, buf := if t.att then t.buf else s.buf, D := s.D ++ t.D, F := s.F ++ t.F, P := t.P.foldl putC s.P } h ∧ Bk wx (w.heap.size + 1) 33 (stV t ht) ∧ Bk wx (w.heap.size + 1 + 1) 33 (stV zS zH) ∧ Below w.heap.size w wx)
    case first =>
      by_cases ha : t.att = true
      · have HA := Lib.hid ha
        rw [ha] at t0 ⊢
        clear ha
        go_wp2_with (go_region_law (fail))
        all_goals go_meet
        all_goals simp only [HA.out, Bool.or_true, if_true, Bool.or_false, Bool.false_eq_true, if_false]
        all_goals exact ⟨hh, ((hB1.st 0 _).st 1 _).dr, sto_dr (sto_cp ((hS1.set (j := 0) hB1).set (j := 1) (hB1.st 0 _)) rfl rfl rfl rfl rfl), ((hBt.ot g2 _).ot g2 _).dr, ((hBr.ot g4 _).ot g4 _).dr, bl_drew (bl_set (bl_set hb1 hgw _) hgw _)⟩
      · rw [Bool.not_eq_true] at ha
        have HA := Lib.hid ha
        rw [ha] at t0 ⊢
        clear ha
        go_wp2_with fail
        all_goals go_meet
        all_goals simp only [HA.out, Bool.or_true, if_true, Bool.or_false, Bool.false_eq_true, if_false]
        all_goals exact ⟨hh, hB1, ⟨hS1.d, hS1.f, hS1.r, hS1.o, hS1.p⟩, hBt, hBr, hb1⟩
    case rest =>
    clear t0 t1 b0 b1 bz hB1 hS1 hBt hBr hb1
    obtain ⟨h1, hB1, hS1, hBt, hBr, hb1⟩ := hcut
    obtain ⟨w3, rfl⟩ : ∃ x : World, x = wc := ⟨_, rfl⟩
    have t4 : w3.cell? ⟨w.heap.size + 1, 4, none⟩ = some (.bool t.inp) := hBt.cell 4
    go_upto_if 49 with fail
    go_cut [] from 49 (fun wx => ∃ h, Bk wx g 33 (stV { s with att := s.att || t.att, buf := if t.att then t.buf else s.buf, D := s.D ++ t.D, F := s.F ++ t.F, P := t.P.foldl putC s.P, inp := s.inp || t.inp, all := if t.inp then t.all else s.all, R := if t.inp then t.R else s.R } h) ∧ StO wx w.heap.size { s with att := s.att || t.att, buf := if t.att then t.buf else s.buf, D := s.D ++ t.D, F := s.F ++ t.F, P := t.P.foldl putC s.P, inp := s.inp || t.inp, all := if t.inp then t.all else s.all, R := if t.inp then t.R else s.R } h ∧ Bk wx (w.heap.size + 1) 33 (stV t ht) ∧ Bk wx (w.heap.size + 1 + 1) 33 (stV zS zH) ∧ Below w.heap.size w wx)
    case first =>
      by_cases ha : t.inp = true
      · have HA := Lib.hid ha
        rw [ha] at t4 ⊢
        clear ha
        have q5 : w3.cell? ⟨w.heap.size + 1, 5, none⟩ = some (.bool t.all) := hBt.cell 5
        have q6 : w3.cell? ⟨w.heap.size + 1, 6, none⟩ = some (.slice ht.rA t.R.length ht.rc) := hBt.cell 6
        have lt1 : w.heap.size + 1 < w3.heap.size := hBt.lt
        have lt2 : ¬ (w.heap.size + 1 = w3.heap.size) := by omega
        have lt3 : g < w3.heap.size := hB1.lt
        have lt4 : ¬ (g = w3.heap.size) := by omega
        go_upto_region 5 with fail
        go_region_with (go_at_call 27; go_loud (generalize hwv : World.drew _ = wv; have Ba : Bk wv w3.heap.size 30 #[.slice ht.rA t.R.length ht.rc] := hwv ▸ (Bk.new _ _ _).dr; have hbv : Below w.heap.size w wv := hwv ▸ bl_drew (bl_alloc hb1 _); have Bv : Below w3.heap.size w3 wv := hwv ▸ bl_drew (bl_alloc (Below.refl _ _) _); clear hwv; refine (all1R ht.rA t.R ht.rc (hT.r.be hbv) hbv.size Ba m3).mono ?_; rintro e w4 ⟨A4, c4, rfl, hown4, hb4⟩; have Bw := bl_step Bv hb4; have hbw := bl_step hbv hb4; have hB4 := hB1.be Bw; have hS4 := hS1.be Bw; have hBt4 := hBt.be Bw; have hBr4 := hBr.be Bw; clear Bv hbv hb4 Ba; have k4 := hB4.cell 4; have k5 := hB4.cell 5; have k6 := hB4.cell 6; have kz := hB4.fz; have p5 : w4.cell? ⟨w.heap.size + 1, 5, none⟩ = some (.bool t.all) := hBt4.cell 5))
        all_goals go_wp2_with fail
        all_goals go_meet
        all_goals simp only [HA.out, Bool.or_true, if_true, Bool.or_false, Bool.false_eq_true, if_false]
        all_goals exact ⟨{ h1 with rA := A4, rc := c4 }, ((hB4.st 4 _).st 5 _).st 6 _, StO.set (j := 6) (StO.set (j := 5) (StO.set (j := 4) ⟨hS4.d, hS4.f, hown4, hS4.o, hS4.p⟩ hB4) (hB4.st 4 _)) ((hB4.st 4 _).st 5 _), ((hBt4.ot g2 _).ot g2 _).ot g2 _, ((hBr4.ot g4 _).ot g4 _).ot g4 _, bl_set (bl_set (bl_set hbw hgw _) hgw _) hgw _⟩
      · rw [Bool.not_eq_true] at ha
        have HA := Lib.hid ha
        rw [ha] at t4 ⊢
        clear ha
        go_wp2_with fail
        all_goals go_meet
        all_goals simp only [HA.out, Bool.or_true, if_true, Bool.or_false, Bool.false_eq_true, if_false]
        all_goals exact ⟨h1, hB1, sto_cp hS1 rfl rfl rfl rfl rfl, hBt, hBr, hb1⟩
    case rest =>
    clear t4 hB1 hS1 hBt hBr hb1
    obtain ⟨h1, hB1, hS1, hBt, hBr, hb1⟩ := hcut
    obtain ⟨w3, rfl⟩ : ∃ x : World, x = wc := ⟨_, rfl⟩
    have t7 : w3.cell? ⟨w.heap.size + 1, 7, none⟩ = some (.bool t.ord) := hBt.cell 7
    go_upto_if 60 with fail
    go_cut [] from 60 (fun wx => ∃ h, Bk wx g 33 (stV { s with att := s.att || t.att, buf := if t.att then t.buf else s.buf, D := s.D ++ t.D, F := s.F ++ t.F, P := t.P.foldl putC s.P, inp := s.inp || t.inp, all := if t.inp then t.all else s.all, R := if t.inp then t.R else s.R, ord := s.ord || t.ord, O := if t.ord then t.O else s.O } h) ∧ StO wx w.heap.size { s with att := s.att || t.att, buf := if t.att then t.buf else s.buf, D := s.D ++ t.D, F := s.F ++ t.F, P := t.P.foldl putC s.P, inp := s.inp || t.inp, all := if t.inp then t.all else s.all, R := if t.inp then t.R else s.R, ord := s.ord || t.ord, O := if t.ord then t.O else s.O } h ∧ Bk wx (w.heap.size + 1 + 1) 33 (stV zS zH) ∧ Below w.heap.size w wx)
    case first =>
      by_cases ha : t.ord = true
      · have HA := Lib.hid ha
        rw [ha] at t7 ⊢
        clear ha
        have q8 : w3.cell? ⟨w.heap.size + 1, 8, none⟩ = some (.slice ht.oA t.O.length ht.oc) := hBt.cell 8
        have lt1 : w.heap.size + 1 < w3.heap.size := hBt.lt
        have lt2 : ¬ (w.heap.size + 1 = w3.heap.size) := by omega
        have lt3 : g < w3.heap.size := hB1.lt
        have lt4 : ¬ (g = w3.heap.size) := by omega
        go_wp2_with (go_at_call 28; go_loud (generalize hwv : World.alloc _ _ = wv; have Ba : Bk wv w3.heap.size 31 #[.slice ht.oA t.O.length ht.oc] := hwv ▸ (Bk.new _ _ _); have hbv : Below w.heap.size w wv := hwv ▸ bl_alloc hb1 _; have Bv : Below w3.heap.size w3 wv := hwv ▸ bl_alloc (Below.refl _ _) _; clear hwv; refine (all1I ht.oA t.O ht.oc (hT.o.be hbv) hbv.size Ba m4).mono ?_; rintro e w4 ⟨A4, c4, rfl, hown4, hb4⟩; have Bw := bl_step Bv hb4; have hbw := bl_step hbv hb4; have hB4 := hB1.be Bw; have hS4 := hS1.be Bw; have hBt4 := hBt.be Bw; have hBr4 := hBr.be Bw; clear Bv hbv hb4 Ba; have k7 := hB4.cell 7; have k8 := hB4.cell 8; have kz := hB4.fz))
        all_goals go_meet
        all_goals simp only [HA.out, Bool.or_true, if_true, Bool.or_false, Bool.false_eq_true, if_false]
        all_goals exact ⟨{ h1 with oA := A4, oc := c4 }, (hB4.st 7 _).st 8 _, StO.set (j := 8) (StO.set (j := 7) ⟨hS4.d, hS4.f, hS4.r, hown4, hS4.p⟩ hB4) (hB4.st 7 _), (hBr4.ot g4 _).ot g4 _, bl_set (bl_set hbw hgw _) hgw _⟩
      · rw [Bool.not_eq_true] at ha
        have HA := Lib.hid ha
        rw [ha] at t7 ⊢
        clear ha
        go_wp2_with fail
        all_goals go_meet
        all_goals simp only [HA.out, Bool.or_true, if_true, Bool.or_false, Bool.false_eq_true, if_false]
        all_goals exact ⟨h1, hB1, sto_cp hS1 rfl rfl rfl rfl rfl, hBr, hb1⟩
    case rest =>
    clear t7 hB1 hS1 hBt hBr hb1
    obtain ⟨h1, hB1, hS1, hBr, hb1⟩ := hcut
    obtain ⟨w3, rfl⟩ : ∃ x : World, x = wc := ⟨_, rfl⟩
    rw [show { s with att := s.att || t.att, buf := if t.att then t.buf else s.buf, D := s.D ++ t.D, F := s.F ++ t.F, P := t.P.foldl putC s.P, inp := s.inp || t.inp, all := if t.inp then t.all else s.all, R := if t.inp then t.R else s.R, ord := s.ord || t.ord, O := if t.ord then t.O else s.O } = mergeS s t from rfl] at hB1 hS1
    generalize hm : mergeS s t = m at hB1 hS1
    have HM := Lib.hid hm
    clear hm
    have b0 : w3.cell? ⟨g, 0, none⟩ = some (.bool m.att) := hB1.cell 0
    have b1 : w3.cell? ⟨g, 1, none⟩ = some (.int .i64 m.buf) := hB1.cell 1
    have b2 : w3.cell? ⟨g, 2, none⟩ = some (.slice h1.dA m.D.length h1.dc) := hB1.cell 2
    have b3 : w3.cell? ⟨g, 3, none⟩ = some (.slice h1.fA m.F.length h1.fc) := hB1.cell 3
    have b4 : w3.cell? ⟨g, 4, none⟩ = some (.bool m.inp) := hB1.cell 4
    have b5 : w3.cell? ⟨g, 5, none⟩ = some (.bool m.all) := hB1.cell 5
    have b6 : w3.cell? ⟨g, 6, none⟩ = some (.slice h1.rA m.R.length h1.rc) := hB1.cell 6
    have b7 : w3.cell? ⟨g, 7, none⟩ = some (.bool m.ord) := hB1.cell 7
    have b8 : w3.cell? ⟨g, 8, none⟩ = some (.slice h1.oA m.O.length h1.oc) := hB1.cell 8
    have b9 : w3.cell? ⟨g, 9, none⟩ = some (.slice h1.pA m.P.length h1.pc) := hB1.cell 9
    have r0 := hBr.cell 0
    have r1 := hBr.cell 1
    have r2 := hBr.cell 2
    have r3 := hBr.cell 3
    have r4 := hBr.cell 4
    have r5 := hBr.cell 5
    have r6 := hBr.cell 6
    have r7 := hBr.cell 7
    have r8 := hBr.cell 8
    have r9 := hBr.cell 9
    have rz := hBr.fz
    go_wp2_with fail
    obtain rfl := HM.out
    refine post_cell (w.heap.size + 1 + 1) 33 _ Try.results13 Try.underlying33 rfl (by kernel_rfl) rfl (bk_st10 hBr (.bool (mergeS s t).att) (.int .i64 (mergeS s t).buf) (.slice h1.dA (mergeS s t).D.length h1.dc) (.slice h1.fA (mergeS s t).F.length h1.fc) (.bool (mergeS s t).inp) (.bool (mergeS s t).all) (.slice h1.rA (mergeS s t).R.length h1.rc) (.bool (mergeS s t).ord) (.slice h1.oA (mergeS s t).O.length h1.oc) (.slice h1.pA (mergeS s t).P.length h1.pc)) rfl ⟨h1, rfl, StO.set10 hS1 hBr _ _ _ _ _ _ _ _ _ _, bl_set10 hb1 (by omega) _ _ _ _ _ _ _ _ _ _⟩
  case op =>
    intro i o ho hne a w1 hM hd
    have hG := hM.g
    obtain ⟨Bs, Bt, Br, hb⟩ := hG
    have h2 := hM.slot 2 (by kernel_rfl) rfl
    have h3 := hM.slot 3 (by kernel_rfl) rfl
    match i, ho with
    | 0, ho =>
      obtain rfl := Option.some.inj ho
      refine wpOp_list rfl ?_
      go_wp2_with fail
      exact ⟨_, rfl, rfl, Below.refl _ _⟩
    | 1, ho =>
      obtain rfl := Option.some.inj ho
      refine wpOp_list rfl ?_
      have d0 := dep hd 0 6 (by kernel_rfl)
      have c0 := Bs.cell 0
      simp only [mΦ] at d0
      go_wp2_with fail
      exact ⟨_, rfl, rfl, Below.refl _ _⟩
    | 2, ho =>
      obtain rfl := Option.some.inj ho
      refine wpOp_list rfl ?_
      go_wp2_with fail
      exact ⟨_, rfl, rfl, Below.refl _ _⟩
    | 3, ho =>
      obtain rfl := Option.some.inj ho
      refine wpOp_list rfl ?_
      have d0 := dep hd 2 8 (by kernel_rfl)
      have c0 := Bs.cell 1
      simp only [mΦ] at d0
      go_wp2_with fail
      exact ⟨_, rfl, rfl, Below.refl _ _⟩
    | 4, ho =>
      obtain rfl := Option.some.inj ho
      refine wpOp_list rfl ?_
      go_wp2_with fail
      exact ⟨_, rfl, rfl, Below.refl _ _⟩
    | 5, ho =>
      obtain rfl := Option.some.inj ho
      refine wpOp_list rfl ?_
      have d0 := dep hd 4 10 (by kernel_rfl)
      have c0 := Bs.cell 2
      simp only [mΦ] at d0
      go_wp2_with fail
      exact ⟨_, rfl, rfl, Below.refl _ _⟩
    | 6, ho =>
      obtain rfl := Option.some.inj ho
      refine wpOp_list rfl ?_
      go_wp2_with fail
      exact ⟨_, rfl, rfl, Below.refl _ _⟩
    | 7, ho =>
      obtain rfl := Option.some.inj ho
      refine wpOp_list rfl ?_
      have d0 := dep hd 6 12 (by kernel_rfl)
      have c0 := Bt.cell 2
      simp only [mΦ] at d0
      go_wp2_with fail
      exact ⟨_, rfl, rfl, Below.refl _ _⟩
    | 8, ho =>
      obtain rfl := Option.some.inj ho
      refine wpOp_list rfl ?_
      have d0 := dep hd 5 11 (by kernel_rfl)
      simp only [mΦ] at d0
      have e0 := d0
      rw [Array.getD_eq_getD_getElem?] at e0
      have d1 := dep hd 7 13 (by kernel_rfl)
      simp only [mΦ] at d1
      have e1 := d1
      rw [Array.getD_eq_getD_getElem?] at e1
      go_wp2_with fail
      exact ⟨_, rfl, ⟨_, rfl, hb.size, Bk.new _ _ _⟩, bl_alloc (Below.refl _ _) _, Bs.al _, Bt.al _, Br.al _, bl_alloc hb _⟩
    | 9, ho =>
      obtain rfl := Option.some.inj ho
      refine wpOp_list rfl ?_
      obtain ⟨g, e0, hg, Bg⟩ := dep hd 8 14 (by kernel_rfl)
      have e1 := e0
      rw [Array.getD_eq_getD_getElem?] at e1
      go_wp2_with fail
      refine (allRect (some ⟨g, 0, none⟩) 2 [⟨hs.dA, s.D.length, hs.dc, s.D.flatMap rcC⟩, ⟨ht.dA, t.D.length, ht.dc, t.D.flatMap rcC⟩] w1 (Rds.block Bg rfl Bg.lt) (by intro p hp; simp only [List.mem_cons, List.not_mem_nil, or_false] at hp; rcases hp with rfl | rfl; all_goals first | exact ((hS.d).be hb).more hb.size | exact ((hT.d).be hb).more hb.size) (by intro p hp; simp only [List.mem_cons, List.not_mem_nil, or_false] at hp; rcases hp with rfl | rfl; all_goals exact rcC_one _) (by simp) (by simp [total]; omega)).mono ?_
      rintro e w2 ⟨v2, rfl, hown, hb2⟩
      obtain ⟨A2, c2, rfl, _⟩ := own_form hown
      go_wp2_with fail
      refine ⟨_, rfl, ⟨A2, c2, ?_, ?_⟩, Bs.be hb2, Bt.be hb2, Br.be hb2, bl_step hb hb2⟩
      · simp [total]
      · simpa [total, cat] using own_lower hown (by have := hb.size; omega)
    | 10, ho =>
      obtain rfl := Option.some.inj ho
      refine wpOp_list rfl ?_
      go_wp2_with fail
      exact ⟨_, rfl, rfl, Below.refl _ _⟩
    | 11, ho =>
      obtain rfl := Option.some.inj ho
      refine wpOp_list rfl ?_
      have d0 := dep hd 10 16 (by kernel_rfl)
      have c0 := Bs.cell 3
      simp only [mΦ] at d0
      go_wp2_with fail
      exact ⟨_, rfl, rfl, Below.refl _ _⟩
    | 12, ho =>
      obtain rfl := Option.some.inj ho
      refine wpOp_list rfl ?_
      go_wp2_with fail
      exact ⟨_, rfl, rfl, Below.refl _ _⟩
    | 13, ho =>
      obtain rfl := Option.some.inj ho
      refine wpOp_list rfl ?_
      have d0 := dep hd 12 18 (by kernel_rfl)
      have c0 := Bt.cell 3
      simp only [mΦ] at d0
      go_wp2_with fail
      exact ⟨_, rfl, rfl, Below.refl _ _⟩
    | 14, ho =>
      obtain rfl := Option.some.inj ho
      refine wpOp_list rfl ?_
      have d0 := dep hd 11 17 (by kernel_rfl)
      simp only [mΦ] at d0
      have e0 := d0
      rw [Array.getD_eq_getD_getElem?] at e0
      have d1 := dep hd 13 19 (by kernel_rfl)
      simp only [mΦ] at d1
      have e1 := d1
      rw [Array.getD_eq_getD_getElem?] at e1
      go_wp2_with fail
      exact ⟨_, rfl, ⟨_, rfl, hb.size, Bk.new _ _ _⟩, bl_alloc (Below.refl _ _) _, Bs.al _, Bt.al _, Br.al _, bl_alloc hb _⟩
    | 15, ho =>
      obtain rfl := Option.some.inj ho
      refine wpOp_list rfl ?_
      obtain ⟨g, e0, hg, Bg⟩ := dep hd 14 20 (by kernel_rfl)
      have e1 := e0
      rw [Array.getD_eq_getD_getElem?] at e1
      go_wp2_with fail
      refine (allInt (some ⟨g, 0, none⟩) 2 [⟨hs.fA, s.F.length, hs.fc, s.F.flatMap inC⟩, ⟨ht.fA, t.F.length, ht.fc, t.F.flatMap inC⟩] w1 (Rds.block Bg rfl Bg.lt) (by intro p hp; simp only [List.mem_cons, List.not_mem_nil, or_false] at hp; rcases hp with rfl | rfl; all_goals first | exact ((hS.f).be hb).more hb.size | exact ((hT.f).be hb).more hb.size) (by intro p hp; simp only [List.mem_cons, List.not_mem_nil, or_false] at hp; rcases hp with rfl | rfl; all_goals exact inC_one _) (by simp) (by simp [total]; omega)).mono ?_
      rintro e w2 ⟨v2, rfl, hown, hb2⟩
      obtain ⟨A2, c2, rfl, _⟩ := own_form hown
      go_wp2_with fail
      refine ⟨_, rfl, ⟨A2, c2, ?_, ?_⟩, Bs.be hb2, Bt.be hb2, Br.be hb2, bl_step hb hb2⟩
      · simp [total]
      · simpa [total, cat] using own_lower hown (by have := hb.size; omega)
    | 16, ho =>
      obtain rfl := Option.some.inj ho
      refine wpOp_list rfl ?_
      go_wp2_with fail
      exact ⟨_, rfl, rfl, Below.refl _ _⟩
    | 17, ho =>
      obtain rfl := Option.some.inj ho
      refine wpOp_list rfl ?_
      have d0 := dep hd 16 22 (by kernel_rfl)
      have c0 := Bs.cell 4
      simp only [mΦ] at d0
      go_wp2_with fail
      exact ⟨_, rfl, rfl, Below.refl _ _⟩
    | 18, ho =>
      obtain rfl := Option.some.inj ho
      refine wpOp_list rfl ?_
      go_wp2_with fail
      exact ⟨_, rfl, rfl, Below.refl _ _⟩
    | 19, ho =>
      obtain rfl := Option.some.inj ho
      refine wpOp_list rfl ?_
      have d0 := dep hd 18 24 (by kernel_rfl)
      have c0 := Bs.cell 5
      simp only [mΦ] at d0
      go_wp2_with fail
      exact ⟨_, rfl, rfl, Below.refl _ _⟩
    | 20, ho =>
      obtain rfl := Option.some.inj ho
      refine wpOp_list rfl ?_
      go_wp2_with fail
      exact ⟨_, rfl, rfl, Below.refl _ _⟩
    | 21, ho =>
      obtain rfl := Option.some.inj ho
      refine wpOp_list rfl ?_
      have d0 := dep hd 20 26 (by kernel_rfl)
      have c0 := Bs.cell 6
      simp only [mΦ] at d0
      go_wp2_with fail
      exact ⟨_, rfl, rfl, Below.refl _ _⟩
    | 22, ho =>
      obtain rfl := Option.some.inj ho
      refine wpOp_list rfl ?_
      have d0 := dep hd 21 27 (by kernel_rfl)
      simp only [mΦ] at d0
      have e0 := d0
      rw [Array.getD_eq_getD_getElem?] at e0
      go_wp2_with fail
      exact ⟨_, rfl, ⟨_, rfl, hb.size, Bk.new _ _ _⟩, bl_alloc (Below.refl _ _) _, Bs.al _, Bt.al _, Br.al _, bl_alloc hb _⟩
    | 23, ho =>
      obtain rfl := Option.some.inj ho
      refine wpOp_list rfl ?_
      obtain ⟨g, e0, hg, Bg⟩ := dep hd 22 28 (by kernel_rfl)
      have e1 := e0
      rw [Array.getD_eq_getD_getElem?] at e1
      go_wp2_with fail
      refine (allRect (some ⟨g, 0, none⟩) 1 [⟨hs.rA, s.R.length, hs.rc, s.R.flatMap rcC⟩] w1 (Rds.block Bg rfl Bg.lt) (by intro p hp; simp only [List.mem_cons, List.not_mem_nil, or_false] at hp; subst hp; all_goals first | exact ((hS.r).be hb).more hb.size) (by intro p hp; simp only [List.mem_cons, List.not_mem_nil, or_false] at hp; subst hp; all_goals exact rcC_one _) (by simp) (by simp [total]; omega)).mono ?_
      rintro e w2 ⟨v2, rfl, hown, hb2⟩
      obtain ⟨A2, c2, rfl, _⟩ := own_form hown
      go_wp2_with fail
      refine ⟨_, rfl, ⟨A2, c2, ?_, ?_⟩, Bs.be hb2, Bt.be hb2, Br.be hb2, bl_step hb hb2⟩
      · simp [total]
      · simpa [total, cat] using own_lower hown (by have := hb.size; omega)
    | 24, ho =>
      obtain rfl := Option.some.inj ho
      refine wpOp_list rfl ?_
      go_wp2_with fail
      exact ⟨_, rfl, rfl, Below.refl _ _⟩
    | 25, ho =>
      obtain rfl := Option.some.inj ho
      refine wpOp_list rfl ?_
      have d0 := dep hd 24 30 (by kernel_rfl)
      have c0 := Bs.cell 7
      simp only [mΦ] at d0
      go_wp2_with fail
      exact ⟨_, rfl, rfl, Below.refl _ _⟩
    | 26, ho =>
      obtain rfl := Option.some.inj ho
      refine wpOp_list rfl ?_
      go_wp2_with fail
      exact ⟨_, rfl, rfl, Below.refl _ _⟩
    | 27, ho =>
      obtain rfl := Option.some.inj ho
      refine wpOp_list rfl ?_
      have d0 := dep hd 26 32 (by kernel_rfl)
      have c0 := Bs.cell 8
      simp only [mΦ] at d0
      go_wp2_with fail
      exact ⟨_, rfl, rfl, Below.refl _ _⟩
    | 28, ho =>
      obtain rfl := Option.some.inj ho
      refine wpOp_list rfl ?_
      have d0 := dep hd 27 33 (by kernel_rfl)
      simp only [mΦ] at d0
      have e0 := d0
      rw [Array.getD_eq_getD_getElem?] at e0
      go_wp2_with fail
      exact ⟨_, rfl, ⟨_, rfl, hb.size, Bk.new _ _ _⟩, bl_alloc (Below.refl _ _) _, Bs.al _, Bt.al _, Br.al _, bl_alloc hb _⟩
    | 29, ho =>
      obtain rfl := Option.some.inj ho
      refine wpOp_list rfl ?_
      obtain ⟨g, e0, hg, Bg⟩ := dep hd 28 34 (by kernel_rfl)
      have e1 := e0
      rw [Array.getD_eq_getD_getElem?] at e1
      go_wp2_with fail
      refine (allInt (some ⟨g, 0, none⟩) 1 [⟨hs.oA, s.O.length, hs.oc, s.O.flatMap inC⟩] w1 (Rds.block Bg rfl Bg.lt) (by intro p hp; simp only [List.mem_cons, List.not_mem_nil, or_false] at hp; subst hp; all_goals first | exact ((hS.o).be hb).more hb.size) (by intro p hp; simp only [List.mem_cons, List.not_mem_nil, or_false] at hp; subst hp; all_goals exact inC_one _) (by simp) (by simp [total]; omega)).mono ?_
      rintro e w2 ⟨v2, rfl, hown, hb2⟩
      obtain ⟨A2, c2, rfl, _⟩ := own_form hown
      go_wp2_with fail
      refine ⟨_, rfl, ⟨A2, c2, ?_, ?_⟩, Bs.be hb2, Bt.be hb2, Br.be hb2, bl_step hb hb2⟩
      · simp [total]
      · simpa [total, cat] using own_lower hown (by have := hb.size; omega)
    | 30, ho =>
      obtain rfl := Option.some.inj ho
      refine wpOp_list rfl ?_
      go_wp2_with fail
      exact ⟨_, rfl, rfl, Below.refl _ _⟩
    | 31, ho =>
      obtain rfl := Option.some.inj ho
      refine wpOp_list rfl ?_
      have d0 := dep hd 30 36 (by kernel_rfl)
      have c0 := Bs.cell 9
      simp only [mΦ] at d0
      go_wp2_with fail
      exact ⟨_, rfl, rfl, Below.refl _ _⟩
    | 32, ho =>
      obtain rfl := Option.some.inj ho
      refine wpOp_list rfl ?_
      go_wp2_with fail
      exact ⟨_, rfl, rfl, Below.refl _ _⟩
    | 33, ho =>
      obtain rfl := Option.some.inj ho
      refine wpOp_list rfl ?_
      have d0 := dep hd 32 38 (by kernel_rfl)
      have c0 := Bt.cell 9
      simp only [mΦ] at d0
      go_wp2_with fail
      exact ⟨_, rfl, rfl, Below.refl _ _⟩
    | 34, ho =>
      obtain rfl := Option.some.inj ho
      refine wpOp_list rfl ?_
      have d0 := dep hd 31 37 (by kernel_rfl)
      simp only [mΦ] at d0
      have e0 := d0
      rw [Array.getD_eq_getD_getElem?] at e0
      have d1 := dep hd 33 39 (by kernel_rfl)
      simp only [mΦ] at d1
      have e1 := d1
      rw [Array.getD_eq_getD_getElem?] at e1
      go_wp2_with fail
      refine (places_any hs.pA ht.pA hs.pc ht.pc s.P t.P w1 n5 m5 ((hS.p.be hb).more hb.size) ((hT.p.be hb).more hb.size)).mono ?_
      rintro e w2 ⟨A2, c2, rfl, hown, hb2⟩
      go_wp2_with fail
      exact ⟨_, rfl, ⟨A2, c2, rfl, own_lower hown (by have := hb.size; omega)⟩, Bs.be hb2, Bt.be hb2, Br.be hb2, bl_step hb hb2⟩
    | 35, ho =>
      obtain rfl := Option.some.inj ho
      refine wpOp_list rfl ?_
      have d1 := dep hd 1 7 (by kernel_rfl)
      simp only [mΦ] at d1
      have e1 := d1
      rw [Array.getD_eq_getD_getElem?] at e1
      have d3 := dep hd 3 9 (by kernel_rfl)
      simp only [mΦ] at d3
      have e3 := d3
      rw [Array.getD_eq_getD_getElem?] at e3
      have d17 := dep hd 17 23 (by kernel_rfl)
      simp only [mΦ] at d17
      have e17 := d17
      rw [Array.getD_eq_getD_getElem?] at e17
      have d19 := dep hd 19 25 (by kernel_rfl)
      simp only [mΦ] at d19
      have e19 := d19
      rw [Array.getD_eq_getD_getElem?] at e19
      have d25 := dep hd 25 31 (by kernel_rfl)
      simp only [mΦ] at d25
      have e25 := d25
      rw [Array.getD_eq_getD_getElem?] at e25
      obtain ⟨A9, c9, d9, R9⟩ := dep hd 9 15 (by kernel_rfl)
      have e9 := d9
      rw [Array.getD_eq_getD_getElem?] at e9
      obtain ⟨A15, c15, d15, R15⟩ := dep hd 15 21 (by kernel_rfl)
      have e15 := d15
      rw [Array.getD_eq_getD_getElem?] at e15
      obtain ⟨A23, c23, d23, R23⟩ := dep hd 23 29 (by kernel_rfl)
      have e23 := d23
      rw [Array.getD_eq_getD_getElem?] at e23
      obtain ⟨A29, c29, d29, R29⟩ := dep hd 29 35 (by kernel_rfl)
      have e29 := d29
      rw [Array.getD_eq_getD_getElem?] at e29
      obtain ⟨A34, c34, d34, R34⟩ := dep hd 34 40 (by kernel_rfl)
      have e34 := d34
      rw [Array.getD_eq_getD_getElem?] at e34
      go_wp2_with fail
      exact ⟨_, rfl, ⟨⟨A9, c9, A15, c15, A23, c23, A29, c29, A34, c34⟩, by rw [List.length_append, List.length_append], ⟨R9, R15, R23, R29, R34⟩⟩, Below.refl _ _⟩
    | 36, ho =>
      obtain rfl := Option.some.inj ho
      refine wpOp_list rfl ?_
      go_wp2_with fail
      exact ⟨_, rfl, ⟨_, rfl, Br.lt, Bk.new _ _ _⟩, bl_alloc (Below.refl _ _) _, Bs.al _, Bt.al _, Br.al _, bl_alloc hb _⟩
    | i + 37, ho =>
      rcases i with _ | i
      · exact absurd rfl hne
      · simp at ho
end Go.Proofs.Ytnboncbekcodnaa.St
