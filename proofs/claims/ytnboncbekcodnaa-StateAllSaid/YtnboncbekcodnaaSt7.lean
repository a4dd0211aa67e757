/- The walk: Apply. -/
import Derived.Test.YtnboncbekcodnaaSt6
set_option linter.unusedVariables false
set_option linter.unusedSimpArgs false
namespace Go.Proofs.Ytnboncbekcodnaa.St
open Go.RowKit Go.Proofs.Ytnboncbekcodnaa.Kit

theorem StO.rd {w : World} {B : Nat} {t : Stt} {h : Hd} (s : StO w B t h) : StR w w.heap.size t h := ⟨Rds.own s.d, Rds.own s.f, Rds.own s.r, Rds.own s.o, Rds.own s.p⟩
/-- enough room behind each row -/
structure StC (t : Stt) (h : Hd) : Prop where
  d : t.D.length ≤ h.dc
  f : t.F.length ≤ h.fc
  r : t.R.length ≤ h.rc
  o : t.O.length ≤ h.oc
  p : t.P.length ≤ h.pc
theorem own_cap {w : World} {base : Nat} {e : TypeId} {sz n c : Nat} {A : Option Addr} {xs : List Value} (h : w.ownsRow base e sz (.slice A n c) n xs) : n ≤ c := by
  rcases h.2 with ⟨hv, hn⟩ | ⟨g, cap, cur, he, _, _, hn, _⟩
  · omega
  · injection he with _ _ hc
    rw [hc]; exact hn
theorem StO.cp {w : World} {B : Nat} {t : Stt} {h : Hd} (s : StO w B t h) : StC t h := ⟨own_cap s.d, own_cap s.f, own_cap s.r, own_cap s.o, own_cap s.p⟩
/-- few enough rows -/
structure StN (k : Nat) (t : Stt) : Prop where
  d : t.D.length ≤ k
  f : t.F.length ≤ k
  r : t.R.length ≤ k
  o : t.O.length ≤ k
  p : t.P.length ≤ k
theorem StN.le {k k' : Nat} {t : Stt} (h : StN k t) (hk : k ≤ k') : StN k' t := ⟨by have := h.d; omega, by have := h.f; omega, by have := h.r; omega, by have := h.o; omega, by have := h.p; omega⟩
theorem zN (k : Nat) : StN k zS := ⟨Nat.zero_le _, Nat.zero_le _, Nat.zero_le _, Nat.zero_le _, Nat.zero_le _⟩
theorem zR (w : World) (B : Nat) : StR w B zS zH := ⟨Rds.none_, Rds.none_, Rds.none_, Rds.none_, Rds.none_⟩
theorem mergeN {k l : Nat} {s t : Stt} (hs : StN k s) (ht : StN l t) : StN (k + l) (mergeS s t) := by
  have := foldl_len s.P t.P
  refine ⟨?_, ?_, ?_, ?_, ?_⟩
  · show (s.D ++ t.D).length ≤ _
    rw [List.length_append]; have := hs.d; have := ht.d; omega
  · show (s.F ++ t.F).length ≤ _
    rw [List.length_append]; have := hs.f; have := ht.f; omega
  · show (if t.inp then t.R else s.R).length ≤ _
    have := hs.r; have := ht.r
    split <;> omega
  · show (if t.ord then t.O else s.O).length ≤ _
    have := hs.o; have := ht.o
    split <;> omega
  · show (t.P.foldl putC s.P).length ≤ _
    have := hs.p; have := ht.p; omega
theorem applyN {k l : Nat} {s t : Stt} (hs : StN k s) (ht : StN l t) : StN (k + l) (applyS s t) :=
  have h := mergeN hs ht
  ⟨Nat.zero_le _, h.f, h.r, h.o, h.p⟩
theorem merge_C (s t : Stt) (hs ht : Hd) (w : World) (hS : StR w w.heap.size s hs) (hT : StR w w.heap.size t ht) (n : StN 1000 s) (m : StN 1000 t) :
    Calls Try.prog 13 #[.agg (stV s hs), .agg (stV t ht)] w fun e w' => ∃ h, e = .returned (.agg (stV (mergeS s t) h)) ∧ StR w' w'.heap.size (mergeS s t) h ∧ StC (mergeS s t) h ∧ Below w.heap.size w w' := by
  refine (merge_any s t hs ht w hS hT n.d n.f n.r n.o n.p m.d m.f m.r m.o m.p).mono ?_
  rintro e w' ⟨h, rfl, hO, hb⟩
  exact ⟨h, rfl, hO.rd, hO.cp, hb⟩

set_option maxHeartbeats 8000000 in
theorem apply_O (s t : Stt) (hs ht : Hd) (w : World) (hS : StR w w.heap.size s hs) (hT : StR w w.heap.size t ht) (n : StN 1000 s) (m : StN 1000 t) :
    Calls Try.prog 12 #[.agg (stV s hs), .agg (stV t ht)] w fun e w' => ∃ h, e = .returned (.agg (stV (applyS s t) h)) ∧ StO w' w.heap.size (applyS s t) h ∧ Below w.heap.size w w' := by
  go_enter Try.func12, Try.ntmps12
  go_wp2_with fail
  generalize hwv : World.alloc _ _ = wv
  have Br : Bk wv (w.heap.size + 1 + 1) 33 (stV zS zH) := hwv ▸ Bk.new' _ _ _ (by simp)
  have hbv : Below w.heap.size w wv := hwv ▸ bl_alloc (bl_alloc (bl_alloc (Below.refl _ _) _) _) _
  clear hwv
  refine (merge_any s t hs ht _ ((hS.be hbv).more hbv.size) ((hT.be hbv).more hbv.size) n.d n.f n.r n.o n.p m.d m.f m.r m.o m.p).mono ?_
  rintro e w1 ⟨h1, rfl, hO, hb1⟩
  have hB := Br.be hb1
  have hbw := bl_step hbv hb1
  have hg : w.heap.size + 1 + 1 < w1.heap.size := hB.lt
  have hle := hbv.size
  clear Br hbv hb1
  generalize hm : mergeS s t = mm at hO ⊢
  have r0 := hB.cell 0
  have r1 := hB.cell 1
  have r2 := hB.cell 2
  have r3 := hB.cell 3
  have r4 := hB.cell 4
  have r5 := hB.cell 5
  have r6 := hB.cell 6
  have r7 := hB.cell 7
  have r8 := hB.cell 8
  have r9 := hB.cell 9
  have rz := hB.fz
  have g1 : ¬ (w.heap.size + 1 + 1 = w1.heap.size) := by omega
  have g2 : ¬ (w1.heap.size = w.heap.size + 1 + 1) := by omega
  have HM := Lib.hid hm
  clear hm
  go_wp2_with fail
  obtain rfl := HM.out
  have hS10 := StO.set10 hO hB (.bool false) (.int .i64 (mergeS s t).buf) (.slice none 0 0) (.slice h1.fA (mergeS s t).F.length h1.fc) (.bool false) (.bool (mergeS s t).all) (.slice h1.rA (mergeS s t).R.length h1.rc) (.bool false) (.slice h1.oA (mergeS s t).O.length h1.oc) (.slice h1.pA (mergeS s t).P.length h1.pc)
  have hA := StO.be hS10 (bl_alloc (Below.refl _ _) (.cells #[.bool false, .int .i64 (mergeS s t).buf, .slice none 0 0, .slice h1.fA (mergeS s t).F.length h1.fc, .bool false, .bool (mergeS s t).all, .slice h1.rA (mergeS s t).R.length h1.rc, .bool false, .slice h1.oA (mergeS s t).O.length h1.oc, .slice h1.pA (mergeS s t).P.length h1.pc] 33))
  refine post_cell (w.heap.size + 1 + 1) 33 _ Try.results12 Try.underlying33 rfl (by kernel_rfl) rfl ((bk_st10 hB (.bool false) (.int .i64 (mergeS s t).buf) (.slice none 0 0) (.slice h1.fA (mergeS s t).F.length h1.fc) (.bool false) (.bool (mergeS s t).all) (.slice h1.rA (mergeS s t).R.length h1.rc) (.bool false) (.slice h1.oA (mergeS s t).O.length h1.oc) (.slice h1.pA (mergeS s t).P.length h1.pc)).al _) rfl ⟨{ h1 with dA := none, dc := 0 }, rfl, ⟨World.ownsRow_nil _ _ _ _, own_lower hA.f hle, own_lower hA.r hle, own_lower hA.o hle, own_lower hA.p hle⟩, bl_alloc (bl_set10 hbw (by omega) _ _ _ _ _ _ _ _ _ _) _⟩
theorem apply_any (s t : Stt) (hs ht : Hd) (w : World) (hS : StR w w.heap.size s hs) (hT : StR w w.heap.size t ht) (n : StN 1000 s) (m : StN 1000 t) :
    Calls Try.prog 12 #[.agg (stV s hs), .agg (stV t ht)] w fun e w' => ∃ h, e = .returned (.agg (stV (applyS s t) h)) ∧ StR w' w'.heap.size (applyS s t) h ∧ StC (applyS s t) h ∧ Below w.heap.size w w' := by
  refine (apply_O s t hs ht w hS hT n m).mono ?_
  rintro e w' ⟨h, rfl, hO, hb⟩
  exact ⟨h, rfl, hO.rd, hO.cp, hb⟩
end Go.Proofs.Ytnboncbekcodnaa.St
