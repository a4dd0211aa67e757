/- States: the printed contracts in terms of rows; few; Same. -/
import Derived.Test.YtnboncbekcodnaaPRx3
import Derived.Test.YtnboncbekcodnaaSt7
set_option linter.unusedVariables false
set_option linter.unusedSimpArgs false
namespace Go.Proofs.Ytnboncbekcodnaa.PR
open Go.RowKit Go.Proofs.YtnboncbekcodnaaW.PrintWords Go.Proofs.Ytnboncbekcodnaa.Kit Go.Proofs.Ytnboncbekcodnaa.St

theorem C_of {α β : Type} (κ : Kd α) (g : β → α) (f : β → List Value) (sz : Nat) (hs : κ.sz = sz) (hf : ∀ b, (f b).length = sz) (hK : ∀ (w : World) b, κ.K w (g b) (f b)) {w : World} {B : Nat} {A : Option Addr} {l : List β} (hl : l.length ≤ 9223372036854775807) (h : Rds w B sz A l.length (l.flatMap f)) : Kd.C κ w A l.length (l.map g) := by
  subst hs
  refine ⟨List.length_map _, hl, fun hn => ?_⟩
  obtain ⟨ad, rfl, _, hc⟩ := h.2 hn
  refine ⟨ad, rfl, fun i p hp => ?_⟩
  rw [List.getElem?_map] at hp
  obtain ⟨b, hb, rfl⟩ := Option.map_eq_some_iff.1 hp
  obtain ⟨hi, rfl⟩ := List.getElem?_eq_some_iff.1 hb
  refine ⟨f l[i], hf _, hK w _, fun j u hu => hc _ _ ?_⟩
  rw [flat_at f κ.sz hf l i hi j (by rw [← hf l[i]]; exact (List.getElem?_eq_some_iff.1 hu).1)]
  exact hu
theorem of_C {α β : Type} (κ : Kd α) (g : α → β) (f : β → List Value) (sz : Nat) (hs : κ.sz = sz) (h0s : 0 < sz) (hf : ∀ b, (f b).length = sz) (hO : ∀ (w : World) a c, κ.K w a c → c = f (g a)) {w : World} {A : Option Addr} {l : List α} (h : Kd.C κ w A l.length l) : Rds w w.heap.size sz A (l.map g).length ((l.map g).flatMap f) := by
  subst hs
  refine ⟨by rw [flat_len f κ.sz hf], fun hn => ?_⟩
  obtain ⟨ad, rfl, hc⟩ := h.2.2 (by simpa using hn)
  have key : ∀ (i : Nat) (hi : i < l.length) (j : Nat) (u : Value), (f (g l[i]))[j]? = some u → w.cell? (ad.add (i * κ.sz + j)) = some u := by
    intro i hi j u hu
    obtain ⟨c, _, hK, hcell⟩ := hc i l[i] (List.getElem?_eq_getElem hi)
    obtain rfl := hO _ _ _ hK
    exact hcell j u hu
  have hn' : 0 < l.length := by simpa using hn
  have h0 := World.block_lt_of_cell? w _ (key 0 hn' 0 _ (List.getElem?_eq_getElem (by rw [hf]; exact h0s)))
  rw [add_blk] at h0
  refine ⟨ad, rfl, h0, fun j u hu => ?_⟩
  have hl : j < (l.map g).length * κ.sz := by
    rw [← flat_len f κ.sz hf]
    exact (List.getElem?_eq_some_iff.1 hu).1
  have hj : j / κ.sz < l.length := by
    rw [List.length_map] at hl
    exact Nat.div_lt_of_lt_mul (by rw [Nat.mul_comm]; exact hl)
  have e : j = j / κ.sz * κ.sz + j % κ.sz := by rw [Nat.mul_comm]; exact (Nat.div_add_mod j κ.sz).symm
  rw [e, flat_at f κ.sz hf (l.map g) (j / κ.sz) (by simpa using hj) (j % κ.sz) (Nat.mod_lt _ h0s)] at hu
  rw [e]
  exact key _ hj _ u (by simpa using hu)
theorem rcC_len (r : Rc) : (rcC r).length = 4 := rfl
theorem inC_len (r : Int) : (inC r).length = 1 := rfl
def toR (s : S47) : Rc := ⟨s.f0, s.f1, s.f2, s.f3⟩
def ofR (r : Rc) : S47 := ⟨r.x, r.y, r.w, r.h⟩
def toC (s : S24) : Ch := ⟨s.f0, s.f1, s.f2⟩
def ofC (c : Ch) : S24 := ⟨c.id, c.x, c.y⟩
theorem ofR_inj {a b : Rc} (h : ofR a = ofR b) : a = b := by
  obtain ⟨a0, a1, a2, a3⟩ := a
  obtain ⟨b0, b1, b2, b3⟩ := b
  simp only [ofR, S47.mk.injEq] at h
  obtain ⟨rfl, rfl, rfl, rfl⟩ := h
  rfl
theorem ofC_inj {a b : Ch} (h : ofC a = ofC b) : a = b := by
  obtain ⟨a0, a1, a2⟩ := a
  obtain ⟨b0, b1, b2⟩ := b
  simp only [ofC, S24.mk.injEq] at h
  obtain ⟨rfl, rfl, rfl⟩ := h
  rfl
theorem map_inj {α β : Type} {g : α → β} (hg : ∀ {a b}, g a = g b → a = b) : ∀ {l m : List α}, l.map g = m.map g → l = m
  | [], [], _ => rfl
  | [], b :: m, h => by simp at h
  | a :: l, [], h => by simp at h
  | a :: l, b :: m, h => by
    simp only [List.map_cons, List.cons.injEq] at h
    rw [hg h.1, map_inj hg h.2]
theorem rect_C {w : World} {B : Nat} {A : Option Addr} {l : List Rc} (hl : l.length ≤ 9223372036854775807) (h : Rds w B 4 A l.length (l.flatMap rcC)) : Kd.C k47 w A (l.map ofR).length (l.map ofR) := by
  rw [List.length_map]
  exact C_of _ ofR rcC 4 rfl rcC_len (fun w b => k47_mk w (ofR b)) hl h
theorem child_C {w : World} {B : Nat} {A : Option Addr} {l : List Ch} (hl : l.length ≤ 9223372036854775807) (h : Rds w B 3 A l.length (l.flatMap chC)) : Kd.C k24 w A (l.map ofC).length (l.map ofC) := by
  rw [List.length_map]
  exact C_of _ ofC chC 3 rfl chC_len (fun w b => k24_mk w (ofC b)) hl h
theorem ints_C' {w : World} {B : Nat} {A : Option Addr} {l : List Int} (hl : l.length ≤ 9223372036854775807) (h : Rds w B 1 A l.length (l.flatMap inC)) : Kd.C (Kd.int .i64) w A l.length l := by
  have := C_of (Kd.int .i64) (fun i : Int => i) inC 1 rfl inC_len (fun w b => rfl) hl h
  rw [List.map_id''] at this
  · exact this
  · exact fun _ => rfl
theorem C_rect {w : World} {A : Option Addr} {l : List S47} (h : Kd.C k47 w A l.length l) : Rds w w.heap.size 4 A (l.map toR).length ((l.map toR).flatMap rcC) :=
  of_C _ toR rcC 4 rfl (by omega) rcC_len (fun w a c h => k47_open h) h
theorem C_child {w : World} {A : Option Addr} {l : List S24} (h : Kd.C k24 w A l.length l) : Rds w w.heap.size 3 A (l.map toC).length ((l.map toC).flatMap chC) :=
  of_C _ toC chC 3 rfl (by omega) chC_len (fun w a c h => k24_open h) h
theorem C_ints {w : World} {A : Option Addr} {l : List Int} (h : Kd.C (Kd.int .i64) w A l.length l) : Rds w w.heap.size 1 A l.length (l.flatMap inC) := by
  have := of_C (Kd.int .i64) (fun i : Int => i) inC 1 rfl (by omega) inC_len (fun w a c h => h) h
  rw [List.map_id''] at this
  · exact this
  · exact fun _ => rfl

/-- From some fuel on. -/
def Ev {α : Type} (g : Nat → Option α) (v : α) : Prop := ∃ K, ∀ k, K ≤ k → g k = some v
theorem Ev.ret {α : Type} (v : α) : Ev (fun _ => some v) v := ⟨0, fun _ _ => rfl⟩
theorem Ev.next {α : Type} {g G : Nat → Option α} {v : α} (h : ∀ k, g (k + 1) = G k) (e : Ev G v) : Ev g v := by
  obtain ⟨K, hK⟩ := e
  refine ⟨K + 1, fun k hk => ?_⟩
  obtain ⟨m, rfl⟩ : ∃ m, k = m + 1 := ⟨k - 1, by omega⟩
  rw [h, hK m (by omega)]
theorem Ev.congr {α : Type} {g G : Nat → Option α} {v : α} (h : ∀ k, g k = G k) (e : Ev G v) : Ev g v := by
  obtain ⟨K, hK⟩ := e
  exact ⟨K, fun k hk => by rw [h, hK k hk]⟩
theorem Ev.bind {α β : Type} {g : Nat → Option β} {h : Nat → β → Option α} {v : β} {u : α} (e1 : Ev g v) (e2 : Ev (fun k => h k v) u) : Ev (fun k => (g k).bind (h k)) u := by
  obtain ⟨K, hK⟩ := e1
  obtain ⟨M, hM⟩ := e2
  exact ⟨max K M, fun k hk => by show (g k).bind (h k) = some u; rw [hK k (by omega)]; exact hM k (by omega)⟩
theorem Ev.pos {α : Type} {c : Prop} [Decidable c] {g h : Nat → Option α} {v : α} (hc : c) (e : Ev g v) : Ev (fun k => if c then g k else h k) v := Ev.congr (fun k => if_pos hc) e
theorem Ev.neg {α : Type} {c : Prop} [Decidable c] {g h : Nat → Option α} {v : α} (hc : ¬ c) (e : Ev h v) : Ev (fun k => if c then g k else h k) v := Ev.congr (fun k => if_neg hc) e
theorem Ev.some_ {α : Type} {g : Nat → Option α} {v : α} (e : Ev g v) : ∃ k, g k = some v := let ⟨K, hK⟩ := e; ⟨K, hK K (Nat.le_refl _)⟩
theorem w64 {n : Int} (h0 : -9223372036854775808 ≤ n) (h1 : n ≤ 9223372036854775807) : wrap64 n = n := by unfold wrap64; omega
/-- It answers whether p. -/
def Tells (g : Nat → Option Bool) (p : Prop) : Prop := ∃ r, Ev g r ∧ (r = true ↔ p)
theorem Tells.yes {g : Nat → Option Bool} {p : Prop} (h : Tells g p) (hp : p) : Ev g true := by
  obtain ⟨r, e, hr⟩ := h
  rw [hr.2 hp] at e; exact e
theorem Tells.no {g : Nat → Option Bool} {p : Prop} (h : Tells g p) (hp : ¬ p) : Ev g false := by
  obtain ⟨r, e, hr⟩ := h
  cases r with
  | true => exact absurd (hr.1 rfl) hp
  | false => exact e
theorem Tells.of {g : Nat → Option Bool} {p : Prop} (h1 : p → Ev g true) (h2 : ¬ p → Ev g false) : Tells g p := by
  by_cases hp : p
  · exact ⟨true, h1 hp, by simp [hp]⟩
  · exact ⟨false, h2 hp, by simp [hp]⟩
theorem rdI {x : List Int} {i : Nat} (h : i < x.length) : rd x (i : Int) = x[i] := by
  unfold rd
  rw [Int.toNat_natCast, List.getD_eq_getElem?_getD, List.getElem?_eq_getElem h]; rfl
theorem rdC {x : List S24} {i : Nat} (h : i < x.length) : rd_T24 x (i : Int) = x[i] := by
  unfold rd_T24
  rw [Int.toNat_natCast, List.getD_eq_getElem?_getD, List.getElem?_eq_getElem h]; rfl
theorem rdR {x : List S47} {i : Nat} (h : i < x.length) : rd_T47 x (i : Int) = x[i] := by
  unfold rd_T47
  rw [Int.toNat_natCast, List.getD_eq_getElem?_getD, List.getElem?_eq_getElem h]; rfl
def neC (a b : S24) : Bool := (!(a.f0 == b.f0) || (!(a.f1 == b.f1) || (!(a.f2 == b.f2))))
theorem eqC (a b : S24) : neC a b = true ↔ a ≠ b := by
  unfold neC
  obtain ⟨a0, a1, a2⟩ := a
  obtain ⟨b0, b1, b2⟩ := b
  simp only [ne_eq, S24.mk.injEq, Bool.or_eq_true, Bool.not_eq_true', beq_eq_false_iff_ne]
  omega
def neR (a b : S47) : Bool := (!(a.f0 == b.f0) || (!(a.f1 == b.f1) || (!(a.f2 == b.f2) || (!(a.f3 == b.f3)))))
theorem eqR (a b : S47) : neR a b = true ↔ a ≠ b := by
  unfold neR
  obtain ⟨a0, a1, a2, a3⟩ := a
  obtain ⟨b0, b1, b2, b3⟩ := b
  simp only [ne_eq, S47.mk.injEq, Bool.or_eq_true, Bool.not_eq_true', beq_eq_false_iff_ne]
  omega
theorem sameInts_l {l m : List Int} (hl : l.length ≤ 9223372036854775806) (hm : l.length = m.length) : ∀ (n i : Nat), i + n = l.length → Tells (fun k => tableaulaw00_SameInts.l0 k l m (i : Int)) (l.drop i = m.drop i)
  | 0, i, h => by
    refine Tells.of (fun _ => ?_) (fun hp => absurd ?_ hp)
    · exact Ev.next (G := fun _ => some true) (fun k => by rw [tableaulaw00_SameInts.l0, if_neg (by omega)]) (Ev.ret _)
    · rw [List.drop_of_length_le (by omega), List.drop_of_length_le (by omega)]
  | n + 1, i, h => by
    have hi : i < l.length := by omega
    have hj : i < m.length := by omega
    have e1 : wrap64 ((i : Int) + 1) = ((i + 1 : Nat) : Int) := by rw [w64 (by omega) (by omega)]; rfl
    have ih := sameInts_l hl hm n (i + 1) (by omega)
    rw [List.drop_eq_getElem_cons hi, List.drop_eq_getElem_cons hj, List.cons.injEq]
    have st : ∀ k, tableaulaw00_SameInts.l0 (k + 1) l m (i : Int) = if l[i] = m[i] then tableaulaw00_SameInts.l0 k l m ((i + 1 : Nat) : Int) else some false := fun k => by
      rw [tableaulaw00_SameInts.l0, if_pos (by omega), if_pos (by omega), if_pos (by omega), rdI hi, rdI hj, e1]
    by_cases he : l[i] = m[i]
    · refine Tells.of (fun hp => ?_) (fun hp => ?_)
      · exact Ev.next st (Ev.pos he (ih.yes hp.2))
      · exact Ev.next st (Ev.pos he (ih.no fun q => hp ⟨he, q⟩))
    · refine Tells.of (fun hp => absurd hp.1 he) (fun hp => ?_)
      exact Ev.next st (Ev.neg he (Ev.ret _))
theorem sameInts_tells (l m : List Int) (hl : l.length ≤ 9223372036854775806) : Tells (fun k => tableaulaw00_SameInts.f k l m) (l = m) := by
  by_cases hm : l.length = m.length
  · have := sameInts_l hl hm l.length 0 (by omega)
    rw [List.drop_zero, List.drop_zero] at this
    obtain ⟨r, e, hr⟩ := this
    exact ⟨r, Ev.congr (fun k => by unfold tableaulaw00_SameInts.f; rw [if_pos (by omega)]; rfl) e, hr⟩
  · exact Tells.of (fun hp => absurd (by rw [hp]) hm) (fun _ => Ev.congr (G := fun _ => some false) (fun k => by unfold tableaulaw00_SameInts.f; rw [if_neg (by omega)]) (Ev.ret _))
theorem sameCh_l {l m : List S24} (hl : l.length ≤ 9223372036854775806) (hm : l.length = m.length) : ∀ (n i : Nat), i + n = l.length → Tells (fun k => tableaulaw00_SameChildren.l0 k l m (i : Int)) (l.drop i = m.drop i)
  | 0, i, h => by
    refine Tells.of (fun _ => ?_) (fun hp => absurd ?_ hp)
    · exact Ev.next (G := fun _ => some true) (fun k => by rw [tableaulaw00_SameChildren.l0, if_neg (by omega)]) (Ev.ret _)
    · rw [List.drop_of_length_le (by omega), List.drop_of_length_le (by omega)]
  | n + 1, i, h => by
    have hi : i < l.length := by omega
    have hj : i < m.length := by omega
    have e1 : wrap64 ((i : Int) + 1) = ((i + 1 : Nat) : Int) := by rw [w64 (by omega) (by omega)]; rfl
    have ih := sameCh_l hl hm n (i + 1) (by omega)
    rw [List.drop_eq_getElem_cons hi, List.drop_eq_getElem_cons hj, List.cons.injEq]
    have st : ∀ k, tableaulaw00_SameChildren.l0 (k + 1) l m (i : Int) = if neC l[i] m[i] = true then some false else tableaulaw00_SameChildren.l0 k l m ((i + 1 : Nat) : Int) := fun k => by
      rw [tableaulaw00_SameChildren.l0, if_pos (by omega), if_pos (by omega), if_pos (by omega), rdC hi, rdC hj, e1]
      rfl
    by_cases he : l[i] = m[i]
    · refine Tells.of (fun hp => ?_) (fun hp => ?_)
      · exact Ev.next st (Ev.neg (fun q => (eqC _ _).1 q he) (ih.yes hp.2))
      · exact Ev.next st (Ev.neg (fun q => (eqC _ _).1 q he) (ih.no fun q => hp ⟨he, q⟩))
    · refine Tells.of (fun hp => absurd hp.1 he) (fun hp => ?_)
      exact Ev.next st (Ev.pos ((eqC _ _).2 he) (Ev.ret _))
theorem sameCh_tells (l m : List S24) (hl : l.length ≤ 9223372036854775806) : Tells (fun k => tableaulaw00_SameChildren.f k l m) (l = m) := by
  by_cases hm : l.length = m.length
  · have := sameCh_l hl hm l.length 0 (by omega)
    rw [List.drop_zero, List.drop_zero] at this
    obtain ⟨r, e, hr⟩ := this
    exact ⟨r, Ev.congr (fun k => by unfold tableaulaw00_SameChildren.f; rw [if_pos (by omega)]; rfl) e, hr⟩
  · exact Tells.of (fun hp => absurd (by rw [hp]) hm) (fun _ => Ev.congr (G := fun _ => some false) (fun k => by unfold tableaulaw00_SameChildren.f; rw [if_neg (by omega)]) (Ev.ret _))
theorem eqInts_l {l m : List Int} (hl : l.length ≤ 9223372036854775806) (hm : l.length = m.length) : ∀ (n i : Nat), i + n = l.length → Tells (fun k => slices_Equal_int_int.l0 k l m (l.length : Int) (i : Int)) (l.drop i = m.drop i)
  | 0, i, h => by
    refine Tells.of (fun _ => ?_) (fun hp => absurd ?_ hp)
    · exact Ev.next (G := fun _ => some true) (fun k => by rw [slices_Equal_int_int.l0, if_neg (by omega)]) (Ev.ret _)
    · rw [List.drop_of_length_le (by omega), List.drop_of_length_le (by omega)]
  | n + 1, i, h => by
    have hi : i < l.length := by omega
    have hj : i < m.length := by omega
    have e1 : wrap64 ((i : Int) + 1) = ((i + 1 : Nat) : Int) := by rw [w64 (by omega) (by omega)]; rfl
    have ih := eqInts_l hl hm n (i + 1) (by omega)
    rw [List.drop_eq_getElem_cons hi, List.drop_eq_getElem_cons hj, List.cons.injEq]
    have st : ∀ k, slices_Equal_int_int.l0 (k + 1) l m (l.length : Int) (i : Int) = if l[i] = m[i] then slices_Equal_int_int.l0 k l m (l.length : Int) ((i + 1 : Nat) : Int) else some false := fun k => by
      rw [slices_Equal_int_int.l0, if_pos (by omega), if_pos (by omega), if_pos (by omega), if_pos (by omega), rdI hi, rdI hj, e1]
    by_cases he : l[i] = m[i]
    · refine Tells.of (fun hp => ?_) (fun hp => ?_)
      · exact Ev.next st (Ev.pos he (ih.yes hp.2))
      · exact Ev.next st (Ev.pos he (ih.no fun q => hp ⟨he, q⟩))
    · refine Tells.of (fun hp => absurd hp.1 he) (fun hp => ?_)
      exact Ev.next st (Ev.neg he (Ev.ret _))
theorem eqInts_tells (l m : List Int) (hl : l.length ≤ 9223372036854775806) : Tells (fun k => slices_Equal_int_int.f k l m) (l = m) := by
  by_cases hm : l.length = m.length
  · have := eqInts_l hl hm l.length 0 (by omega)
    rw [List.drop_zero, List.drop_zero] at this
    obtain ⟨r, e, hr⟩ := this
    exact ⟨r, Ev.congr (fun k => by unfold slices_Equal_int_int.f; rw [if_pos (by omega)]; rfl) e, hr⟩
  · exact Tells.of (fun hp => absurd (by rw [hp]) hm) (fun _ => Ev.congr (G := fun _ => some false) (fun k => by unfold slices_Equal_int_int.f; rw [if_neg (by omega)]) (Ev.ret _))
theorem eqRects_l {l m : List S47} (hl : l.length ≤ 9223372036854775806) (hm : l.length = m.length) : ∀ (n i : Nat), i + n = l.length → Tells (fun k => api_Rect_30.l0 k l m (l.length : Int) (i : Int)) (l.drop i = m.drop i)
  | 0, i, h => by
    refine Tells.of (fun _ => ?_) (fun hp => absurd ?_ hp)
    · exact Ev.next (G := fun _ => some true) (fun k => by rw [api_Rect_30.l0, if_neg (by omega)]) (Ev.ret _)
    · rw [List.drop_of_length_le (by omega), List.drop_of_length_le (by omega)]
  | n + 1, i, h => by
    have hi : i < l.length := by omega
    have hj : i < m.length := by omega
    have e1 : wrap64 ((i : Int) + 1) = ((i + 1 : Nat) : Int) := by rw [w64 (by omega) (by omega)]; rfl
    have ih := eqRects_l hl hm n (i + 1) (by omega)
    rw [List.drop_eq_getElem_cons hi, List.drop_eq_getElem_cons hj, List.cons.injEq]
    have st : ∀ k, api_Rect_30.l0 (k + 1) l m (l.length : Int) (i : Int) = if neR l[i] m[i] = true then some false else api_Rect_30.l0 k l m (l.length : Int) ((i + 1 : Nat) : Int) := fun k => by
      rw [api_Rect_30.l0, if_pos (by omega), if_pos (by omega), if_pos (by omega), if_pos (by omega), rdR hi, rdR hj, e1]
      rfl
    by_cases he : l[i] = m[i]
    · refine Tells.of (fun hp => ?_) (fun hp => ?_)
      · exact Ev.next st (Ev.neg (fun q => (eqR _ _).1 q he) (ih.yes hp.2))
      · exact Ev.next st (Ev.neg (fun q => (eqR _ _).1 q he) (ih.no fun q => hp ⟨he, q⟩))
    · refine Tells.of (fun hp => absurd hp.1 he) (fun hp => ?_)
      exact Ev.next st (Ev.pos ((eqR _ _).2 he) (Ev.ret _))
theorem eqRects_tells (l m : List S47) (hl : l.length ≤ 9223372036854775806) : Tells (fun k => api_Rect_30.f k l m) (l = m) := by
  by_cases hm : l.length = m.length
  · have := eqRects_l hl hm l.length 0 (by omega)
    rw [List.drop_zero, List.drop_zero] at this
    obtain ⟨r, e, hr⟩ := this
    exact ⟨r, Ev.congr (fun k => by unfold api_Rect_30.f; rw [if_pos (by omega)]; rfl) e, hr⟩
  · exact Tells.of (fun hp => absurd (by rw [hp]) hm) (fun _ => Ev.congr (G := fun _ => some false) (fun k => by unfold api_Rect_30.f; rw [if_neg (by omega)]) (Ev.ret _))
theorem eqChs_l {l m : List S24} (hl : l.length ≤ 9223372036854775806) (hm : l.length = m.length) : ∀ (n i : Nat), i + n = l.length → Tells (fun k => api_Child_32.l0 k l m (l.length : Int) (i : Int)) (l.drop i = m.drop i)
  | 0, i, h => by
    refine Tells.of (fun _ => ?_) (fun hp => absurd ?_ hp)
    · exact Ev.next (G := fun _ => some true) (fun k => by rw [api_Child_32.l0, if_neg (by omega)]) (Ev.ret _)
    · rw [List.drop_of_length_le (by omega), List.drop_of_length_le (by omega)]
  | n + 1, i, h => by
    have hi : i < l.length := by omega
    have hj : i < m.length := by omega
    have e1 : wrap64 ((i : Int) + 1) = ((i + 1 : Nat) : Int) := by rw [w64 (by omega) (by omega)]; rfl
    have ih := eqChs_l hl hm n (i + 1) (by omega)
    rw [List.drop_eq_getElem_cons hi, List.drop_eq_getElem_cons hj, List.cons.injEq]
    have st : ∀ k, api_Child_32.l0 (k + 1) l m (l.length : Int) (i : Int) = if neC l[i] m[i] = true then some false else api_Child_32.l0 k l m (l.length : Int) ((i + 1 : Nat) : Int) := fun k => by
      rw [api_Child_32.l0, if_pos (by omega), if_pos (by omega), if_pos (by omega), if_pos (by omega), rdC hi, rdC hj, e1]
      rfl
    by_cases he : l[i] = m[i]
    · refine Tells.of (fun hp => ?_) (fun hp => ?_)
      · exact Ev.next st (Ev.neg (fun q => (eqC _ _).1 q he) (ih.yes hp.2))
      · exact Ev.next st (Ev.neg (fun q => (eqC _ _).1 q he) (ih.no fun q => hp ⟨he, q⟩))
    · refine Tells.of (fun hp => absurd hp.1 he) (fun hp => ?_)
      exact Ev.next st (Ev.pos ((eqC _ _).2 he) (Ev.ret _))
theorem eqChs_tells (l m : List S24) (hl : l.length ≤ 9223372036854775806) : Tells (fun k => api_Child_32.f k l m) (l = m) := by
  by_cases hm : l.length = m.length
  · have := eqChs_l hl hm l.length 0 (by omega)
    rw [List.drop_zero, List.drop_zero] at this
    obtain ⟨r, e, hr⟩ := this
    exact ⟨r, Ev.congr (fun k => by unfold api_Child_32.f; rw [if_pos (by omega)]; rfl) e, hr⟩
  · exact Tells.of (fun hp => absurd (by rw [hp]) hm) (fun _ => Ev.congr (G := fun _ => some false) (fun k => by unfold api_Child_32.f; rw [if_neg (by omega)]) (Ev.ret _))
end Go.Proofs.Ytnboncbekcodnaa.PR
