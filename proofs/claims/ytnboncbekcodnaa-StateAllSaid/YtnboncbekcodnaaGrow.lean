/- A law for a region that draws its order and makes memory: each operation shown once. -/
import Derived.OrdersHeld
import Derived.Tactics
set_option linter.unusedVariables false
set_option linter.unusedSimpArgs false
namespace Go.Proofs.Ytnboncbekcodnaa.Grow
open Go
section
variable {P : Program} {ops : Array Oper} {Q : Exit → Act → World → Prop} {md : Region.Mode}

/-- how many have not come up -/
def left (ops : Array Oper) (listed : Array Bool) : Nat := (List.range ops.size).countP fun i => !listed.getD i true

theorem count_lt {α : Type} [DecidableEq α] (p q : α → Bool) (i : α) : ∀ l : List α, i ∈ l → (∀ x, q x = true → p x = true) → p i = true → q i = false → l.countP q < l.countP p
  | [], h, _, _, _ => absurd h (by simp)
  | a :: l, h, hpq, hp, hq => by
    have hle : l.countP q ≤ l.countP p := List.countP_mono_left fun x _ hx => hpq x hx
    simp only [List.countP_cons]
    by_cases ha : a = i
    · subst ha; rw [hp, hq]; simp; omega
    · have := count_lt p q i l (by simpa [Ne.symm ha] using h) hpq hp hq
      by_cases h1 : q a = true
      · rw [h1, hpq a h1]; simp; omega
      · simp only [Bool.not_eq_true] at h1; rw [h1]; simp; split <;> omega

theorem left_zero (listed : Array Bool) (h : left ops listed = 0) : Region.ready md ops listed = [] := by
  unfold left at h
  rw [List.countP_eq_zero] at h
  unfold Region.ready
  rw [List.filter_eq_nil_iff]
  intro i hi hc
  simp only [Bool.and_eq_true] at hc
  exact h i hi hc.1

theorem wpAny_each (I : Array Bool → Act → World → Prop)
    (hstep : ∀ listed a w i, i ∈ Region.ready md ops listed → I listed a w → wpOp P ops Q i (I (listed.setIfInBounds i true)) a w)
    (hend : ∀ listed a w, Region.ready md ops listed = [] → I listed a w → Q .normal a w) :
    ∀ (fuel : Nat) (listed : Array Bool) (a : Act) (w : World), left ops listed ≤ fuel → I listed a w → wpAny P md ops Q fuel listed a w
  | 0, listed, a, w, hf, hI => ⟨left_zero listed (by omega), hend _ _ _ (left_zero listed (by omega)) hI⟩
  | fuel + 1, listed, a, w, hf, hI => by
    refine ⟨fun h => hend _ _ _ h hI, fun i hi => wpOp_mono (fun a' w' h' => ?_) (hstep _ _ _ _ hi hI)⟩
    refine wpAny_each I hstep hend fuel _ a' w' ?_ h'
    have hi' := hi
    unfold Region.ready at hi'
    rw [List.mem_filter] at hi'
    obtain ⟨hm, hc⟩ := hi'
    simp only [Bool.and_eq_true] at hc
    have hlt : i < listed.size := by
      rcases Nat.lt_or_ge i listed.size with h | h
      · exact h
      · have := hc.1; simp [Array.getElem?_eq_none h] at this
    have : left ops (listed.setIfInBounds i true) < left ops listed := by
      refine count_lt _ _ i _ hm (fun x hx => ?_) hc.1 ?_
      · by_cases hxi : x = i
        · subst hxi; exact hc.1
        · simpa [Array.getElem?_setIfInBounds, Ne.symm hxi] using hx
      · simp [Array.getElem?_setIfInBounds, hlt]
    omega

/-- **A region that draws, by an invariant over what has come up.** -/
theorem wp_region_each {id : Nat} {a : Act} {w : World} (hm : P.follows .mixedOrders = true) (I : Array Bool → Act → World → Prop)
    (h0 : I (Array.replicate ops.size false) a { w with drawn := w.drawn + 1 })
    (hstep : ∀ listed a w i, i ∈ Region.ready .any ops listed → I listed a w → wpOp P ops Q i (I (listed.setIfInBounds i true)) a w)
    (hend : ∀ listed a w, Region.ready .any ops listed = [] → I listed a w → Q .normal a w) : (Code.region id ops true).wp P Q a w :=
  wp_region_any hm (wpAny_each I hstep hend _ _ _ _ (by unfold left; exact Nat.le_trans List.countP_le_length (by simp)) h0)

/-- the value that an operation has put into its slot -/
def valOf (a : Act) (o : Oper) : Value := match o.dst with | some d => a.tmps.getD d undef | none => undef

/-- what is held in the midst of a region -/
structure Mid (ops : Array Oper) (a0 : Act) (G : World → Prop) (a : Act) (w : World) : Prop where
  dfr : a.defers = a0.defers
  sz : a.tmps.size = a0.tmps.size
  old : ∀ k, (∀ (j : Nat) (o : Oper), ops[j]? = some o → o.dst ≠ some k) → a.tmps.getD k undef = a0.tmps.getD k undef
  g : G w

theorem put_size (a : Act) (d : Option Tmp) (v : Value) : (a.put d v).tmps.size = a.tmps.size := by unfold Act.put; split <;> simp
theorem put_defers (a : Act) (d : Option Tmp) (v : Value) : (a.put d v).defers = a.defers := by unfold Act.put; split <;> rfl
theorem put_other (a : Act) (d : Option Tmp) (v : Value) (k : Nat) (h : d ≠ some k) : (a.put d v).tmps.getD k undef = a.tmps.getD k undef := by
  unfold Act.put
  split
  · rename_i x
    have : x ≠ k := fun e => h (by rw [e])
    simp [Array.getElem?_setIfInBounds, this]
  · rfl
theorem put_same (a : Act) (d : Nat) (v : Value) (h : d < a.tmps.size) : (a.put (some d) v).tmps.getD d undef = v := by
  unfold Act.put
  simp [Array.getElem?_setIfInBounds, h]

/-- **A region that draws, by a fact for each operation but the last**: each is shown once, out of the facts of those that it waits for. -/
theorem wp_region_facts {id : Nat} {a0 : Act} {w0 : World} (hm : P.follows .mixedOrders = true) (n : Nat) (hn : n < ops.size) (G : World → Prop) (Φ : Nat → Value → World → Prop) (T : Nat → World → World → Prop)
    (hdst : ∀ (i j : Nat) (oi oj : Oper) (d : Nat), ops[i]? = some oi → ops[j]? = some oj → oi.dst = some d → oj.dst = some d → i = j)
    (hin : ∀ (j : Nat) (o : Oper) (d : Nat), ops[j]? = some o → o.dst = some d → d < a0.tmps.size)
    (hlast : ∀ L : Nat → Prop, (∀ o : Oper, ops[n]? = some o → ∀ e ∈ o.after, Region.binds .any e = true → L e.on) → (∀ (j : Nat) (o : Oper), ops[j]? = some o → L j → ∀ e ∈ o.after, Region.binds .any e = true → L e.on) → ∀ j, j < ops.size → j ≠ n → L j)
    (hord : ∀ (i : Nat) (o : Oper), ops[i]? = some o → ∀ e ∈ o.after, Region.binds .any e = true → e.on < i)
    (hstab : ∀ i j v w w', i ≠ j → Φ j v w → T i w w' → Φ j v w')
    (h0 : G { w0 with drawn := w0.drawn + 1 })
    (hop : ∀ (i : Nat) (o : Oper), ops[i]? = some o → i ≠ n → ∀ a w, Mid ops a0 G a w → (∀ e ∈ o.after, Region.binds .any e = true → e.on ≠ n → ∀ o', ops[e.on]? = some o' → Φ e.on (valOf a o') w) →
      wpOp P ops Q i (fun a' w' => ∃ v, a' = a.put o.dst v ∧ Φ i (if o.dst.isSome then v else undef) w' ∧ T i w w' ∧ G w') a w)
    (hfin : ∀ a w, Mid ops a0 G a w → (∀ j o, j ≠ n → ops[j]? = some o → Φ j (valOf a o) w) → wpOp P ops Q n (Q .normal) a w) :
    (Code.region id ops true).wp P Q a0 w0 := by
  refine wp_region_each hm (fun listed a w => (listed.getD n true = true → (∀ j, j < ops.size → listed.getD j true = true) ∧ Q .normal a w) ∧ (listed.getD n true = false → Mid ops a0 G a w ∧ ∀ j o, j ≠ n → ops[j]? = some o → listed.getD j false = true → Φ j (valOf a o) w) ∧ (∀ (j : Nat) (o : Oper), ops[j]? = some o → listed.getD j false = true → ∀ e ∈ o.after, Region.binds .any e = true → listed.getD e.on false = true)) ?_ ?_ ?_
  · refine ⟨fun h => ?_, fun _ => ⟨⟨rfl, rfl, fun _ _ => rfl, h0⟩, fun j o _ _ h => ?_⟩, fun j o _ h => ?_⟩
    · simp [hn] at h
    · rcases Nat.lt_or_ge j ops.size with hj | hj
      · simp [hj] at h
      · simp [Nat.not_lt.2 hj] at h
    · rcases Nat.lt_or_ge j ops.size with hj | hj
      · simp [hj] at h
      · simp [Nat.not_lt.2 hj] at h
  · intro listed a w i hi hI
    obtain ⟨hun, oi, hoi, hall⟩ := mem_ready.1 hi
    have hcl : ∀ (j : Nat) (o : Oper), ops[j]? = some o → (listed.setIfInBounds i true).getD j false = true → ∀ e ∈ o.after, Region.binds .any e = true → (listed.setIfInBounds i true).getD e.on false = true := by
      intro j o ho hj e he hb
      apply getD_set_true
      by_cases hij : i = j
      · subst hij
        rw [hoi] at ho
        obtain rfl : oi = o := by simpa using ho
        exact hall e he hb
      · rw [getD_set_ne false hij] at hj
        exact hI.2.2 j o ho hj e he hb
    have hany : i = n → ∀ j, j < ops.size → j ≠ n → listed.getD j false = true := by
      intro hin
      subst hin
      refine hlast _ (fun o ho e he hb => ?_) (fun j o ho hj e he hb => hI.2.2 j o ho hj e he hb)
      rw [hoi] at ho
      obtain rfl : oi = o := by simpa using ho
      exact hall e he hb
    by_cases hin' : i = n
    · subst hin'
      obtain ⟨hM, hF⟩ := hI.2.1 hun
      refine wpOp_mono (K := Q .normal) (fun a' w' h => ⟨fun _ => ⟨fun j hj => ?_, h⟩, fun hc => ?_, hcl⟩) (hfin a w hM fun j o hj ho => hF j o hj ho ?_)
      · by_cases hji : i = j
        · subst hji
          have hlt : i < listed.size := by
            rcases Nat.lt_or_ge i listed.size with h | h
            · exact h
            · simp [Array.getElem?_eq_none h] at hun
          simp [Array.getElem?_setIfInBounds, hlt]
        · rw [getD_set_ne true hji]
          have := hany rfl j hj (Ne.symm hji)
          rcases Nat.lt_or_ge j listed.size with h | h
          · simpa [h] using this
          · simp [Array.getElem?_eq_none h] at this
      · have hlt : i < listed.size := by
          rcases Nat.lt_or_ge i listed.size with h | h
          · exact h
          · simp [Array.getElem?_eq_none h] at hun
        simp [Array.getElem?_setIfInBounds, hlt] at hc
      · have hj' : j < ops.size := by
          rcases Nat.lt_or_ge j ops.size with h | h
          · exact h
          · simp [Array.getElem?_eq_none h] at ho
        exact hany rfl j hj' hj
    · by_cases hl : listed.getD n true = false
      · obtain ⟨hM, hF⟩ := hI.2.1 hl
        refine wpOp_mono (fun a' w' h => ?_) (hop i oi hoi hin' a w hM fun e he hb hne o' ho' => hF _ _ hne ho' (hall e he hb))
        obtain ⟨v, rfl, hv, hT, hG⟩ := h
        have e1 : (listed.setIfInBounds i true).getD n true = listed.getD n true := getD_set_ne true hin'
        refine ⟨fun hc => ?_, fun _ => ⟨Mid.mk ?_ ?_ ?_ hG, ?_⟩, hcl⟩
        · rw [e1, hl] at hc; cases hc
        · rw [put_defers]; exact hM.dfr
        · rw [put_size]; exact hM.sz
        · intro k hk; rw [put_other _ _ _ _ (hk i oi hoi)]; exact hM.old k hk
        · intro j o hj ho hlj
          by_cases hij : i = j
          · subst hij
            rw [hoi] at ho
            obtain rfl : oi = o := by simpa using ho
            unfold valOf
            cases hd : oi.dst with
            | none => simpa [hd] using hv
            | some d =>
              simp only
              rw [put_same _ _ _ (by rw [hM.sz]; exact hin _ _ _ hoi hd)]
              simpa [hd] using hv
          · have e2 : valOf (a.put oi.dst v) o = valOf a o := by
              unfold valOf
              cases hd : o.dst with
              | none => rfl
              | some d => exact put_other _ _ _ _ fun hc => hij (hdst i j oi o d hoi ho hc hd)
            rw [e2]
            rw [getD_set_ne false hij] at hlj
            exact hstab i j _ w w' hij (hF j o hj ho hlj) hT
      · exfalso
        simp only [Bool.not_eq_false] at hl
        have hi' : i < ops.size := by
          rcases Nat.lt_or_ge i ops.size with h | h
          · exact h
          · simp [Array.getElem?_eq_none h] at hoi
        have := (hI.1 hl).1 i hi'
        rw [hun] at this
        cases this
  · intro listed a w hr hI
    refine (hI.1 ?_).2
    have hall : ∀ m, m < ops.size → listed.getD m true = true := by
      intro m
      induction m using Nat.strongRecOn with
      | _ m ih =>
        intro hm'
        by_cases hc : listed.getD m true = true
        · exact hc
        · exfalso
          simp only [Bool.not_eq_true] at hc
          have : m ∈ Region.ready .any ops listed := mem_ready.2 ⟨hc, ops[m], Array.getElem?_eq_getElem hm', fun e he hb => ?_⟩
          · rw [hr] at this; cases this
          · have hlt := hord m ops[m] (Array.getElem?_eq_getElem hm') e he hb
            have h2 := ih e.on hlt (by omega)
            rcases Nat.lt_or_ge e.on listed.size with h | h
            · simpa [h] using h2
            · have h3 : listed.getD m true = true := by simp [Array.getElem?_eq_none (show listed.size ≤ m by omega)]
              rw [hc] at h3; cases h3
    exact hall n hn

/-! the side conditions, as Bools for the kernel -/
def okDst (ops : Array Oper) : Bool := (List.range ops.size).all fun i => (List.range ops.size).all fun j => i == j || ((ops[i]?).bind (·.dst)).isNone || (ops[i]?).bind (·.dst) != (ops[j]?).bind (·.dst)
def okIn (ops : Array Oper) (sz : Nat) : Bool := ops.toList.all fun o => match o.dst with | some d => decide (d < sz) | none => true
def okLast (ops : Array Oper) (n : Nat) : Bool := (List.range ops.size).all fun j => j == n || (List.range ops.size).any fun k => decide (j < k) && match ops[k]? with | some o => o.after.any (fun e => Region.binds .any e && e.on == j) | none => false
def okOrd (ops : Array Oper) : Bool := (List.range ops.size).all fun i => match ops[i]? with | some o => o.after.all (fun e => !Region.binds .any e || decide (e.on < i)) | none => true

theorem lt_of_some {i : Nat} {o : Oper} (h : ops[i]? = some o) : i < ops.size := by
  rcases Nat.lt_or_ge i ops.size with h' | h'
  · exact h'
  · simp [Array.getElem?_eq_none h'] at h

theorem okDst_spec (h : okDst ops = true) : ∀ (i j : Nat) (oi oj : Oper) (d : Nat), ops[i]? = some oi → ops[j]? = some oj → oi.dst = some d → oj.dst = some d → i = j := by
  intro i j oi oj d hi hj h1 h2
  have := (List.all_eq_true.1 ((List.all_eq_true.1 h) i (List.mem_range.2 (lt_of_some hi)))) j (List.mem_range.2 (lt_of_some hj))
  simpa [hi, hj, h1, h2] using this
theorem okIn_spec {sz : Nat} (h : okIn ops sz = true) : ∀ (j : Nat) (o : Oper) (d : Nat), ops[j]? = some o → o.dst = some d → d < sz := by
  intro j o d hj hd
  have := List.all_eq_true.1 h o (by rw [Array.mem_toList_iff]; exact Array.mem_of_getElem? hj)
  simpa [hd] using this
theorem okLast_spec {n : Nat} (h : okLast ops n = true) : ∀ L : Nat → Prop, (∀ o : Oper, ops[n]? = some o → ∀ e ∈ o.after, Region.binds .any e = true → L e.on) → (∀ (j : Nat) (o : Oper), ops[j]? = some o → L j → ∀ e ∈ o.after, Region.binds .any e = true → L e.on) → ∀ j, j < ops.size → j ≠ n → L j := by
  intro L h0 hs
  have : ∀ m j, ops.size - j ≤ m → j < ops.size → j ≠ n → L j := by
    intro m
    induction m with
    | zero => intro j h1 h2; omega
    | succ m ih =>
      intro j h1 h2 hne
      have := List.all_eq_true.1 h j (List.mem_range.2 h2)
      simp only [Bool.or_eq_true, beq_iff_eq, hne, false_or] at this
      obtain ⟨k, hk, hkk⟩ := List.any_eq_true.1 this
      simp only [Bool.and_eq_true, decide_eq_true_eq] at hkk
      obtain ⟨hjk, hm⟩ := hkk
      have hk' := List.mem_range.1 hk
      rw [Array.getElem?_eq_getElem hk'] at hm
      simp only at hm
      obtain ⟨e, he, hb⟩ := Array.any_eq_true'.1 hm
      simp only [Bool.and_eq_true, beq_iff_eq] at hb
      rw [← hb.2]
      by_cases hkn : k = n
      · subst hkn; exact h0 _ (Array.getElem?_eq_getElem hk') e he hb.1
      · exact hs k _ (Array.getElem?_eq_getElem hk') (ih k (by omega) hk' hkn) e he hb.1
  exact fun j hj hne => this _ j (Nat.le_refl _) hj hne
theorem okOrd_spec (h : okOrd ops = true) : ∀ (i : Nat) (o : Oper), ops[i]? = some o → ∀ e ∈ o.after, Region.binds .any e = true → e.on < i := by
  intro i o hi e he hb
  have := List.all_eq_true.1 h i (List.mem_range.2 (lt_of_some hi))
  simp only [hi] at this
  have := Array.all_eq_true'.1 this e he
  simpa [hb] using this

theorem wp_then {o : Oper} {a : Act} {w : World} {K : Act → World → Prop} (h : o.wp P a w K (Exit.then K Q)) : o.wp P a w K Q := by
  unfold Oper.wp at *
  generalize (execOp a.eval o).run P w = r at *
  cases r with
  | ok n w' =>
    cases n <;> simp only [Oper.upon] at h ⊢ <;>
      first
        | exact h
        | exact Calls.mono h (fun e w'' he => by cases e <;> exact he)
  | halt x w' => cases x <;> simp only [Oper.upon] at h ⊢ <;> exact h

/-- One operation of a region, as a list of one: so the walk's own tactics step through it. -/
theorem wpOp_list {i : Nat} {o : Oper} {a : Act} {w : World} {K : Act → World → Prop} (ho : ops[i]? = some o) (h : wpList P ops (Exit.then K Q) [o] a w) : wpOp P ops Q i K a w := by
  unfold wpOp
  simp only [ho]
  unfold wpList at h
  split
  · rename_i hw
    simp only [hw, if_true] at h
    exact h.imp (fun h => wp_then h) id
  · rename_i hw
    simp only [hw] at h
    exact h

def okOld (ops : Array Oper) (k : Nat) : Bool := ops.toList.all fun o => o.dst != some k
/-- a slot that the region does not write -/
theorem Mid.slot {a0 a : Act} {G : World → Prop} {w : World} (h : Mid ops a0 G a w) (k : Nat) {v : Value} (hk : okOld ops k = true) (hv : a0.tmps.getD k undef = v) : a.tmps.getD k undef = v := by
  rw [h.old k, hv]
  intro j o ho
  have := List.all_eq_true.1 hk o (by rw [Array.mem_toList_iff]; exact Array.mem_of_getElem? ho)
  simpa using this

def okDep (ops : Array Oper) (o : Oper) (n j k : Nat) : Bool := j != n && o.after.any (fun e => Region.binds .any e && e.on == j) && (ops[j]?).bind (·.dst) == some k
/-- the fact of one of those that an operation waits for, at its slot -/
theorem dep {o : Oper} {n : Nat} {a : Act} {w : World} {Φ : Nat → Value → World → Prop} (hd : ∀ e ∈ o.after, Region.binds .any e = true → e.on ≠ n → ∀ o', ops[e.on]? = some o' → Φ e.on (valOf a o') w)
    (j k : Nat) (hok : okDep ops o n j k = true) : Φ j (a.tmps.getD k undef) w := by
  unfold okDep at hok
  simp only [Bool.and_eq_true, bne_iff_ne, ne_eq, beq_iff_eq] at hok
  obtain ⟨⟨hj, hm⟩, hdst⟩ := hok
  obtain ⟨e, he, hb⟩ := Array.any_eq_true'.1 hm
  simp only [Bool.and_eq_true, beq_iff_eq] at hb
  obtain ⟨hb1, rfl⟩ := hb
  cases ho : ops[e.on]? with
  | none => rw [ho] at hdst; cases hdst
  | some o' =>
    rw [ho] at hdst
    have h := hd e he hb1 hj o' ho
    unfold valOf at h
    simp only [Option.bind_some] at hdst
    rwa [hdst] at h
end
end Go.Proofs.Ytnboncbekcodnaa.Grow
