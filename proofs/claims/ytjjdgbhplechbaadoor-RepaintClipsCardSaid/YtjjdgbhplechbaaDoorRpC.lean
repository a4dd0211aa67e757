/- RepaintClips, walked. Printed by gen_rclips.py. -/
import Derived.Test.YtjjdgbhplechbaaDoorRpM
import Derived.Test.YtjjdgbhplechbaaDoorDm6
set_option linter.unusedVariables false
set_option linter.unusedSimpArgs false
namespace Go.Proofs.YtjjdgbhplechbaaDoor.Cv
open Go.RowKit Go.Proofs.YtjjdgbhplechbaaDoor.Kit Go.Proofs.YtjjdgbhplechbaaDoor.Rect Go.Proofs.YtjjdgbhplechbaaDoor.Pix

set_option maxRecDepth 100000 in
set_option maxHeartbeats 32000000 in
theorem rclips_law (back : Int) (A : Option Addr) (la : Nat) (a : List Vw) (B : Option Addr) (lb : Nat) (b : List Vw) (A' : Option Addr) (lc' : Nat) (im : List Im) (K : Option Addr) (lk : Nat) (clip : List R) (w : World) (hback : 0 ≤ back ∧ back < 4294967296)
    (ha : Rds w w.heap.size 6 A a.length (a.flatMap vwC)) (hb : Rds w w.heap.size 6 B b.length (b.flatMap vwC)) (hr : RdI w w.heap.size A' im) (hk : Rds w w.heap.size 4 K clip.length (clip.flatMap rC)) (h64 : ∀ r ∈ clip, I64 r) :
    Calls Tryd.prog 13 #[.int .u32 back, .slice A a.length la, .slice B b.length lb, .slice A' im.length lc', .slice K clip.length lk] w fun e w' => e = .returned (.bool true) ∧ Below w.heap.size w w' := by
  have hback := Lib.hid hback
  have h64 := Lib.hid h64
  go_enter Tryd.func13, Tryd.ntmps13
  go_wp2_with fail
  refine (images_any A' lc' im w hr).mono ?_
  rintro e w1 ⟨hb1, hcase⟩
  rcases hcase with ⟨hbad, rfl⟩ | ⟨hok, A1, ci, m, rfl, hmp, hown, hownI⟩
  · go_wp2_with fail
    refine (new_any 11 8 w1 (by omega) (by omega) (by omega) (by omega)).mono ?_
    rintro e w2 ⟨c, p, rfl, hc, hc0, hp0, hb2⟩
    go_wp2_with fail
    refine (awake24_any w2).mono ?_
    rintro e wz ⟨rfl, hbz⟩
    go_wp2_with fail
    go_ret
    exact ⟨rfl, bl_step (bl_step hb1 hb2) hbz⟩
  have hi8 : im.length ≤ 8 := by
    unfold okI at hok
    rw [Bool.and_eq_true] at hok
    simpa using hok.1
  have hml : m.length ≤ 1000000 := by have := congrArg List.length hmp; simp at this; omega
  have hm1 : RdI w1 w1.heap.size A1 m := ⟨Rds.own hown, fun g hg => Rds.own (hownI g hg), u32_pl hmp hr.u32⟩
  have hoff : ∀ p, w1.heap.size ≤ p → Off p A1 m := fun p hp => ⟨fun ad e => by subst e; have := (hown.lt ad.block rfl).2; omega, fun g hg ad e => by have := ((hownI g hg).lt ad.block (by rw [e]; rfl)).2; omega⟩
  have hoff := Lib.hid hoff
  have hm1 := Lib.hid hm1
  clear hown hownI hok hi8 hmp hr
  go_wp2_with fail
  refine (new_any 11 8 w1 (by omega) (by omega) (by omega) (by omega)).mono ?_
  rintro e w3 ⟨c, p, rfl, hc3, hc0, hp0, hb3⟩
  have hw3 := bl_step hb1 hb3
  by_cases h8a : 8 < a.length
  · have d8a : decide ((8 : Int) < (a.length : Int)) = true := dec_t (lt_cast h8a)
    go_wp2_with fail
    refine (awake24_any w3).mono ?_
    rintro e wz ⟨rfl, hbz⟩
    go_wp2_with fail
    go_ret
    exact ⟨rfl, bl_step hw3 hbz⟩
  have d8a : decide ((8 : Int) < (a.length : Int)) = false := dec_f (nlt_cast h8a)
  by_cases h8b : 8 < b.length
  · have d8b : decide ((8 : Int) < (b.length : Int)) = true := dec_t (lt_cast h8b)
    go_wp2_with fail
    refine (awake24_any w3).mono ?_
    rintro e wz ⟨rfl, hbz⟩
    go_wp2_with fail
    go_ret
    exact ⟨rfl, bl_step hw3 hbz⟩
  have d8b : decide ((8 : Int) < (b.length : Int)) = false := dec_f (nlt_cast h8b)
  by_cases h6 : 6 < clip.length
  · have d6 : decide ((6 : Int) < (clip.length : Int)) = true := dec_t (lt_cast h6)
    go_wp2_with fail
    refine (awake24_any w3).mono ?_
    rintro e wz ⟨rfl, hbz⟩
    go_wp2_with fail
    go_ret
    exact ⟨rfl, bl_step hw3 hbz⟩
  have d6 : decide ((6 : Int) < (clip.length : Int)) = false := dec_f (nlt_cast h6)
  have hs1 := hb1.size
  have hs3 := hb3.size
  have hcl := hc3.hd.lt
  have hpl := hc3.px.lt
  have hpw : w.heap.size ≤ p := by omega
  have h13 := hb3
  have hA1 : ∀ w', Below w.heap.size w w' → Rds w' w'.heap.size 6 A a.length (a.flatMap vwC) := fun w' h => (ha.be h).more h.size
  have hB1 : ∀ w', Below w.heap.size w w' → Rds w' w'.heap.size 6 B b.length (b.flatMap vwC) := fun w' h => (hb.be h).more h.size
  have hK1 : ∀ w', Below w.heap.size w w' → Rds w' w.heap.size 4 K clip.length (clip.flatMap rC) := fun w' h => hk.be h
  have hM1 : ∀ w', Below w1.heap.size w1 w' → RdI w' w'.heap.size A1 m := fun w' h => (hm1.out.be h).more h.size
  have oap := Lib.hid (Rds.off ha hpw)
  have obp := Lib.hid (Rds.off hb hpw)
  have okp := Lib.hid (Rds.off hk hpw)
  have omp := Lib.hid (OffW.of (hoff.out p hp0))
  have omp2 := Lib.hid (hoff.out p hp0)
  have hA1 := Lib.hid hA1
  have hB1 := Lib.hid hB1
  have hK1 := Lib.hid hK1
  have hM1 := Lib.hid hM1
  have na : a.length ≤ 1000000 := by omega
  have nb : b.length ≤ 1000000 := by omega
  have hnc : clip.length ≤ 1000000 := by omega
  have hbo := Lib.hid (fun p (h : w.heap.size ≤ p) => Rds.off hb h)
  have hc3 := Lib.hid hc3
  have hcp := hc3.out.ne
  clear hb1 hb3 hs3 hc0 ha hb hk hm1
  go_wp2_with fail
  refine (all_any c p 11 8 _ back A la a A1 ci m w3 hc3.out hback.out (hA1.out w3 hw3) oap.out na (hM1.out w3 h13) omp2.out hml).mono ?_
  rintro e w4 ⟨rfl, hs4, hc4⟩
  have hw4 : Below w.heap.size w w4 := hs4.below hw3 hpw hw3.size
  have h14 : Below w1.heap.size w1 w4 := hs4.below h13 hp0 h13.size
  obtain ⟨L, hL⟩ : ∃ L, allL 11 8 back a m (List.replicate (11 * 8) 0) = L := ⟨_, rfl⟩
  rw [hL] at hc4
  have hLn := hc4.len
  have hc4 := Lib.hid hc4
  clear hs4 hc3 hL
  go_wp2_with fail
  refine (copy_any c p 11 8 L w4 hc4.out).mono ?_
  rintro e w5 ⟨c1, p1, rfl, hc5, hc50, hp50, hb5⟩
  go_wp2_with fail
  refine (copy_any c p 11 8 L w5 (hc4.out.be hb5)).mono ?_
  rintro e w6 ⟨c2, p2, rfl, hc6, hc60, hp60, hb6⟩
  have h46 := bl_step hb5 hb6
  have hw6 := bl_step hw4 h46
  have h16 := bl_step h14 h46
  have hs5 := hb5.size
  have hpl4 := hc4.out.px.lt
  have hcl4 := hc4.out.hd.lt
  have hc5l := hc5.hd.lt
  have hp5l := hc5.px.lt
  have h4s := h14.size
  have n1 : c1 ≠ p := by omega
  have n2 : p1 ≠ p := by omega
  have n3 : c2 ≠ p := by omega
  have n4 : p2 ≠ p := by omega
  have n5 : c1 ≠ p2 := by omega
  have n6 : p1 ≠ p2 := by omega
  have n7 : c ≠ p2 := by omega
  have n8 : p ≠ p2 := by omega
  have hwp2 : w.heap.size ≤ p2 := by omega
  have hw1p2 : w1.heap.size ≤ p2 := by omega
  have om2 := Lib.hid (hoff.out p2 hw1p2)
  have ob2 := Lib.hid (hbo.out p2 hwp2)
  have hcw6 := Lib.hid (hc5.be hb6)
  have hca6 := Lib.hid hc6
  have hc6' := Lib.hid (hc4.out.be h46)
  clear hc5 hc6 hc4 hb5 hb6 h46 hs5 hpl4 hcl4 hc5l hp5l h4s hc50 hp50 hc60 hp60 hcl hpl
  go_wp2_with fail
  refine (all_any c2 p2 11 8 L back B lb b A1 ci m w6 hca6.out hback.out (hB1.out w6 hw6) ob2.out nb (hM1.out w6 h16) om2.out hml).mono ?_
  rintro e w7 ⟨rfl, hs7, hca7⟩
  have hw7 : Below w.heap.size w w7 := hs7.below hw6 hwp2 hw6.size
  have h17 : Below w1.heap.size w1 w7 := hs7.below h16 hw1p2 h16.size
  have hcw7 := Lib.hid (hcw6.out.sav hs7 n5 n6)
  have hc7 := Lib.hid (hc6'.out.sav hs7 n7 n8)
  have hca7 := Lib.hid hca7
  clear hs7 hcw6 hca6 hc6'
  go_wp2_with fail
  refine (part_any c p 11 8 L back B lb b A1 ci m K lk clip w7 hc7.out hback.out (hB1.out w7 hw7) obp.out nb (hM1.out w7 h17) omp.out hml ((hK1.out w7 hw7).more hw7.size) okp.out h64.out hnc).mono ?_
  rintro e wA ⟨rfl, hsA, hcA⟩
  have hwA : Below w.heap.size w wA := hsA.below hw7 hpw hw7.size
  have hcwA := Lib.hid (hcw7.out.sav hsA n1 n2)
  have hcaA := hca7.out.sav hsA n3 n4
  obtain ⟨L1, hL1⟩ : ∃ L1, partL 11 8 back b m clip L = L1 := ⟨_, rfl⟩
  obtain ⟨L2, hL2⟩ : ∃ L2, allL 11 8 back b m L = L2 := ⟨_, rfl⟩
  have htt := Lib.hid (show ∀ x y : Nat, x < 11 → y < 8 → inn clip (x : Int) (y : Int) = true → atP 11 8 L1 (x : Int) (y : Int) = atP 11 8 L2 (x : Int) (y : Int) from fun x y hx hy hi => by rw [← hL1, ← hL2, at_part_in hLn hx hy hi, at_allL (by omega) (by omega) hLn hx hy])
  have hff := Lib.hid (show ∀ x y : Nat, x < 11 → y < 8 → inn clip (x : Int) (y : Int) = false → atP 11 8 L1 (x : Int) (y : Int) = atP 11 8 L (x : Int) (y : Int) from fun x y hx hy hi => by rw [← hL1, at_part_out hLn hx hy hi])
  rw [hL1] at hcA
  rw [hL2] at hcaA
  have hcA := Lib.hid hcA
  have hcaA := Lib.hid hcaA
  have hi64 := h64
  have hocA := Lib.hid (hK1.out wA hwA)
  have hsA' := hwA.size
  have hW2 : 11 ≤ 48 := by omega
  have hH2 : 8 ≤ 48 := by omega
  clear hL1 hL2 hLn hcw7 hca7 hc7 hsA hw7 h17 hw6 h16 hw4 h14 hw3 h13 n1 n2 n3 n4 n5 n6 n7 n8 hwp2 hw1p2
  go_wp2_with fail
  go_loopw [17, 18, 19] (fun sy _ _ wr => ∃ y : Nat, y ≤ 8 ∧ sy = .int .i64 (y : Int) ∧ Below wA.heap.size wA wr) (fun sy _ _ _ => 8 - (intOf sy).toNat)
  case atStart => exact ⟨0, by omega, rfl, Below.refl _ _⟩
  case round =>
    obtain ⟨y, hy, rfl, hby⟩ := hrel
    by_cases hyH : y < 8
    · have dy : decide ((y : Int) < (8 : Int)) = true := dec_t (lt_cast hyH)
      have y48 : (y : Int) < 48 := lt_cast (Nat.lt_of_lt_of_le hyH hH2)
      have gy1 := g64 y48
      have gy2 := gw64 y48
      have hyH := Lib.hid hyH
      go_wp2_with fail
      go_loopw [18, 19] (fun sx _ wr => ∃ x : Nat, x ≤ 11 ∧ sx = .int .i64 (x : Int) ∧ Below wA.heap.size wA wr) (fun sx _ _ => 11 - (intOf sx).toNat)
      case atStart => exact ⟨0, by omega, rfl, hby⟩
      case round =>
        obtain ⟨x, hx, rfl, hbx⟩ := hrel
        by_cases hxW : x < 11
        · have dx : decide ((x : Int) < (11 : Int)) = true := dec_t (lt_cast hxW)
          have x48 : (x : Int) < 48 := lt_cast (Nat.lt_of_lt_of_le hxW hW2)
          have gx1 := g64 x48
          have gx2 := gw64 x48
          have hxW := Lib.hid hxW
          go_wp2_with fail
          refine (at_any c1 p1 11 8 L (x : Int) (y : Int) _ (hcwA.out.be hbx)).mono ?_
          rintro e wb ⟨rfl, hbb⟩
          have hxb := bl_step hbx hbb
          go_wp2_with fail
          refine (in_any K lk clip (x : Int) (y : Int) wb hnc hi64.out (i48 x48) (i48 y48) ((hocA.out.be (hxb.mono hsA')).more (Nat.le_trans hsA' hxb.size))).mono ?_
          rintro e wc ⟨rfl, hbc⟩
          have hxc := bl_step hxb hbc
          cases hi : inn clip (x : Int) (y : Int) with
          | true =>
            have hq := htt.out x y hxW.out hyH.out hi
            have hq := Lib.hid hq
            clear hi
            go_wp2_with fail
            refine (at_any c2 p2 11 8 L2 (x : Int) (y : Int) _ (hcaA.out.be hxc)).mono ?_
            rintro e wd ⟨rfl, hbd⟩
            have hxd := bl_step hxc hbd
            go_wp2_with fail
            refine (at_any c p 11 8 L1 (x : Int) (y : Int) _ (hcA.out.be hxd)).mono ?_
            rintro e we ⟨rfl, hbe⟩
            have hxe := bl_step hxd hbe
            rw [hq.out]
            have hnn := nne (atP 11 8 L2 (x : Int) (y : Int))
            go_wp2_with fail
            go_roundw
            case rel => exact ⟨x + 1, hxW.out, by go_num, hxe⟩
            case measure => have h9 := sub_dec hxW.out; simpa [intOf] using h9
          | false =>
            have hq := hff.out x y hxW.out hyH.out hi
            have hq := Lib.hid hq
            clear hi
            go_wp2_with fail
            refine (at_any c p 11 8 L1 (x : Int) (y : Int) _ (hcA.out.be hxc)).mono ?_
            rintro e we ⟨rfl, hbe⟩
            have hxe := bl_step hxc hbe
            rw [hq.out]
            have hnn := nne (atP 11 8 L (x : Int) (y : Int))
            go_wp2_with fail
            go_roundw
            case rel => exact ⟨x + 1, hxW.out, by go_num, hxe⟩
            case measure => have h9 := sub_dec hxW.out; simpa [intOf] using h9
        · obtain rfl : x = 11 := Nat.le_antisymm hx (Nat.le_of_not_lt hxW)
          have dx : decide ((11 : Int) < (11 : Int)) = false := by simp
          go_wp2_with fail
          go_roundw
          case rel => exact ⟨y + 1, hyH.out, by go_num, hbx⟩
          case measure => have h9 := sub_dec hyH.out; simpa [intOf] using h9
    · obtain rfl : y = 8 := Nat.le_antisymm hy (Nat.le_of_not_lt hyH)
      have dy : decide ((8 : Int) < (8 : Int)) = false := by simp
      go_wp2_with fail
      refine (awake24_any _).mono ?_
      rintro e wz ⟨rfl, hbz⟩
      go_wp2_with fail
      go_ret
      exact ⟨rfl, bl_step (bl_step hwA hby) hbz⟩
theorem RepaintClips_walk (back : Int) (wk : (Lit.int .u32 back).wf = true) (A : Option Addr) (la : Nat) (a : List Vw) (B : Option Addr) (lb : Nat) (b : List Vw) (A' : Option Addr) (lc' : Nat) (im : List Im) (K : Option Addr) (lk : Nat) (clip : List R) (w : World)
    (h1 : a.length ≤ la) (rd1 : Rds w w.heap.size 6 A a.length (a.flatMap vwC)) (mx1 : a.length ≤ 9223372036854775807) (h2 : b.length ≤ lb) (rd2 : Rds w w.heap.size 6 B b.length (b.flatMap vwC)) (mx2 : b.length ≤ 9223372036854775807) (h3 : im.length ≤ lc') (rd3 : RdI w w.heap.size A' im) (mx3 : im.length ≤ 9223372036854775807) (h4 : clip.length ≤ lk) (rd4 : Rds w w.heap.size 4 K clip.length (clip.flatMap rC)) (mx4 : (∀ r ∈ clip, I64 r) ∧ clip.length ≤ 9223372036854775807) :
    Calls Tryd.prog 13 #[.int .u32 back, .slice A a.length la, .slice B b.length lb, .slice A' im.length lc', .slice K clip.length lk] w fun e w' => e = .returned (.bool true) ∧ Below w.heap.size w w' :=
  rclips_law back A la a B lb b A' lc' im K lk clip w (by have := bounds_u32 wk; omega) rd1 rd2 rd3 rd4 mx4.1
end Go.Proofs.YtjjdgbhplechbaaDoor.Cv
