/- The walk of region.joined. -/
import Derived.Test.YtjjdgbhplechbaaGreatDoorRgJ
import Derived.Test.YtjjdgbhplechbaaGreatDoorRectWalk3
set_option linter.unusedVariables false
set_option linter.unusedSimpArgs false
namespace Go.Proofs.YtjjdgbhplechbaaGreatDoor.Wk
open Go.RowKit Go.Proofs.YtjjdgbhplechbaaGreatDoor.Kit Go.Proofs.YtjjdgbhplechbaaGreatDoor.Reg Go.Proofs.YtjjdgbhplechbaaGreatDoor.Rect

theorem RcP.nil_ {w w' : World} {l : List R} {e : Ending} (h : l = []) (he : e = .returned (.slice none 0 0)) (hb : Below w.heap.size w w') : RcP w l e w' := by
  subst h; exact ⟨_, he, World.ownsRow_nil _ _ _ _, hb⟩
set_option maxRecDepth 100000 in
set_option maxHeartbeats 16000000 in
theorem joined_any (op : Bool → Bool → Bool) (K : Nat) (hKc : ∀ (args : Array Value) (W : World), (callFunc K args).run Tryz.prog W = .ok (.enter K args) W) (hop : ∀ (a b : Bool) (W : World), Calls Tryz.prog K #[.bool a, .bool b] W fun e w' => e = .returned (.bool (op a b)) ∧ W = w')
    (A B : Option Addr) (c d : Nat) (la lb : List R) (w : World) (na : la.length ≤ 200000) (nb : lb.length ≤ 200000) (h64a : ∀ r ∈ la, I64 r) (h64b : ∀ r ∈ lb, I64 r) (hA : Rds w w.heap.size 4 A la.length (la.flatMap rC)) (hB : Rds w w.heap.size 4 B lb.length (lb.flatMap rC)) :
    Calls Tryz.prog 84 #[.slice A la.length c, .slice B lb.length d, .func (.func K) #[] #[]] w (RcP w (joinF op la lb)) := by
  obtain ⟨iI, hiI, zI0, zI1, zI2⟩ := info_parts infoI
  obtain ⟨iB, hiB, zB0, zB1, zB2⟩ := info_parts infoB
  go_enter Tryz.func84, Tryz.ntmps84
  go_wp2_with fail
  refine (bands_any A c la w (by omega) h64a hA).mono ?_
  rintro e w1 HX
  unfold BnP at HX
  have hbx : ∀ x, bandsF la = some x → ∀ b ∈ x, InB b := fun x h => band_in h
  cases hx : bandsF la with
  | none =>
    rw [hx] at HX
    obtain ⟨rfl, hb1⟩ := HX
    have HBX := Lib.hid hx
    clear hx hbx
    go_wp2_with fail
    refine (bands_any B d lb w1 (by omega) h64b ((hB.be hb1).more hb1.size)).mono ?_
    rintro e w2 HY
    unfold BnP at HY
    cases hy : bandsF lb with
    | none =>
      rw [hy] at HY
      obtain ⟨rfl, hb2⟩ := HY
      clear hy
      go_wp2_with fail
      go_ret
      exact RcP.nil_ (by unfold joinF; rw [HBX.out]) rfl (bl_step hb1 hb2)
    | some y =>
      rw [hy] at HY
      obtain ⟨AY, cY, Q, rfl, _, _, _, _, hb2⟩ := HY
      clear hy
      go_wp2_with fail
      go_ret
      exact RcP.nil_ (by unfold joinF; rw [HBX.out]) rfl (bl_step hb1 hb2)
  | some x =>
    rw [hx] at HX
    obtain ⟨AX, cX, P, rfl, hPm, hPl, hPv, hPB, hb1⟩ := HX
    have hPI := hbx x hx
    have HBX := Lib.hid hx
    clear hx hbx
    go_wp2_with fail
    refine (bands_any B d lb w1 (by omega) h64b ((hB.be hb1).more hb1.size)).mono ?_
    rintro e w2 HY
    unfold BnP at HY
    have hby : ∀ y, bandsF lb = some y → ∀ b ∈ y, InB b := fun x h => band_in h
    cases hy : bandsF lb with
    | none =>
      rw [hy] at HY
      obtain ⟨rfl, hb2⟩ := HY
      have HBY := Lib.hid hy
      clear hy
      go_wp2_with fail
      go_ret
      exact RcP.nil_ (by unfold joinF; rw [HBY.out]; cases bandsF la <;> rfl) rfl (bl_step hb1 hb2)
    | some y =>
      rw [hy] at HY
      obtain ⟨AY, cY, Q, rfl, hQm, hQl, hQv, hQB, hb2⟩ := HY
      have hQI := hby y hy
      have HBY := Lib.hid hy
      clear hy hby
      have hPB2 := hPB.be hb2
      have hbw := bl_step hb1 hb2
      have hP6 : P.length ≤ 200000 := Nat.le_trans hPl na
      have hQ6 : Q.length ≤ 200000 := Nat.le_trans hQl nb
      have hPv6 : ∀ p ∈ P, p.1.v.length ≤ 200000 := fun p hp => Nat.le_trans (hPv p hp) na
      have hQv6 : ∀ p ∈ Q, p.1.v.length ≤ 200000 := fun p hp => Nat.le_trans (hQv p hp) nb
      have hj : joinF op la lb = rectsF (joinB op (P.map (·.1)) (Q.map (·.1))) := by
        unfold joinF; rw [HBX.out, HBY.out, hPm, hQm]
      have HJF := Lib.hid hj
      have hjI : ∀ b ∈ joinB op (P.map (·.1)) (Q.map (·.1)), InB b := by
        rw [hPm, hQm]; exact join_in op hPI hQI
      have HJI := Lib.hid hjI
      clear hjI hj HBX HBY hPI hQI hPm hQm hPl hQl hPv hQv hPB hb1 hb2 h64a h64b hA hB
      have i0 : ∀ W, (Instr.index 126 (.agg #[.slice AX P.length cX, .slice AY Q.length cY]) (.int .i64 0)).run Tryz.prog W = .ok (.slice AX P.length cX) W := fun _ => by kernel_rfl
      have i1 : ∀ W, (Instr.index 126 (.agg #[.slice AX P.length cX, .slice AY Q.length cY]) (.int .i64 1)).run Tryz.prog W = .ok (.slice AY Q.length cY) W := fun _ => by kernel_rfl
      go_wp2_with fail
      refine wp_loop_rounds 3 ?_
      rw [rounds_succ]
      go_wp2_with fail
      go_loopw [11, 42] (fun ys i wr => ∃ k : Nat, k ≤ P.length ∧ i = .int .i64 k ∧ wr.ownsRow w2.heap.size 3 1 ys (ends ((P.map (·.1)).take k)).length ((ends ((P.map (·.1)).take k)).map iC) ∧ Below w2.heap.size w2 wr) (fun _ i _ => P.length - (intOf i).toNat)
      case atStart => exact ⟨0, by omega, rfl, World.ownsRow_nil _ _ _ _, Below.refl _ _⟩
      case round =>
        obtain ⟨k, hk, rfl, hown, hbr⟩ := hrel
        by_cases hlt : k < P.length
        · obtain ⟨ad, rfl, hbl, c0, c1, c2⟩ := BdR.at_ (hPB2.1.be hbr) hlt
          obtain ⟨A', c', hv', _⟩ := hPB2.2 P[k] (List.getElem_mem _)
          rw [hv'] at c2
          have HT := Lib.hid (ends_take (P.map (·.1)) k (by simpa using hlt))
          have hgk : (P.map (·.1))[k]'(by simpa using hlt) = P[k].1 := by simp
          rw [hgk] at HT
          have hel := ends_len ((P.map (·.1)).take k)
          have htl : ((P.map (·.1)).take k).length ≤ k := List.length_take_le _ _
          have hle : (ends ((P.map (·.1)).take k)).length ≤ 4000000000 := by omega
          clear hel htl hgk hv'
          have hbz := hbr.size
          generalize P[k] = p at *
          obtain ⟨⟨pf, pt, pv⟩, v⟩ := p
          simp only at c0 c1 c2 HT
          go_wp2_with (at_builtin; go_must (refine wpList_app _ rfl (.tmp 46) (.tmp 51) _ rfl w2.heap.size 3 iI _ 1 8 Tryz.underlying96 hiI zI0 zI1 zI2 rfl (by omega) _ _ _ rfl ((hown.alloc _).alloc _) (wr.heap.size + 1 + 1) (some ⟨wr.heap.size + 1, 0, none⟩) 2 2 [iC pf, iC pt] rfl (Rds.block (cs := #[iC pf, iC pt]) (Bk.new' _ _ _ (by simp)) rfl (by omega)) (by intro u hu; simp at hu; rcases hu with rfl | rfl <;> rfl) (by simp only [maxLen]; omega) (by omega) (by simp; omega) ?_); intro v2 w3 hown2 hg2 hat2)
          go_roundw
          case rel =>
            refine ⟨k + 1, by omega, by go_num, ?_, (bl_alloc (bl_alloc hbr _) _).grown hg2 (by simp; omega) (fun g hg => (hown.lt g hg).1)⟩
            rw [HT.out]
            simpa [Nat.add_assoc] using hown2
          case measure => simp [intOf]; omega
        · obtain rfl : k = P.length := by omega
          rw [List.take_of_length_le (by simp)] at hown
          go_wp2_with fail
          rw [rounds_succ]
          go_wp2_with fail
          go_loopw [11, 42] (fun ys i wr => ∃ k : Nat, k ≤ Q.length ∧ i = .int .i64 k ∧ wr.ownsRow w2.heap.size 3 1 ys (ends (P.map (·.1)) ++ ends ((Q.map (·.1)).take k)).length ((ends (P.map (·.1)) ++ ends ((Q.map (·.1)).take k)).map iC) ∧ Below w2.heap.size w2 wr) (fun _ i _ => Q.length - (intOf i).toNat)
          case atStart => exact ⟨0, by omega, rfl, by rw [List.take_zero, show ends ([] : List Bd) = [] from rfl, List.append_nil]; exact hown, hbr⟩
          case round =>
            obtain ⟨k, hk, rfl, hown, hbr⟩ := hrel
            by_cases hlt : k < Q.length
            · obtain ⟨ad, rfl, hbl, c0, c1, c2⟩ := BdR.at_ (hQB.1.be hbr) hlt
              obtain ⟨A', c', hv', _⟩ := hQB.2 Q[k] (List.getElem_mem _)
              rw [hv'] at c2
              have HT := Lib.hid (ends_take (Q.map (·.1)) k (by simpa using hlt))
              have hgk : (Q.map (·.1))[k]'(by simpa using hlt) = Q[k].1 := by simp
              rw [hgk] at HT
              have hel := ends_len ((Q.map (·.1)).take k)
              have htl : ((Q.map (·.1)).take k).length ≤ k := List.length_take_le _ _
              have hle : (ends (P.map (·.1)) ++ ends ((Q.map (·.1)).take k)).length ≤ 4000000000 := by (have := ends_len (P.map (·.1)); simp only [List.length_append, List.length_map] at *; omega)
              clear hel htl hgk hv'
              have hbz := hbr.size
              generalize Q[k] = p at *
              obtain ⟨⟨pf, pt, pv⟩, v⟩ := p
              simp only at c0 c1 c2 HT
              go_wp2_with (at_builtin; go_must (refine wpList_app _ rfl (.tmp 46) (.tmp 51) _ rfl w2.heap.size 3 iI _ 1 8 Tryz.underlying96 hiI zI0 zI1 zI2 rfl (by omega) _ _ _ rfl ((hown.alloc _).alloc _) (wr.heap.size + 1 + 1) (some ⟨wr.heap.size + 1, 0, none⟩) 2 2 [iC pf, iC pt] rfl (Rds.block (cs := #[iC pf, iC pt]) (Bk.new' _ _ _ (by simp)) rfl (by omega)) (by intro u hu; simp at hu; rcases hu with rfl | rfl <;> rfl) (by simp only [maxLen]; omega) (by omega) (by simp; omega) ?_); intro v2 w3 hown2 hg2 hat2)
              go_roundw
              case rel =>
                refine ⟨k + 1, by omega, by go_num, ?_, (bl_alloc (bl_alloc hbr _) _).grown hg2 (by simp; omega) (fun g hg => (hown.lt g hg).1)⟩
                rw [HT.out]
                simpa [Nat.add_assoc] using hown2
              case measure => simp [intOf]; omega
            · obtain rfl : k = Q.length := by omega
              rw [List.take_of_length_le (by simp)] at hown
              go_wp2_with fail
              rw [rounds_succ]
              go_wp2_with fail
              have hzl : (ends (P.map (·.1)) ++ ends (Q.map (·.1))).length ≤ 800000 := by
                have h1 := ends_len (P.map (·.1))
                have h2 := ends_len (Q.map (·.1))
                simp only [List.length_append, List.length_map] at *; omega
              refine (edges_any w2.heap.size _ _ wr (by omega) hown).mono ?_
              rintro e w3 hE
              obtain ⟨EA, ec, rfl, hE1, hE2⟩ := hE
              have hb3 : Below w2.heap.size w2 w3 := hbr.grown hE2 hbr.size (fun g hg => (hown.lt g hg).1)
              have hel : (esort (ends (P.map (·.1)) ++ ends (Q.map (·.1)))).length ≤ 800000 := Nat.le_trans (esort_len _).1 hzl
              have hPB3 := hPB2.be hb3
              have hQB3 := hQB.be hb3
              have hbw3 := bl_step hbw hb3
              have hJl : (joinB op (P.map (·.1)) (Q.map (·.1))).length = (gaps (esort (ends (P.map (·.1)) ++ ends (Q.map (·.1))))).length := by unfold joinB; rw [List.length_map]
              have hJt : ∀ k, (h : k < (gaps (esort (ends (P.map (·.1)) ++ ends (Q.map (·.1))))).length) → (joinB op (P.map (·.1)) (Q.map (·.1))).take (k + 1) = (joinB op (P.map (·.1)) (Q.map (·.1))).take k ++ [⟨(gaps (esort (ends (P.map (·.1)) ++ ends (Q.map (·.1)))))[k].1, (gaps (esort (ends (P.map (·.1)) ++ ends (Q.map (·.1)))))[k].2, bothF op (rowB (P.map (·.1)) (gaps (esort (ends (P.map (·.1)) ++ ends (Q.map (·.1)))))[k].1) (rowB (Q.map (·.1)) (gaps (esort (ends (P.map (·.1)) ++ ends (Q.map (·.1)))))[k].1)⟩] := by
                intro k h
                rw [List.take_succ_eq_append_getElem (by rw [hJl]; exact h)]
                congr 2
                unfold joinB
                rw [List.getElem_map]
              clear hown hE2 hzl hbr i0 i1 hPB2 hQB hbw hb3
              generalize esort (ends (P.map (·.1)) ++ ends (Q.map (·.1))) = es at *
              generalize joinB op (P.map (·.1)) (Q.map (·.1)) = J at *
              have HJt := Lib.hid hJt
              have hgl := gaps_len' es
              clear hJt
              go_wp2_with fail
              go_loopg [16, 17] (gaps es).length (fun gd bs i wr => ∃ (k : Nat) (T : List (Bd × Value)), k + gd = (gaps es).length ∧ i = .int .i64 k ∧ T.length = k ∧ Hid (T.map (·.1) = J.take k) ∧ wr.ownsRow w3.heap.size 129 3 bs T.length (T.flatMap bdP) ∧ Hid (∀ q ∈ T, wr.ownsRow w3.heap.size 135 2 q.2 q.1.v.length (q.1.v.flatMap spC) ∧ q.1.v.length ≤ 800000) ∧ Below w3.heap.size w3 wr)
              case atStart => exact ⟨0, [], by omega, rfl, rfl, Lib.hid rfl, World.ownsRow_nil _ _ _ _, Lib.hid (by simp), Below.refl _ _⟩
              case round =>
                obtain ⟨k, T, hk, rfl, hTk, HT, hown, HTs, hbr⟩ := hrel
                obtain ⟨OA, oc, rfl, hform⟩ := own_form hown
                by_cases hlt : k < (gaps es).length
                · have hk1 : (k : Int) + 1 < (es.length : Int) := by omega
                  have i0 : (0 : Int) ≤ (k : Int) := by omega
                  have i1 : (k : Int) < (es.length : Int) := by omega
                  have hw1 : IntKind.i64.wrap ((k : Int) + 1) = (k : Int) + 1 := i64_in (by omega) (by omega)
                  have hw2 : (0 : Int) ≤ (k : Int) + 1 := by omega
                  have hw3 : ((k : Int) + 1).toNat = k + 1 := by omega
                  obtain ⟨ad, rfl, hbl, hcell⟩ := (hE1.be hbr).2 (by omega)
                  have c0 : wr.drew.cell? (ad.add k) = some (iC (es[k]'(by omega))) := hcell k _ (by rw [List.getElem?_map, List.getElem?_eq_getElem (by omega)]; rfl)
                  have c1 : wr.drew.cell? ⟨ad.block, ad.off + (k + 1), none⟩ = some (iC (es[k + 1]'(by omega))) := by
                    rw [← add_nx]
                    exact hcell (k + 1) _ (by rw [List.getElem?_map, List.getElem?_eq_getElem (by omega)]; rfl)
                  have hgk := gaps_get es k hlt
                  have HS := Lib.hid (HJt.out k hlt)
                  clear hcell
                  generalize (gaps es)[k] = gp at *
                  generalize es[k]'(by omega) = x0 at *
                  generalize es[k + 1]'(by omega) = x1 at *
                  subst hgk
                  simp only at HS
                  have hPr := hPB3.be hbr
                  have hQr := hQB3.be hbr
                  obtain ⟨A1, c1', hv1, hR1⟩ := findB_row hPr.2 x0
                  obtain ⟨A2, c2', hv2, hR2⟩ := findB_row hQr.2 x0
                  have hl1 : (rowB (P.map (·.1)) x0).length ≤ 200000 := row_len (by intro b hb; obtain ⟨p, hp, rfl⟩ := List.mem_map.1 hb; exact hPv6 p hp) x0
                  have hl2 : (rowB (Q.map (·.1)) x0).length ≤ 200000 := row_len (by intro b hb; obtain ⟨p, hp, rfl⟩ := List.mem_map.1 hb; exact hQv6 p hp) x0
                  have hVl := both_len op (rowB (P.map (·.1)) x0) (rowB (Q.map (·.1)) x0)
                  have hrowX : ∀ W, Below wr.heap.size wr W → Calls Tryz.prog 92 #[.slice AX P.length cX, .int .i64 x0] W fun e w' => e = .returned (.slice A1 (rowB (P.map (·.1)) x0).length c1') ∧ Below W.heap.size W w' := fun W hW => by
                    rw [← hv1]; exact row_any AX cX P x0 W (by omega) (hPr.be hW).1 (hPr.be hW).2
                  have hrowY : ∀ W, Below wr.heap.size wr W → Calls Tryz.prog 92 #[.slice AY Q.length cY, .int .i64 x0] W fun e w' => e = .returned (.slice A2 (rowB (Q.map (·.1)) x0).length c2') ∧ Below W.heap.size W w' := fun W hW => by
                    rw [← hv2]; exact row_any AY cY Q x0 W (by omega) (hQr.be hW).1 (hQr.be hW).2
                  have hboth : ∀ W, Below wr.heap.size wr W → Calls Tryz.prog 91 #[.slice A1 (rowB (P.map (·.1)) x0).length c1', .slice A2 (rowB (Q.map (·.1)) x0).length c2', .func (.func K) #[] #[]] W (BoP W (bothF op (rowB (P.map (·.1)) x0) (rowB (Q.map (·.1)) x0))) := fun W hW =>
                    both_any op K hKc hop A1 A2 c1' c2' _ _ W (by omega) (by omega) ((hR1.be hW).more hW.size) ((hR2.be hW).more hW.size)
                  clear hv1 hv2 hR1 hR2 hPr hQr
                  generalize rowB (P.map (·.1)) x0 = ra at *
                  generalize rowB (Q.map (·.1)) x0 = rb at *
                  have hV8 : (bothF op ra rb).length ≤ 800000 := by omega
                  generalize bothF op ra rb = V at *
                  have hadb : (ad.add k).block < wr.heap.size := by rw [add_blk]; exact Nat.lt_of_lt_of_le hbl hbr.size
                  have hadb2 : ad.block < wr.heap.size := Nat.lt_of_lt_of_le hbl hbr.size
                  have hbw : Below wr.heap.size wr wr.drew := bl_drew (Below.refl _ _)
                  have c0r : wr.cell? (ad.add k) = some (iC x0) := c0
                  have c1r : wr.cell? ⟨ad.block, ad.off + (k + 1), none⟩ = some (iC x1) := c1
                  have hs3 := hbr.size
                  have hbz := hbw.size
                  rw [hTk] at hown hform ⊢
                  have HN := Lib.hid hTk
                  clear hTk hVl
                  have HRX := Lib.hid hrowX
                  have HRY := Lib.hid hrowY
                  have HBO := Lib.hid hboth
                  clear hrowX hrowY hboth hPv6 hQv6 hop hKc
                  go_wp2_with fail
                  go_region_held3 (fun w' => w'.cell? (ad.add k) = some (iC x0) ∧ w'.cell? ⟨ad.block, ad.off + (k + 1), none⟩ = some (iC x1)) (first | (with_reducible exact ⟨c0n, c1n⟩) | (with_reducible exact ⟨c0, c1⟩) | go_keep)
                    (first
                      | ((with_reducible refine (HRX.out _ hbw).mono ?_); rintro e wn ⟨rfl, hbn⟩; replace c0 := (hbn.cell (p := ad.add k) (Nat.lt_of_lt_of_le hadb hbw.size)).trans c0; replace c1 := (hbn.cell (p := ⟨ad.block, ad.off + (k + 1), none⟩) (Nat.lt_of_lt_of_le hadb2 hbw.size)).trans c1;  replace hbw := bl_step hbw hbn)
                      | ((with_reducible refine (HRY.out _ hbw).mono ?_); rintro e wn ⟨rfl, hbn⟩; replace c0 := (hbn.cell (p := ad.add k) (Nat.lt_of_lt_of_le hadb hbw.size)).trans c0; replace c1 := (hbn.cell (p := ⟨ad.block, ad.off + (k + 1), none⟩) (Nat.lt_of_lt_of_le hadb2 hbw.size)).trans c1;  replace hbw := bl_step hbw hbn)
                      | ((with_reducible refine (HBO.out _ hbw).mono ?_); rintro e wb ⟨vB, rfl, hownB, hbn⟩; obtain ⟨AB, cB, rfl, _⟩ := own_form hownB; replace c0 := (hbn.cell (p := ad.add k) (Nat.lt_of_lt_of_le hadb hbw.size)).trans c0; replace c1 := (hbn.cell (p := ⟨ad.block, ad.off + (k + 1), none⟩) (Nat.lt_of_lt_of_le hadb2 hbw.size)).trans c1;  replace hownB := own_lower hownB (Nat.le_trans hs3 hbw.size); replace hbw := bl_step hbw hbn)
                      | (refine step_app _ (by rfl) (.tmp 64) (.tmp 89) _ (by rfl) w3.heap.size 129 iB _ 3 40 Tryz.underlying123 hiB zB0 zB1 zB2 rfl (by omega) (.slice OA k oc) k (T.flatMap bdP) (by rfl) (own_be hown (by with_reducible repeat (first | exact hbw | apply bl_alloc | apply bl_drew | apply bl_drewN))) (wb.heap.size + 1) (some ⟨wb.heap.size, 0, none⟩) 1 1 [iC x0, iC x1, .slice AB V.length cB] (by rfl) (Rds.block (cs := #[iC x0, iC x1, .slice AB V.length cB]) (Bk.new' _ _ _ (by simp)) rfl (by omega)) (by intro u hu; simp at hu; rcases hu with rfl | rfl | rfl <;> rfl) (by simp only [maxLen]; omega) (by omega) (by have := hbw.size; simp; omega) ?_; intro v4 w4 hown3 hg3 hat3; have hbW := app_bel (show Below wr.heap.size wr _ from by with_reducible repeat (first | exact hbw | apply bl_alloc | apply bl_drew | apply bl_drewN)) hg3; have hbB := app_bel (w1 := wb) (show Below wb.heap.size wb _ from bl_alloc (Below.refl _ _) _) hg3; have hb4 : Below w3.heap.size w3 w4 := Below.grown (hbr.trans (hbW.mono hs3)) hg3 (Nat.le_trans hs3 hbW.size) (fun g' hg' => (hown.lt g' hg').1); have c0n : w4.cell? (ad.add k) = some (iC x0) := (hb4.cell (p := ad.add k) (by rw [add_blk]; exact hbl)).trans ((hbr.cell (p := ad.add k) (by rw [add_blk]; exact hbl)).symm.trans c0r); have c1n : w4.cell? ⟨ad.block, ad.off + (k + 1), none⟩ = some (iC x1) := (hb4.cell (p := ⟨ad.block, ad.off + (k + 1), none⟩) hbl).trans ((hbr.cell (p := ⟨ad.block, ad.off + (k + 1), none⟩) hbl).symm.trans c1r)))
                  all_goals
                    go_wp2
                    go_roundg (gk - 1)
                    case measure => omega
                    case rel =>
                      have hownW := own_be hown hbW
                      refine ⟨k + 1, T ++ [((⟨x0, x1, V⟩ : Bd), .slice AB V.length cB)], by omega, by go_num, by rw [List.length_append, List.length_singleton, HN.out], Lib.hid (by rw [List.map_append, HT.out, HS.out]; rfl), ?_, Lib.hid fun q hq => ?_, hb4⟩
                      · rw [List.length_append, List.length_singleton, HN.out, List.flatMap_append]
                        exact hown3
                      · rcases List.mem_append.1 hq with hq | hq
                        · have h1 := HTs.out q hq
                          have h2 := own_be h1.1 hbW
                          exact ⟨h2.kept hg3 (own_two h2 hownW (by decide)), h1.2⟩
                        · obtain rfl : q = _ := by simpa using hq
                          have h2 := own_be hownB hbB
                          exact ⟨h2.kept hg3 (own_two h2 hownW (by decide)), hV8⟩
                · have hkg : k = (gaps es).length := by omega
                  have hTJ : T.map (·.1) = J := by rw [HT.out, List.take_of_length_le (by omega)]
                  have hR := rects_any OA oc T wr (by omega) (fun p hp => by have := (HTs.out p hp).2; omega) (fun p hp => HJI.out _ (by rw [← hTJ]; exact List.mem_map_of_mem hp)) (Rds.own hown) (fun p hp => SpR.own (HTs.out p hp).1)
                  rw [hTk, hTJ] at hR
                  rw [hTk]
                  have HR := Lib.hid hR
                  have hd : ¬ ((k : Int) + 1 < (es.length : Int)) := by omega
                  have hw : IntKind.i64.wrap ((k : Int) + 1) = (k : Int) + 1 := i64_in (by omega) (by omega)
                  have hz : w.heap.size ≤ wr.heap.size := Nat.le_trans hbw3.size hbr.size
                  have hbl := bl_step hbw3 hbr
                  clear hPv6 hQv6 hop hKc hTJ hE1 hPB3 hQB3 hform hJl HJt hR hkg hTk hgl hown hk hlt HJI HTs HT
                  go_wp2_with fail
                  refine HR.out.mono ?_
                  rintro e w4 ⟨v, rfl, hv, hb4⟩
                  go_wp2_with fail
                  go_ret
                  exact ⟨v, rfl, by rw [HJF.out]; exact own_lower hv hz, bl_step hbl hb4⟩
end Go.Proofs.YtjjdgbhplechbaaGreatDoor.Wk
/- region.Union, Subtract, Intersect. -/
namespace Go.Proofs.YtjjdgbhplechbaaGreatDoor.Wk
open Go.RowKit Go.Proofs.YtjjdgbhplechbaaGreatDoor.Kit Go.Proofs.YtjjdgbhplechbaaGreatDoor.Reg Go.Proofs.YtjjdgbhplechbaaGreatDoor.Rect

section
variable (A B : Option Addr) (c d : Nat) (la lb : List R) (w : World) (na : la.length ≤ 200000) (nb : lb.length ≤ 200000) (h64a : ∀ r ∈ la, I64 r) (h64b : ∀ r ∈ lb, I64 r) (hA : Rds w w.heap.size 4 A la.length (la.flatMap rC)) (hB : Rds w w.heap.size 4 B lb.length (lb.flatMap rC))
theorem opU (a b : Bool) (W : World) : Calls Tryz.prog 85 #[.bool a, .bool b] W fun e w' => e = .returned (.bool (a || b)) ∧ W = w' := by
  go_enter Tryz.func85, Tryz.ntmps85
  cases a <;> cases b <;> (go_wp2_with fail; go_ret; exact ⟨rfl, rfl⟩)
include na nb h64a h64b hA hB
theorem Union_any : Calls Tryz.prog 72 #[.slice A la.length c, .slice B lb.length d] w (RcP w (joinF (· || ·) la lb)) := by
  have HJ := Lib.hid (joined_any (· || ·) 85 (fun args W => by simp) opU A B c d la lb w na nb h64a h64b hA hB)
  clear na nb h64a h64b hA hB
  go_enter Tryz.func72, Tryz.ntmps72
  go_wp2_with fail
  refine HJ.out.mono ?_
  rintro e w1 ⟨v, rfl, h1, h2⟩
  go_wp2_with fail
  go_ret
  exact ⟨v, rfl, h1, h2⟩
end
end Go.Proofs.YtjjdgbhplechbaaGreatDoor.Wk
/- region.Has, and the functions of slices below it. -/
namespace Go.Proofs.YtjjdgbhplechbaaGreatDoor.Wk
open Go.RowKit Go.Proofs.YtjjdgbhplechbaaGreatDoor.Kit Go.Proofs.YtjjdgbhplechbaaGreatDoor.Reg Go.Proofs.YtjjdgbhplechbaaGreatDoor.Rect

/-- A copy of its own, out of nothing. -/
theorem Rects_any (A : Option Addr) (c : Nat) (l : List R) (w : World) (hn : l.length ≤ 1000000) (hA : Rds w w.heap.size 4 A l.length (l.flatMap rC)) :
    Calls Tryz.prog 13 #[.slice A l.length c] w (RcP w l) := by
  obtain ⟨iR, hiR, zR0, zR1, zR2⟩ := info_parts infoR
  go_enter Tryz.func13, Tryz.ntmps13
  go_wp2_with (at_builtin; go_must (refine wpList_app _ rfl (.const (.slice none 0 0)) (.tmp 3) _ rfl w.heap.size 64 iR _ 4 32 Tryz.underlying25 hiR zR0 zR1 zR2 rfl (by omega) (.slice none 0 0) 0 [] rfl (World.ownsRow_nil _ _ _ _) w.heap.size A l.length c (l.flatMap rC) rfl hA (by intro u hu; obtain ⟨r, _, hr⟩ := List.mem_flatMap.1 hu; simp [rC] at hr; rcases hr with rfl | rfl | rfl | rfl <;> rfl) (by simp only [maxLen]; omega) (by omega) (by omega) ?_); intro v2 w2 hown2 hg2 hat2)
  go_ret
  exact ⟨v2, rfl, by simpa using hown2, (Below.refl w.heap.size w).grown hg2 (Nat.le_refl _) (by intro g hg; simp [Value.ownBlock] at hg)⟩
end Go.Proofs.YtjjdgbhplechbaaGreatDoor.Wk
