/- memory.New; Set, a memory's first key. -/
import Derived.Test.YtjjdgbhplechbaaDoorMm1
set_option linter.unusedVariables false
set_option linter.unusedSimpArgs false
namespace Go.Proofs.YtjjdgbhplechbaaDoor.Mm
open Go.RowKit Go.Proofs.YtjjdgbhplechbaaDoor.Kit Go.Proofs.YtjjdgbhplechbaaDoor.Cv
/-- a memory at m, its map at g -/
structure Me (w : World) (m g : Nat) (es : Array MapEntry) : Prop where
  hd : Bk w m 119 #[.map (some g)]
  mp : Mp w g es
section
variable {w w' : World} {m g : Nat} {es : Array MapEntry}
theorem Me.ne (h : Me w m g es) : m ≠ g := fun e => by
  subst e
  have a := h.hd
  obtain ⟨ck, b⟩ := h.mp
  unfold Bk at a
  rw [a] at b
  cases b
theorem Me.be (h : Me w m g es) (hb : Below w.heap.size w w') : Me w' m g es := ⟨h.hd.be hb, h.mp.be hb⟩
theorem Me.sav {q : Nat} (h : Me w m g es) (s : Sav q w w') (h1 : m ≠ q) (h2 : g ≠ q) : Me w' m g es := ⟨s.bk h.hd h1, h.mp.keep (s.block g h.mp.lt h2)⟩
end
theorem run_mkmap (t : TypeId) (w : World) : (Instr.makeMap t none).run Tryd.prog w = .ok (.map (some w.heap.size)) (w.alloc (.map #[] 0)) := rfl
attribute [local go_sem high] run_mkmap
theorem mnew_any (w : World) : Calls Tryd.prog 36 #[] w fun e w' => ∃ m g, e = .returned (.pointer (some ⟨m, 0, none⟩)) ∧ Me w' m g #[] ∧ w.heap.size ≤ m ∧ w.heap.size ≤ g ∧ Below w.heap.size w w' := by
  go_enter Tryd.func36, Tryd.ntmps36
  go_wp2_with fail
  go_ret
  exact ⟨_, _, rfl, ⟨Bk.new' _ _ _ (by simp), ⟨0, (Below.heap_alloc _ _ _ (by simp)).trans (heap_alloc_new w _)⟩⟩, by simp, Nat.le_refl _, bl_alloc (bl_alloc (Below.refl _ _) _) _⟩
theorem copy_nil (A : Option Addr) (n c : Nat) (w : World) (ty : TypeId) : (Builtin.copy_ #[79, 79] ty #[.slice A n c, .slice none 0 0]).run Tryd.prog w = .ok (goInt 0) w := by
  obtain ⟨iB, hiB, zB0, zB1, zB2⟩ := info_parts infoB
  have hmin : Nat.min 0 n = 0 := by simp
  cases A <;> simp [Builtin.copy_, run_underlying Tryd.underlying79, Builtin.lenOf, Builtin.firstCells, sizeOf, typeInfo, hiB, storeCells]
attribute [local go_sem high] copy_nil
def byV (L : List Int) : Array Value := (L.map (Value.int .u8)).toArray
theorem made_by (n : Nat) : (madeCells (Value.int .u8 0).cells (n * 1)).toList = List.replicate n (Value.int .u8 0) := by
  show (madeCells #[Value.int .u8 0] (n * 1)).toList = _
  rw [toList_madeCells_one, Nat.mul_one]
set_option maxHeartbeats 8000000 in
theorem mset_any (m g : Nat) (key : Int) (n : Nat) (w : World) (hM : Me w m g #[]) (hk : 1 ≤ key ∧ key ≤ 255) (hn : n ≤ 65536) :
    Calls Tryd.prog 37 #[.pointer (some ⟨m, 0, none⟩), .int .i64 key, .int .i64 (n : Int)] w fun e w' => ∃ s, e = .returned .nilIface ∧ Me w' m g #[⟨.int .i64 key, .slice (some ⟨w.heap.size, 0, none⟩) n n, s⟩] ∧ Bk w' w.heap.size 5 (byV (List.replicate n 0)) ∧ Sav g w w' := by
  obtain ⟨iB, hiB, zB0, zB1, zB2⟩ := info_parts infoB
  have d1 : decide (key < 1) = false := by simp; omega
  have d2 : decide (255 < key) = false := by simp; omega
  have d3 : decide ((n : Int) < 0) = false := by simp
  have d4 : decide ((65536 : Int) < (n : Int)) = false := by simp; omega
  have hm := hM.hd.cell 0
  have hml := hM.hd.lt
  have hM := Lib.hid hM
  go_enter Tryd.func37, Tryd.ntmps37
  go_upto_region 4 with (at_make; go_must (refine wpList_make_full _ rfl (.tmp 23) (.tmp 23) 79 rfl w.heap.size 5 iB _ 1 Tryd.underlying79 hiB zB0 zB1 .i64 .i64 _ _ n rfl rfl rfl rfl (by rw [zB2]; omega) (by simp only [maxLen]; omega) (by omega) ?_); intro w4 hown4 hg4; have hb4 : Below w.heap.size w w4 := (Below.refl _ _).grown hg4 (Nat.le_refl _) (by intro g hg; simp at hg))
  have hM4 := hM.out.be hb4
  have hm4 := hM4.hd.cell 0
  have hl4 : (Instr.lookup 117 (.map (some g)) (.int .i64 key) false).run Tryd.prog w4 = .ok (.slice none 0 0) w4 := by simpa using look_0 hM4.mp key false
  obtain ⟨w5, s, hrun, hMp, hSv⟩ := store_0 hM4.mp key (.slice (some ⟨w.heap.size, 0, none⟩) n n)
  have hgl := hM.out.mp.lt
  have hne := hM.out.ne
  have hM5 : Me w5 m g #[⟨.int .i64 key, .slice (some ⟨w.heap.size, 0, none⟩) n n, s⟩] := ⟨hSv.bk hM4.hd hne, hMp⟩
  have hown5 := own_sv hown4 hSv (fun b hb => by injection hb with hb; subst hb; show w.heap.size ≠ g; omega)
  have hbk := own_bk hown5
  rw [made_by] at hbk
  have hbk : Bk w5 w.heap.size 5 (byV (List.replicate n 0)) := by unfold byV; rw [List.map_replicate]; exact hbk
  clear hown5
  have hS := (Sav.of (p := g) hb4).trans hSv
  have hM5 := Lib.hid hM5
  have hbk := Lib.hid hbk
  clear hM4 hMp hSv hown4 hb4 hgl hne
  go_wp2_with fail
  go_ret
  exact ⟨s, rfl, hM5.out, hbk.out, hS⟩
end Go.Proofs.YtjjdgbhplechbaaDoor.Mm
