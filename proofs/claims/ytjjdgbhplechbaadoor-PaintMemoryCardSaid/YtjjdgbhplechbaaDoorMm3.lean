/- Write: bytes into a memory of one key. -/
import Derived.Test.YtjjdgbhplechbaaDoorMm2
import Derived.Laws.CopyRow
set_option linter.unusedVariables false
set_option linter.unusedSimpArgs false
namespace Go.Proofs.YtjjdgbhplechbaaDoor.Mm
open Go.RowKit Go.Proofs.YtjjdgbhplechbaaDoor.Kit Go.Proofs.YtjjdgbhplechbaaDoor.Cv
/-- a memory at m, its map at g; of the one key the bytes L at b -/
structure Mb (w : World) (m g b : Nat) (key : Int) (L : List Int) : Prop where
  me : ∃ s, Me w m g #[⟨.int .i64 key, .slice (some ⟨b, 0, none⟩) L.length L.length, s⟩]
  by_ : Bk w b 5 (byV L)
  bg : b ≠ g
  bm : b ≠ m
section
variable {w w' : World} {m g b : Nat} {key : Int} {L : List Int}
theorem Mb.be (h : Mb w m g b key L) (hb : Below w.heap.size w w') : Mb w' m g b key L := by
  obtain ⟨⟨s, h1⟩, h2, h3, h4⟩ := h
  exact ⟨⟨s, h1.be hb⟩, h2.be hb, h3, h4⟩
theorem Mb.sav {q : Nat} (h : Mb w m g b key L) (s : Sav q w w') (h1 : m ≠ q) (h2 : g ≠ q) (h3 : b ≠ q) : Mb w' m g b key L := by
  obtain ⟨⟨t, a1⟩, a2, a3, a4⟩ := h
  exact ⟨⟨t, a1.sav s h1 h2⟩, s.bk a2 h3, a3, a4⟩
end
theorem by_size (L : List Int) : (byV L).size = L.length := by simp [byV]
theorem by_one (L : List Int) : ∀ u ∈ L.map (Value.int .u8), u.oneCell' = true := by
  intro u hu
  obtain ⟨v, _, rfl⟩ := List.mem_map.1 hu
  rfl
/-- bytes, some of them written -/
def wrB (L M : List Int) (k : Nat) : List Int := L.take k ++ M ++ L.drop (k + M.length)
theorem wrB_len {L M : List Int} {k : Nat} (h : k + M.length ≤ L.length) : (wrB L M k).length = L.length := by
  unfold wrB
  simp only [List.length_append, List.length_take, List.length_drop]
  omega
theorem run_copy_at {w : World} {b k n c cb Bd : Nat} {L M : List Int} {B : Option Addr} (hb : Bk w b 5 (byV L)) (hfit : k + M.length ≤ L.length) (hn : M.length ≤ n) (h0 : 0 < M.length) (hr : Rds w Bd 1 B M.length (M.map (Value.int .u8))) (ty : TypeId) :
    (Builtin.copy_ #[79, 79] ty #[.slice (some ⟨b, k, none⟩) n c, .slice B M.length cb]).run Tryd.prog w = .ok (goInt M.length) (w.setRow b (byV (wrB L M k))) := by
  obtain ⟨iB, hiB, zB0, zB1, zB2⟩ := info_parts infoB
  obtain ⟨ad, rfl, _, hc⟩ := hr.2 h0
  have hl := run_loadCells_list (P := Tryd.prog) w ad (M.map (Value.int .u8)) hc
  have hst := run_storeCells_at Tryd.prog b k 5 (M.map (Value.int .u8)) 0 (byV L) w hb (by rw [by_size]; simpa using hfit) (by_one M)
  have he : (byV L).toList.take (k + 0) ++ M.map (Value.int .u8) ++ (byV L).toList.drop (k + 0 + (M.map (Value.int .u8)).length) = (wrB L M k).map (Value.int .u8) := by
    unfold wrB byV
    simp [List.map_take, List.map_drop]
  rw [he] at hst
  have hst : (storeCells ⟨b, k, none⟩ (M.map (Value.int .u8)) 0).run Tryd.prog w = .ok () (w.setRow b (byV (wrB L M k))) := hst
  rw [List.length_map] at hl
  have hmin : Nat.min M.length n = M.length := Nat.min_eq_left hn
  simp [Builtin.copy_, Builtin.lenOf, Builtin.firstCells, run_underlying Tryd.underlying79, sizeOf, typeInfo, hiB, zB1, hmin, hl, hst]
theorem sav_row {w : World} {b : Nat} (cs : Array Value) : Sav b w (w.setRow b cs) := ⟨rfl, rfl, rfl, by simp [World.setRow], fun k _ hk => setRow_other w b k cs hk⟩
theorem slB {w : World} {b n k : Nat} (hk : k < n) : (Instr.slice 79 (.slice (some ⟨b, 0, none⟩) n n) (some (.int .i64 (k : Int))) none none).run Tryd.prog w = .ok (.slice (some ⟨b, k, none⟩) (n - k) (n - k)) w := by
  obtain ⟨iB, hiB, zB0, zB1, zB2⟩ := info_parts infoB
  have hel : Tryd.prog.elem 79 = 5 := by simp [Program.elem, Tryd.underlying79]
  have hu : Tryd.prog.underlying 79 = some (.slice (Tryd.prog.elem 79)) := by rw [hel]; exact Tryd.underlying79
  have hsb := run_sliceBound (P := Tryd.prog) w .i64 (k : Int) n BoundsCode.sliceB (by omega) (by omega)
  have ha : (⟨b, 0, none⟩ : Addr).add k = ⟨b, k, none⟩ := by unfold Addr.add; split <;> simp_all
  have hne : ¬ (n = k) := by omega
  simp [Instr.slice, run_underlying hu, Instr.sliceBounds, hsb, sizeOf, typeInfo, hel, hiB, zB1, ha, hne]
attribute [local go_sem high] slB
set_option maxHeartbeats 8000000 in
theorem mwrite_any (m g b : Nat) (key : Int) (L M : List Int) (k : Nat) (B : Option Addr) (cb : Nat) (w : World) (h : Mb w m g b key L) (hL : L.length ≤ 65536) (hk : k + M.length ≤ L.length) (h0 : 0 < M.length) (hr : Rds w w.heap.size 1 B M.length (M.map (Value.int .u8))) :
    Calls Tryd.prog 38 #[.pointer (some ⟨m, 0, none⟩), .int .i64 key, .int .i64 (k : Int), .slice B M.length cb] w fun e w' => e = .returned .nilIface ∧ Mb w' m g b key (wrB L M k) ∧ Sav b w w' := by
  obtain ⟨⟨s, hme⟩, hby, hbg, hbm⟩ := h
  have hm := hme.hd.cell 0
  have hlk : (Instr.lookup 117 (.map (some g)) (.int .i64 key) true).run Tryd.prog w = .ok (.tuple #[.slice (some ⟨b, 0, none⟩) L.length L.length, .bool true]) w := by simpa using look_1 hme.mp true
  have hcp := run_copy_at (n := L.length - k) (c := L.length - k) (cb := cb) hby hk (by omega) h0 hr 3
  have d1 : decide ((k : Int) < 0) = false := by simp
  have d2 : decide ((L.length : Int) - (M.length : Int) < (k : Int)) = false := by simp; omega
  have hkl : k < L.length := by omega
  have g1 : IntKind.i64.wrap ((L.length : Int) - (M.length : Int)) = (L.length : Int) - (M.length : Int) := i64_in (by omega) (by omega)
  have hme := Lib.hid hme
  have hby := Lib.hid hby
  have hkH := Lib.hid hk
  clear hr hk
  go_enter Tryd.func38, Tryd.ntmps38
  go_wp2_with fail
  go_ret
  refine ⟨rfl, ⟨⟨s, ?_⟩, setRow_heap w b _ _ _ _ hby.out, hbg, hbm⟩, sav_row _⟩
  rw [wrB_len hkH.out]
  exact hme.out.sav (sav_row _) hbm.symm hbg.symm
end Go.Proofs.YtjjdgbhplechbaaDoor.Mm
