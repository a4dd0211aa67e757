/- A map of one key at most, from numbers to bytes: what is looked up, and stored. -/
import Derived.Test.YtjjdgbhplechbaaDoorCvE
import Derived.MapKept
import Derived.ChangeMaps5
import Derived.Maps.Keyed
set_option linter.unusedVariables false
set_option linter.unusedSimpArgs false
namespace Go.Proofs.YtjjdgbhplechbaaDoor.Mm
open Go.RowKit Go.Proofs.YtjjdgbhplechbaaDoor.Kit Go.ChangeMaps
theorem infoB : (Tryd.prog.info? 5).map (fun i => (i.zero, i.size, i.bytes)) = some (some (.int .u8 0), 1, 1) := by kernel_rfl
theorem find0 (k : Int) (w : World) : (Instr.findKey 3 (.int .i64 k) []).run Tryd.prog w = .ok none w := by
  simp [Instr.findKey, Instr.findNow, run_underlying Tryd.underlying3]
theorem find1 (k k0 : Int) (v : Value) (n : Nat) (w : World) : (Instr.findKey 3 (.int .i64 k) [⟨.int .i64 k0, v, n⟩]).run Tryd.prog w = .ok (if k = k0 then some (0, v) else none) w := by
  by_cases h : k = k0
  · subst h
    simp [Instr.findKey, Instr.findNow, Instr.sameNow, run_underlying Tryd.underlying3]
  · have hb : (k == k0) = false := by simpa using h
    simp [Instr.findKey, Instr.findNow, Instr.sameNow, run_underlying Tryd.underlying3, hb, h]
theorem check_key (b : Bool) (k : Int) (w : World) : (Instr.checkKey b 10000 3 (.int .i64 k)).run Tryd.prog w = .ok () w := by
  unfold Instr.checkKey
  simp [run_underlying Tryd.underlying3]
theorem zero_bytes (w : World) : (zeroValue 79).run Tryd.prog w = .ok (.slice none 0 0) w := by kernel_rfl
/-- the map at block g has these entries -/
def Mp (w : World) (g : Nat) (es : Array MapEntry) : Prop := ∃ ck, w.heap[g]? = some (.map es ck)
section
variable {w w' : World} {g : Nat} {es : Array MapEntry}
theorem Mp.lt (h : Mp w g es) : g < w.heap.size := by
  obtain ⟨ck, h⟩ := h
  by_cases hl : g < w.heap.size
  · exact hl
  · rw [Array.getElem?_eq_none (by omega)] at h; cases h
theorem Mp.keep (h : Mp w g es) (hk : w'.heap[g]? = w.heap[g]?) : Mp w' g es := by
  obtain ⟨ck, h⟩ := h
  exact ⟨ck, hk.trans h⟩
theorem Mp.be (h : Mp w g es) (hb : Below w.heap.size w w') : Mp w' g es := h.keep (hb.block g h.lt)
theorem Mp.new (w : World) : Mp (w.alloc (.map #[] 0)) w.heap.size #[] := ⟨0, heap_alloc_new w _⟩
end
theorem look_0 {w : World} {g : Nat} (h : Mp w g #[]) (k : Int) (c : Bool) : (Instr.lookup 117 (.map (some g)) (.int .i64 k) c).run Tryd.prog w = .ok (if c then .tuple #[.slice none 0 0, .bool false] else .slice none 0 0) w := by
  obtain ⟨ck, h⟩ := h
  simp [Instr.lookup, run_underlying Tryd.underlying117, MapKept.run_getObj_map h, check_key, find0, zero_bytes, Result.andThen]
theorem look_1 {w : World} {g n : Nat} {k : Int} {v : Value} (h : Mp w g #[⟨.int .i64 k, v, n⟩]) (c : Bool) : (Instr.lookup 117 (.map (some g)) (.int .i64 k) c).run Tryd.prog w = .ok (if c then .tuple #[v, .bool true] else v) w := by
  obtain ⟨ck, h⟩ := h
  simp [Instr.lookup, run_underlying Tryd.underlying117, MapKept.run_getObj_map h, check_key, find1, zero_bytes, Result.andThen]
theorem look_n {w : World} {g n : Nat} {k k0 : Int} {v : Value} (h : Mp w g #[⟨.int .i64 k0, v, n⟩]) (hk : k ≠ k0) (c : Bool) : (Instr.lookup 117 (.map (some g)) (.int .i64 k) c).run Tryd.prog w = .ok (if c then .tuple #[.slice none 0 0, .bool false] else .slice none 0 0) w := by
  obtain ⟨ck, h⟩ := h
  simp [Instr.lookup, run_underlying Tryd.underlying117, MapKept.run_getObj_map h, check_key, find1, hk, zero_bytes, Result.andThen]
/-- the first key that is stored -/
theorem store_0 {w : World} {g : Nat} (h : Mp w g #[]) (k : Int) (v : Value) : ∃ w' n, (Instr.mapUpdate 117 (.map (some g)) (.int .i64 k) v).run Tryd.prog w = .ok () w' ∧ Mp w' g #[⟨.int .i64 k, v, n⟩] ∧ Cv.Sav g w w' := by
  obtain ⟨ck, h⟩ := h
  refine ⟨setBlock w g (.map #[⟨.int .i64 k, v, ck⟩] (ck + 1)), ck, ?_, ⟨ck + 1, heap_setBlock_same h _⟩, ⟨rfl, rfl, rfl, by simp [setBlock], fun i _ hi => heap_setBlock_other h _ hi⟩⟩
  simp [Instr.mapUpdate, run_underlying Tryd.underlying117, MapKept.run_getObj_map h, check_key, find0, MapKept.run_setObj_map _ h, Result.andThen, setBlock]
end Go.Proofs.YtjjdgbhplechbaaDoor.Mm
