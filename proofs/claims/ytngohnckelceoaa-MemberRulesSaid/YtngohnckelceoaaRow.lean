/- A block known whole: what each of its cells holds, and that none of them is frozen; how it fares under stores, new blocks and what lies beside it. Over any program. No condition. -/
import Derived.WalkKit
import Derived.Handy
import Derived.Lib.SmallJoins
import Derived.Lib.Hide
namespace Go.Proofs.Ytngohnckelceoaa
open Go Go.RowKit

/-- Block b holds the cells A, and none is frozen. -/
def Row (w : World) (b : Nat) (A : Array Value) : Prop := ∃ t, w.heap[b]? = some (.cells A t (0, 0))

section
variable {w w' : World} {b B : Nat} {A : Array Value}
theorem Row.cell (h : Row w b A) (o : Nat) : w.cell? ⟨b, o, none⟩ = A[o]? := by obtain ⟨t, h⟩ := h; simp [World.cell?, h]
theorem Row.free (h : Row w b A) (o : Nat) : w.frozen? ⟨b, o, none⟩ = false := by obtain ⟨t, h⟩ := h; simp [World.frozen?, h]
theorem Row.lt (h : Row w b A) : b < w.heap.size := by obtain ⟨t, h⟩ := h; exact (Array.getElem?_eq_some_iff.1 h).1
theorem Row.new (w : World) (A : Array Value) (t : TypeId) : Row (w.alloc (.cells A t)) w.heap.size A := ⟨t, (MapKept.heap_alloc w _).1⟩
theorem Row.alloc (h : Row w b A) (o : Obj) : Row (w.alloc o) b A := by
  have hl := h.lt
  obtain ⟨t, h⟩ := h
  exact ⟨t, by rw [Below.heap_alloc w o b hl]; exact h⟩
theorem Row.drew (h : Row w b A) : Row w.drew b A := h
theorem Row.below (h : Row w b A) (hb : Below B w w') (hB : b < B) : Row w' b A := by
  obtain ⟨t, h⟩ := h
  exact ⟨t, by rw [hb.block b hB]; exact h⟩
theorem Row.below' (h : Row w b A) (hb : Below w.heap.size w w') : Row w' b A := h.below hb h.lt
theorem Row.set (h : Row w b A) (i : Nat) (v : Value) : Row (w.setCell ⟨b, i, none⟩ v) b (A.setIfInBounds i v) := by
  obtain ⟨t, h⟩ := h
  exact ⟨t, Joins.block_setCell h v⟩
theorem Row.other (h : Row w b A) {a : Addr} (ha : a.block ≠ b) (v : Value) : Row (w.setCell a v) b A := by
  obtain ⟨t, h⟩ := h
  exact ⟨t, by rw [Below.heap_setCell w a v b (Ne.symm ha)]; exact h⟩
end
end Go.Proofs.Ytngohnckelceoaa
