/- How an argument of the type api.Facts reads: thirteen cells, each a string, a bool or a number. No condition. -/
import Derived.Test.YtngohnckelceoaaM1
import Derived.ProofKit
import Derived.OpenShut
import Derived.ShutString
import Derived.ChangeOld
import Derived.Below
namespace Go.Proofs.Ytngohnckelceoaa
open Go.ChangeShapes Go.WideShapes Go.ChangeAt Go.RowKit

theorem Try.ownKnob : ownKnob Try.prog.godebug = none := by kernel_rfl
theorem Try.laidOut : laidOutB Try.prog = true := by kernel_rfl

theorem array13 {α : Type} {cs : Array α} (h : cs.size = 13) : ∃ c0 c1 c2 c3 c4 c5 c6 c7 c8 c9 c10 c11 c12, cs = #[c0, c1, c2, c3, c4, c5, c6, c7, c8, c9, c10, c11, c12] := by
  obtain ⟨l⟩ := cs
  match l, h with
  | [c0, c1, c2, c3, c4, c5, c6, c7, c8, c9, c10, c11, c12], _ => exact ⟨c0, c1, c2, c3, c4, c5, c6, c7, c8, c9, c10, c11, c12, rfl⟩

section
variable {H : Type} {enc : TypeId × Value → H} {P : Program} {w : World} {base : Nat} {spare : Nat → Bool} {held : Bool}
theorem field_cell {n i : Nat} {fs : Array Field} {f : Field} {xs : List (DataW H × List MemPlace)} {cs : List Value} {c : Value} (hx : ∀ (i : Nat) (f : Field), fs[i]? = some f → DataW.trod enc P w base spare held n f.type (List.take (P.cellsOf f.type) (List.drop f.offset cs)) = xs[i]?)
    (hl : xs.length = fs.size) (hi : fs[i]? = some f) (ho : List.take (P.cellsOf f.type) (List.drop f.offset cs) = [c]) : ∃ y, DataW.trod enc P w base spare held n f.type [c] = some y := by
  have h1 := hx i f hi
  have h2 : i < xs.length := by rw [hl]; exact (Array.getElem?_eq_some_iff.1 hi).1
  rw [ho, List.getElem?_eq_getElem h2] at h1
  exact ⟨_, h1⟩
theorem cell_string {t : TypeId} {fuel : Nat} {c : Value} (ht : P.underlying t = some .string) (h : ∃ y, DataW.trod enc P w base spare held fuel t [c] = some y) : ∃ s, c = .string s := by
  obtain ⟨y, hy⟩ := h
  obtain ⟨s, hs, _⟩ := DataW.trod_string ht hy
  exact ⟨s, by simpa using hs⟩
theorem cell_bool {t : TypeId} {fuel : Nat} {c : Value} (ht : P.underlying t = some .bool) (h : ∃ y, DataW.trod enc P w base spare held fuel t [c] = some y) : ∃ b, c = .bool b := by
  obtain ⟨y, hy⟩ := h
  obtain ⟨s, hs, _⟩ := DataW.trod_bool ht hy
  exact ⟨s, by simpa using hs⟩
theorem cell_int {t : TypeId} {fuel : Nat} {k : IntKind} {c : Value} (ht : P.underlying t = some (.int k)) (h : ∃ y, DataW.trod enc P w base spare held fuel t [c] = some y) : ∃ n, c = .int k n ∧ (Lit.int k n).wf = true := by
  obtain ⟨y, hy⟩ := h
  obtain ⟨s, hs, _, hw⟩ := DataW.trod_int ht hy
  exact ⟨s, by simpa using hs, hw⟩
end

set_option maxRecDepth 100000 in
theorem open_facts_wf {H : Type} {enc : TypeId × Value → H} {w : World} {r : Reach} {base b0 : Nat} {spare : Nat → Bool} {held : Bool} {v : Value} {d : DataW H} {p : List MemPlace}
    (hv : Value.okWide Try.prog w r b0 24 v) (h : DataW.Trod enc Try.prog w base spare held 24 v d p) : ∃ f : Fs, v = f.val ∧ (Lit.int .i64 f.level).wf = true := by
  obtain ⟨cs, rfl, hsz⟩ := okWide_struct Try.underlying24 hv
  obtain ⟨c0, c1, c2, c3, c4, c5, c6, c7, c8, c9, c10, c11, c12, rfl⟩ := array13 (hsz.trans (by kernel_rfl))
  obtain ⟨fuel, hf⟩ := h
  obtain ⟨xs, n, _, _, _, hl, hx⟩ := DataW.trod_struct Try.underlying24 hf
  have k9 : Try.prog.cellsOf 9 = 1 := by kernel_rfl
  have k4 : Try.prog.cellsOf 4 = 1 := by kernel_rfl
  have k3 : Try.prog.cellsOf 3 = 1 := by kernel_rfl
  have k2 : Try.prog.cellsOf 2 = 1 := by kernel_rfl
  obtain ⟨x0, rfl⟩ := cell_string Try.underlying9 (field_cell (i := 0) (c := c0) hx hl rfl (by simp [k9, Value.cells]))
  obtain ⟨x1, rfl⟩ := cell_bool Try.underlying4 (field_cell (i := 1) (c := c1) hx hl rfl (by simp [k4, Value.cells]))
  obtain ⟨x2, rfl⟩ := cell_bool Try.underlying4 (field_cell (i := 2) (c := c2) hx hl rfl (by simp [k4, Value.cells]))
  obtain ⟨x3, rfl⟩ := cell_string Try.underlying9 (field_cell (i := 3) (c := c3) hx hl rfl (by simp [k9, Value.cells]))
  obtain ⟨x4, rfl⟩ := cell_string Try.underlying9 (field_cell (i := 4) (c := c4) hx hl rfl (by simp [k9, Value.cells]))
  obtain ⟨x5, rfl⟩ := cell_string Try.underlying9 (field_cell (i := 5) (c := c5) hx hl rfl (by simp [k9, Value.cells]))
  obtain ⟨x6, rfl⟩ := cell_bool Try.underlying4 (field_cell (i := 6) (c := c6) hx hl rfl (by simp [k4, Value.cells]))
  obtain ⟨x7, rfl, _⟩ := cell_int Try.underlying3 (field_cell (i := 7) (c := c7) hx hl rfl (by simp [k3, Value.cells]))
  obtain ⟨x8, rfl, hw8⟩ := cell_int Try.underlying2 (field_cell (i := 8) (c := c8) hx hl rfl (by simp [k2, Value.cells]))
  obtain ⟨x9, rfl, _⟩ := cell_int Try.underlying2 (field_cell (i := 9) (c := c9) hx hl rfl (by simp [k2, Value.cells]))
  obtain ⟨x10, rfl, _⟩ := cell_int Try.underlying2 (field_cell (i := 10) (c := c10) hx hl rfl (by simp [k2, Value.cells]))
  obtain ⟨x11, rfl, _⟩ := cell_int Try.underlying2 (field_cell (i := 11) (c := c11) hx hl rfl (by simp [k2, Value.cells]))
  obtain ⟨x12, rfl, _⟩ := cell_int Try.underlying2 (field_cell (i := 12) (c := c12) hx hl rfl (by simp [k2, Value.cells]))
  exact ⟨⟨x0, x1, x2, x3, x4, x5, x6, x7, x8, x9, x10, x11, x12⟩, rfl, hw8⟩
theorem open_facts {H : Type} {enc : TypeId × Value → H} {w : World} {r : Reach} {base b0 : Nat} {spare : Nat → Bool} {held : Bool} {v : Value} {d : DataW H} {p : List MemPlace}
    (hv : Value.okWide Try.prog w r b0 24 v) (h : DataW.Trod enc Try.prog w base spare held 24 v d p) : ∃ f : Fs, v = f.val :=
  let ⟨f, hf, _⟩ := open_facts_wf hv h; ⟨f, hf⟩


end Go.Proofs.Ytngohnckelceoaa
