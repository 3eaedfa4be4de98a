/- How the small machine's values and blocks stand to the program's memory; how that fares under new blocks, stores and new numbers. No condition. -/
import Derived.Test.YtnfglcfjjemjmaaAm1b
namespace Go.Proofs.Ytnfglcfjjemjmaa
open Go Go.RowKit

/-- Of each block: its number in memory, and how many cells it has there. -/
abbrev FM := Nat → Option (Nat × Nat)
/-- What f knows g knows. -/
def Sub (f g : FM) : Prop := ∀ (i : Nat) (x : Nat × Nat), f i = some x → g i = some x
theorem Sub.refl (f : FM) : Sub f f := fun _ _ h => h
theorem Sub.trans {f g h : FM} (a : Sub f g) (b : Sub g h) : Sub f h := fun i x hx => b i x (a i x hx)
def noF : FM := fun _ => none
def upd (f : FM) (i : Nat) (x : Nat × Nat) : FM := fun j => if j = i then some x else f j
theorem upd_same (f : FM) (i : Nat) (x : Nat × Nat) : upd f i x i = some x := by simp [upd]
theorem upd_ne (f : FM) {i j : Nat} (x : Nat × Nat) (h : j ≠ i) : upd f i x j = f j := by simp [upd, h]
theorem upd_sub {f : FM} {i : Nat} {x : Nat × Nat} (h : f i = none) : Sub f (upd f i x) := fun j y hy => by
  by_cases e : j = i
  · subst e; rw [h] at hy; cases hy
  · rw [upd_ne _ _ e]; exact hy
def SRel : SV → Value → Prop
  | .junk, _ => True
  | .bool b, V => V = .bool b
  | .int k n, V => V = .int k n
  | .str s, V => V = .string ⟨s.toArray⟩
  | .flt b, V => V = .float .f64 b
def SRels : List SV → List Value → Prop
  | [], Vs => Vs = []
  | s :: l, Vs => ∃ V r, Vs = V :: r ∧ SRel s V ∧ SRels l r
mutual
def VRel (f : FM) : AV → Value → Prop
  | .junk, _ => True
  | .bool b, V => V = .bool b
  | .int k n, V => V = .int k n
  | .str s, V => V = .string ⟨s.toArray⟩
  | .ptr i off, V => ∃ x, f i = some x ∧ V = .pointer (some ⟨x.1, off, none⟩)
  | .nilp, V => V = .pointer none
  | .sl i off base len esz lim, V => ∃ x cap, f i = some x ∧ 0 < esz ∧ off + cap * esz = lim.getD x.2 ∧ len ≤ cap ∧ V = .slice (some ⟨x.1, if cap = 0 then base else off, none⟩) len cap
  | .nilsl, V => V = .slice none 0 0
  | .fn g a c, V => ∃ A D, V = .func (.func g) A D ∧ VRels f a A.toList ∧ VRels f c D.toList
  | .nilfn, V => V = .nilFunc
  | .nilif, V => V = .nilIface
  | .flt b, V => V = .float .f64 b
  | .agg l, V => ∃ A, V = .agg A ∧ VRels f l A.toList
  | .nums k l, V => V = .agg ((l.map (Value.int k)).toArray)
  | .tup l, V => ∃ A, V = .tuple A ∧ VRels f l A.toList
  | .flat l, V => ∃ A, V = .agg A ∧ SRels l A.toList
  | .at _ _, _ => False
def VRels (f : FM) : List AV → List Value → Prop
  | [], Vs => Vs = []
  | v :: l, Vs => ∃ V r, Vs = V :: r ∧ VRel f v V ∧ VRels f l r
end

def AV.mem3 : AV → Bool
  | .agg _ | .nums _ _ | .at _ _ | .flat _ => true
  | _ => false
theorem isAgg_mem3 {v : AV} (h : v.isAgg = true) : v.mem3 = true := by
  cases v <;> first | rfl | cases h
theorem AV.cellInd {motive : AV → Prop} (agg : ∀ l, motive (.agg l)) (nums : ∀ k l, motive (.nums k l)) (flat : ∀ l, motive (.flat l)) («at» : ∀ o c, motive c → motive (.at o c)) (other : ∀ c, c.mem3 = false → motive c) : ∀ c, motive c
  | .agg l => agg l
  | .nums k l => nums k l
  | .flat l => flat l
  | .at o c => «at» o c (AV.cellInd agg nums flat «at» other c)
  | .junk => other _ rfl
  | .bool _ => other _ rfl
  | .int _ _ => other _ rfl
  | .str _ => other _ rfl
  | .ptr _ _ => other _ rfl
  | .nilp => other _ rfl
  | .sl .. => other _ rfl
  | .nilsl => other _ rfl
  | .fn .. => other _ rfl
  | .nilfn => other _ rfl
  | .nilif => other _ rfl
  | .flt _ => other _ rfl
  | .tup _ => other _ rfl
section
variable {f g : FM} {l l' : List AV} {Vs Ws : List Value}
theorem VRels.nil : VRels f [] [] := by simp [VRels]
theorem VRels.cons {v V} (h : VRel f v V) (h' : VRels f l Vs) : VRels f (v :: l) (V :: Vs) := by
  rw [VRels]; exact ⟨V, Vs, rfl, h, h'⟩
theorem VRels.cons_iff {v V} : VRels f (v :: l) (V :: Vs) ↔ VRel f v V ∧ VRels f l Vs := by
  rw [VRels]
  constructor
  · rintro ⟨V', r, h, h1, h2⟩
    obtain ⟨rfl, rfl⟩ := List.cons.inj h
    exact ⟨h1, h2⟩
  · rintro ⟨h1, h2⟩; exact ⟨V, Vs, rfl, h1, h2⟩
theorem SRel.av {s : SV} {V : Value} : VRel f s.av V ↔ SRel s V := by
  cases s <;> simp [SV.av, VRel, SRel]
theorem SRels.av : ∀ {l : List SV} {Vs : List Value}, VRels f (l.map SV.av) Vs ↔ SRels l Vs
  | [], Vs => by simp [VRels, SRels]
  | s :: l, Vs => by
    simp only [List.map_cons, VRels, SRels]
    constructor
    · rintro ⟨V, r, h, h1, h2⟩; exact ⟨V, r, h, SRel.av.1 h1, SRels.av.1 h2⟩
    · rintro ⟨V, r, h, h1, h2⟩; exact ⟨V, r, h, SRel.av.2 h1, SRels.av.2 h2⟩
theorem live_one {s : SV} (h : s.live = true) : s.av.one = true := by cases s <;> first | rfl | cases h
theorem allS_one : ∀ {l : List SV}, allS l = true → allOne (l.map SV.av) = true
  | [], _ => rfl
  | s :: l, h => by
    simp only [allS, Bool.and_eq_true] at h
    simp only [List.map_cons, allOne, Bool.and_eq_true]
    exact ⟨live_one h.1, allS_one h.2⟩
theorem toSV_av {v : AV} {s : SV} (h : toSV v = some s) : s.av = v := by
  cases v <;> simp only [toSV, Option.some.injEq, reduceCtorEq] at h <;> subst h <;> rfl
theorem VRels.length : ∀ {l : List AV} {Vs : List Value}, VRels f l Vs → l.length = Vs.length
  | [], Vs, h => by rw [VRels] at h; subst h; rfl
  | v :: l, Vs, h => by
    rw [VRels] at h
    obtain ⟨V, r, rfl, _, h2⟩ := h
    simp [VRels.length h2]
theorem VRels.get : ∀ {l : List AV} {Vs : List Value} (i : Nat) {v : AV}, VRels f l Vs → l[i]? = some v → ∃ V, Vs[i]? = some V ∧ VRel f v V
  | [], Vs, i, v, h, hi => by simp at hi
  | u :: l, Vs, i, v, h, hi => by
    rw [VRels] at h
    obtain ⟨V, r, rfl, h1, h2⟩ := h
    cases i with
    | zero => simp at hi; subst hi; exact ⟨V, by simp, h1⟩
    | succ i => simp at hi; obtain ⟨V', h3, h4⟩ := VRels.get i h2 hi; exact ⟨V', by simpa using h3, h4⟩
theorem VRels.app : ∀ {l : List AV} {Vs : List Value}, VRels f l Vs → VRels f l' Ws → VRels f (l ++ l') (Vs ++ Ws)
  | [], Vs, h, h' => by rw [VRels] at h; subst h; simpa using h'
  | v :: l, Vs, h, h' => by
    rw [VRels] at h
    obtain ⟨V, r, rfl, h1, h2⟩ := h
    exact VRels.cons h1 (VRels.app h2 h')
theorem VRels.take : ∀ (n : Nat) {l : List AV} {Vs : List Value}, VRels f l Vs → VRels f (l.take n) (Vs.take n)
  | 0, l, Vs, _ => by simp [VRels]
  | n + 1, [], Vs, h => by rw [VRels] at h; subst h; simp [VRels]
  | n + 1, v :: l, Vs, h => by
    rw [VRels] at h
    obtain ⟨V, r, rfl, h1, h2⟩ := h
    exact VRels.cons h1 (VRels.take n h2)
theorem VRels.drop : ∀ (n : Nat) {l : List AV} {Vs : List Value}, VRels f l Vs → VRels f (l.drop n) (Vs.drop n)
  | 0, l, Vs, h => by simpa using h
  | n + 1, [], Vs, h => by rw [VRels] at h; subst h; simp [VRels]
  | n + 1, v :: l, Vs, h => by
    rw [VRels] at h
    obtain ⟨V, r, rfl, h1, h2⟩ := h
    exact VRels.drop n h2
theorem VRels.set : ∀ (n : Nat) {l : List AV} {Vs : List Value} {v V}, VRels f l Vs → VRel f v V → VRels f (l.set n v) (Vs.set n V)
  | n, [], Vs, v, V, h, _ => by rw [VRels] at h; subst h; simp [VRels]
  | 0, u :: l, Vs, v, V, h, hv => by
    rw [VRels] at h
    obtain ⟨U, r, rfl, h1, h2⟩ := h
    exact VRels.cons hv h2
  | n + 1, u :: l, Vs, v, V, h, hv => by
    rw [VRels] at h
    obtain ⟨U, r, rfl, h1, h2⟩ := h
    exact VRels.cons h1 (VRels.set n h2 hv)
theorem VRels.rep {v V} (h : VRel f v V) : ∀ n, VRels f (List.replicate n v) (List.replicate n V)
  | 0 => by simp [VRels]
  | n + 1 => VRels.cons h (VRels.rep h n)
theorem VRels.flat_rep (h : VRels f l Vs) : ∀ n, VRels f (List.replicate n l).flatten (List.replicate n Vs).flatten
  | 0 => by simp [VRels]
  | n + 1 => by simpa [List.replicate_succ] using VRels.app h (VRels.flat_rep h n)
theorem VRels.nums (k : IntKind) : ∀ l : List Int, VRels f (l.map (AV.int k)) (l.map (Value.int k))
  | [] => VRels.nil
  | n :: l => VRels.cons (by simp [VRel]) (VRels.nums k l)
theorem VRels.of_nums {k : IntKind} : ∀ {l : List Int} {Vs : List Value}, VRels f (l.map (AV.int k)) Vs → Vs = l.map (Value.int k)
  | [], Vs, h => by simpa [VRels] using h
  | n :: l, Vs, h => by
    simp only [List.map_cons, VRels] at h
    obtain ⟨V, r, rfl, h1, h2⟩ := h
    rw [VRel] at h1
    rw [h1, VRels.of_nums h2]; rfl

/-- Under other numbers, and more blocks. -/
def RenOK (f g : FM) (s : Nat → Option Nat) : Prop := ∀ (i j : Nat) (x : Nat × Nat), s i = some j → f i = some x → g j = some x
mutual
theorem VRel.ren {s : Nat → Option Nat} (hs : RenOK f g s) : ∀ (v : AV) (v' : AV) (V : Value), v.ren s = some v' → VRel f v V → VRel g v' V
  | .junk, v', V, h, _ => by simp only [AV.ren, Option.some.injEq] at h; subst h; simp [VRel]
  | .bool b, v', V, h, hv => by simp only [AV.ren, Option.some.injEq] at h; subst h; simpa [VRel] using hv
  | .int k n, v', V, h, hv => by simp only [AV.ren, Option.some.injEq] at h; subst h; simpa [VRel] using hv
  | .str x, v', V, h, hv => by simp only [AV.ren, Option.some.injEq] at h; subst h; simpa [VRel] using hv
  | .nilp, v', V, h, hv => by simp only [AV.ren, Option.some.injEq] at h; subst h; simpa [VRel] using hv
  | .nilsl, v', V, h, hv => by simp only [AV.ren, Option.some.injEq] at h; subst h; simpa [VRel] using hv
  | .nilfn, v', V, h, hv => by simp only [AV.ren, Option.some.injEq] at h; subst h; simpa [VRel] using hv
  | .nilif, v', V, h, hv => by simp only [AV.ren, Option.some.injEq] at h; subst h; simpa [VRel] using hv
  | .flt b, v', V, h, hv => by simp only [AV.ren, Option.some.injEq] at h; subst h; simpa [VRel] using hv
  | .nums k l, v', V, h, hv => by simp only [AV.ren, Option.some.injEq] at h; subst h; simpa [VRel] using hv
  | .flat l, v', V, h, hv => by simp only [AV.ren, Option.some.injEq] at h; subst h; rw [VRel] at hv ⊢; exact hv
  | .ptr i off, v', V, h, hv => by
    simp only [AV.ren] at h
    split at h
    · rename_i j hj
      simp only [Option.some.injEq] at h; subst h
      rw [VRel] at hv ⊢
      obtain ⟨x, h1, h2⟩ := hv
      exact ⟨x, hs i j x hj h1, h2⟩
    · cases h
  | .sl i off base len esz lim, v', V, h, hv => by
    simp only [AV.ren] at h
    split at h
    · rename_i j hj
      simp only [Option.some.injEq] at h; subst h
      rw [VRel] at hv ⊢
      obtain ⟨x, cap, h1, h2⟩ := hv
      exact ⟨x, cap, hs i j x hj h1, h2⟩
    · cases h
  | .fn f' a c, v', V, h, hv => by
    simp only [AV.ren] at h
    split at h
    · rename_i a' c' ha hc
      simp only [Option.some.injEq] at h; subst h
      rw [VRel] at hv ⊢
      obtain ⟨A, D, h1, h2, h3⟩ := hv
      exact ⟨A, D, h1, VRels.ren hs _ _ _ ha h2, VRels.ren hs _ _ _ hc h3⟩
    · cases h
  | .agg l, v', V, h, hv => by
    simp only [AV.ren] at h
    split at h
    · rename_i l' hl
      simp only [Option.some.injEq] at h; subst h
      rw [VRel] at hv ⊢
      obtain ⟨A, h1, h2⟩ := hv
      exact ⟨A, h1, VRels.ren hs _ _ _ hl h2⟩
    · cases h
  | .tup l, v', V, h, hv => by
    simp only [AV.ren] at h
    split at h
    · rename_i l' hl
      simp only [Option.some.injEq] at h; subst h
      rw [VRel] at hv ⊢
      obtain ⟨A, h1, h2⟩ := hv
      exact ⟨A, h1, VRels.ren hs _ _ _ hl h2⟩
    · cases h
theorem VRels.ren {s : Nat → Option Nat} (hs : RenOK f g s) : ∀ (l l' : List AV) (Vs : List Value), renL s l = some l' → VRels f l Vs → VRels g l' Vs
  | [], l', Vs, h, hv => by simp only [renL, Option.some.injEq] at h; subst h; simpa [VRels] using hv
  | v :: l, l', Vs, h, hv => by
    simp only [renL] at h
    split at h
    · rename_i v' r' h1 h2
      simp only [Option.some.injEq] at h; subst h
      rw [VRels] at hv ⊢
      obtain ⟨V, r, rfl, h3, h4⟩ := hv
      exact ⟨V, r, rfl, VRel.ren hs _ _ _ h1 h3, VRels.ren hs _ _ _ h2 h4⟩
    · cases h
end
mutual
theorem VRel.mono (h : ∀ (i : Nat) (x : Nat × Nat), f i = some x → g i = some x) : ∀ (v : AV) (V : Value), VRel f v V → VRel g v V
  | .junk, V, _ => by simp [VRel]
  | .bool b, V, hv => by simpa [VRel] using hv
  | .int k n, V, hv => by simpa [VRel] using hv
  | .str x, V, hv => by simpa [VRel] using hv
  | .nilp, V, hv => by simpa [VRel] using hv
  | .nilsl, V, hv => by simpa [VRel] using hv
  | .nilfn, V, hv => by simpa [VRel] using hv
  | .nilif, V, hv => by simpa [VRel] using hv
  | .flt b, V, hv => by simpa [VRel] using hv
  | .nums k l, V, hv => by simpa [VRel] using hv
  | .flat l, V, hv => by rw [VRel] at hv ⊢; exact hv
  | .ptr i off, V, hv => by rw [VRel] at hv ⊢; obtain ⟨x, h1, h2⟩ := hv; exact ⟨x, h _ _ h1, h2⟩
  | .sl i off base len esz lim, V, hv => by rw [VRel] at hv ⊢; obtain ⟨x, cap, h1, h2⟩ := hv; exact ⟨x, cap, h _ _ h1, h2⟩
  | .fn f' a c, V, hv => by rw [VRel] at hv ⊢; obtain ⟨A, D, h1, h2, h3⟩ := hv; exact ⟨A, D, h1, VRels.mono h _ _ h2, VRels.mono h _ _ h3⟩
  | .agg l, V, hv => by rw [VRel] at hv ⊢; obtain ⟨A, h1, h2⟩ := hv; exact ⟨A, h1, VRels.mono h _ _ h2⟩
  | .tup l, V, hv => by rw [VRel] at hv ⊢; obtain ⟨A, h1, h2⟩ := hv; exact ⟨A, h1, VRels.mono h _ _ h2⟩
theorem VRels.mono (h : ∀ (i : Nat) (x : Nat × Nat), f i = some x → g i = some x) : ∀ (l : List AV) (Vs : List Value), VRels f l Vs → VRels g l Vs
  | [], Vs, hv => by simpa [VRels] using hv
  | v :: l, Vs, hv => by
    rw [VRels] at hv ⊢
    obtain ⟨V, r, rfl, h3, h4⟩ := hv
    exact ⟨V, r, rfl, VRel.mono h _ _ h3, VRels.mono h _ _ h4⟩
end
theorem VRel.pre (h : Sub f g) {v V} (hv : VRel f v V) : VRel g v V := VRel.mono h v V hv
theorem VRels.pre (h : Sub f g) (hv : VRels f l Vs) : VRels g l Vs := VRels.mono h l Vs hv

theorem VRel.one {v : AV} {V : Value} (h : VRel f v V) (h1 : v.one = true) : V.oneCell' = true ∧ V.cells = #[V] := by
  cases v <;> simp only [AV.one, Bool.false_eq_true] at h1 <;> rw [VRel] at h
  case bool | int | str | nilp | nilsl | nilfn | nilif | flt => subst h; exact ⟨rfl, rfl⟩
  case ptr => obtain ⟨x, _, rfl⟩ := h; exact ⟨rfl, rfl⟩
  case sl => obtain ⟨x, c, _, _, _, _, rfl⟩ := h; exact ⟨rfl, rfl⟩
  case fn => obtain ⟨A, D, rfl, _, _⟩ := h; exact ⟨rfl, rfl⟩
/-- The cells of a value that is no tuple and no unknown one. -/
theorem VRel.cells {v : AV} {V : Value} (h : VRel f v V) (hv : v.isAgg = true ∨ v.one = true) : VRels f v.cells V.cells.toList := by
  rcases hv with hv | hv
  · cases v <;> simp only [AV.isAgg, Bool.false_eq_true] at hv <;> rw [VRel] at h
    case agg => obtain ⟨A, rfl, h⟩ := h; simpa [AV.cells, Value.cells] using h
    case nums => subst h; simpa [AV.cells, Value.cells] using VRels.nums _ _
    case flat => obtain ⟨A, rfl, h⟩ := h; simpa [AV.cells, Value.cells] using SRels.av.2 h
  · have h2 := (h.one hv).2
    rw [h2]
    cases v <;> simp only [AV.one, Bool.false_eq_true] at hv <;> exact VRels.cons h VRels.nil
theorem plain_cases {v : AV} (h : v.plain = true) : v.isAgg = true ∨ v.one = true := by
  cases v <;> simp_all [AV.plain, AV.isAgg, AV.one]
theorem csize_cells : ∀ v : AV, v.cells.length = v.csize
  | .at o c => by simp [AV.cells, AV.csize, csize_cells c]
  | .agg _ | .nums _ _ | .flat _ => by simp [AV.cells, AV.csize]
  | .junk | .bool _ | .int _ _ | .str _ | .ptr _ _ | .nilp | .sl .. | .nilsl | .fn .. | .nilfn | .nilif | .flt _ | .tup _ => rfl
theorem allOne_mem : ∀ {l : List AV}, allOne l = true → ∀ (i : Nat) (v : AV), l[i]? = some v → v.one = true
  | [], _, i, v, hi => by simp at hi
  | u :: l, h, i, v, hi => by
    simp only [allOne, Bool.and_eq_true] at h
    cases i with
    | zero => simp at hi; subst hi; exact h.1
    | succ i => simp at hi; exact allOne_mem h.2 i v hi
theorem plain_one {v : AV} (h : v.plain = true) (i : Nat) (u : AV) (hi : v.cells[i]? = some u) : u.one = true := by
  cases v with
  | agg l => exact allOne_mem h i u hi
  | nums k l =>
    simp only [AV.cells, List.getElem?_map, Option.map_eq_some_iff] at hi
    obtain ⟨n, _, rfl⟩ := hi
    rfl
  | flat l => exact allOne_mem (allS_one h) i u hi
  | «at» o c => simp [AV.plain, AV.one] at h
  | _ =>
    cases i with
    | zero => simp [AV.cells] at hi; subst hi; first | exact h | (simp [AV.plain, AV.one] at h)
    | succ i => simp [AV.cells] at hi
end

/-! ### Blocks -/
def BK.mine : BK → Bool
  | .own | .grow => true
  | _ => false
/-- None of the first n cells is fixed. -/
def Loose (fz : Nat × Nat) (n : Nat) : Prop := fz.1 = fz.2 ∨ n ≤ fz.1
theorem Loose.out {fz : Nat × Nat} {n : Nat} (h : Loose fz n) (o : Nat) (ho : o < n) : ¬(fz.1 ≤ o ∧ o < fz.2) := by
  rcases h with h | h <;> omega
def BRel (f : FM) (w : World) (b : Blk) (x : Nat × Nat) : Prop :=
  b.kind = .dead ∨ ∃ A t fz, w.heap[x.1]? = some (.cells A t fz) ∧ A.size = x.2 ∧ b.cells.mem3 = true ∧ (b.kind = .own → b.cells.csize = x.2) ∧ b.cells.csize ≤ x.2 ∧
    VRels f b.cells.cells (A.toList.take b.cells.csize) ∧ (b.kind.mine = true → Loose fz x.2)
structure MRel (B : Nat) (f : FM) (M : Mem) (w : World) : Prop where
  dom : ∀ (i : Nat) (x : Nat × Nat), f i = some x → i < M.length
  tot : ∀ (i : Nat) (b : Blk), M[i]? = some b → b.kind ≠ .dead → ∃ x, f i = some x
  blk : ∀ (i : Nat) (b : Blk) (x : Nat × Nat), M[i]? = some b → f i = some x → BRel f w b x
  fresh : ∀ (i : Nat) (b : Blk) (x : Nat × Nat), M[i]? = some b → f i = some x → b.kind.mine = true → B ≤ x.1
  inj : ∀ (i j : Nat) (b c : Blk) (x y : Nat × Nat), M[i]? = some b → M[j]? = some c → f i = some x → f j = some y → i ≠ j → b.kind.mine = true → c.kind ≠ .dead → x.1 ≠ y.1
/-- Block b of memory is one that may be written. -/
def Owns (f : FM) (M : Mem) (b : Nat) : Prop := ∃ (i : Nat) (k : Blk) (x : Nat × Nat), M[i]? = some k ∧ k.kind.mine = true ∧ f i = some x ∧ x.1 = b
structure Went (f : FM) (M : Mem) (w : World) (f' : FM) (M' : Mem) (w' : World) : Prop where
  os : w'.os = w.os
  tape : w'.tape = w.tape
  output : w'.output = w.output
  size : w.heap.size ≤ w'.heap.size
  other : ∀ b, b < w.heap.size → ¬ Owns f M b → w'.heap[b]? = w.heap[b]?
  own : ∀ b, Owns f' M' b → Owns f M b ∨ w.heap.size ≤ b

section
variable {B : Nat} {f f' f'' : FM} {M M' M'' : Mem} {w w' w'' : World}
theorem Went.refl : Went f M w f M w := ⟨rfl, rfl, rfl, Nat.le_refl _, fun _ _ _ => rfl, fun _ h => .inl h⟩
theorem Went.trans (h : Went f M w f' M' w') (k : Went f' M' w' f'' M'' w'') : Went f M w f'' M'' w'' :=
  ⟨k.os.trans h.os, k.tape.trans h.tape, k.output.trans h.output, Nat.le_trans h.size k.size,
    fun b hb ho => (k.other b (Nat.lt_of_lt_of_le hb h.size) fun hc => (h.own b hc).elim ho (by omega)).trans (h.other b hb ho),
    fun b hb => (k.own b hb).elim (h.own b) fun hc => .inr (Nat.le_trans h.size hc)⟩
theorem Went.below (h : Went f M w f' M' w') (hm : MRel B f M w) (hB : B ≤ w.heap.size) : Below B w w' :=
  ⟨h.os, h.tape, h.output, h.size, fun b hb => h.other b (by omega) fun ⟨i, k, x, h1, h2, h3, h4⟩ => by have := hm.fresh i k x h1 h3 h2; omega⟩
theorem MRel.none (h : MRel B f M w) : f M.length = none := by
  cases hx : f M.length with
  | none => rfl
  | some x => exact absurd (h.dom _ _ hx) (Nat.lt_irrefl _)
theorem MRel.get (h : MRel B f M w) {i : Nat} {b : Blk} (hi : M[i]? = some b) (hk : b.kind ≠ .dead) : ∃ x, f i = some x ∧ BRel f w b x := by
  obtain ⟨x, hx⟩ := h.tot i b hi hk
  exact ⟨x, hx, h.blk i b x hi hx⟩
theorem MRel.drew (h : MRel B f M w) : MRel B f M w.drew := ⟨h.dom, h.tot, h.blk, h.fresh, h.inj⟩
theorem Went.drew : Went f M w f M w.drew := ⟨rfl, rfl, rfl, Nat.le_refl _, fun _ _ _ => rfl, fun _ h => .inl h⟩

theorem BRel.pre (h : Sub f f') {b x} (hb : BRel f w b x) : BRel f' w b x := by
  rcases hb with hb | ⟨A, t, fz, h1, h2, h3, h4, h5, h6, h7⟩
  · exact .inl hb
  · exact .inr ⟨A, t, fz, h1, h2, h3, h4, h5, h6.pre h, h7⟩
theorem BRel.heap {b x} (hb : BRel f w b x) (h : w'.heap[x.1]? = w.heap[x.1]?) : BRel f w' b x := by
  rcases hb with hb | ⟨A, t, fz, h1, h2⟩
  · exact .inl hb
  · exact .inr ⟨A, t, fz, by rw [h]; exact h1, h2⟩
theorem BRel.lt {b x} (hb : BRel f w b x) (hk : b.kind ≠ .dead) : x.1 < w.heap.size := by
  rcases hb with hb | ⟨A, t, fz, h1, _⟩
  · exact absurd hb hk
  · exact (Array.getElem?_eq_some_iff.1 h1).1

theorem getElem?_snoc {α : Type} {l : List α} {a y : α} {i : Nat} (h : (l ++ [a])[i]? = some y) : l[i]? = some y ∨ (i = l.length ∧ y = a) := by
  rcases Nat.lt_trichotomy i l.length with hi | hi | hi
  · rw [List.getElem?_append_left hi] at h; exact .inl h
  · subst hi; simp at h; exact .inr ⟨rfl, h.symm⟩
  · rw [List.getElem?_eq_none (by simp; omega)] at h; cases h
theorem lt_of_get {α : Type} {l : List α} {y : α} {i : Nat} (h : l[i]? = some y) : i < l.length := (List.getElem?_eq_some_iff.1 h).1
theorem not_dead_of_mine {k : BK} (h : k.mine = true) : k ≠ .dead := by cases k <;> simp_all [BK.mine]

/-- A new block. -/
theorem MRel.alloc (h : MRel B f M w) (hB : B ≤ w.heap.size) {c : AV} {kd : BK} {d : Bool} {A : Array Value} (t : TypeId) (hk : kd = .own ∨ kd = .grow) (ha : c.isAgg = true) (hs : kd = .own → c.csize = A.size) (hle : c.csize ≤ A.size) (hc : VRels f c.cells (A.toList.take c.csize)) :
    MRel B (upd f M.length (w.heap.size, A.size)) (M ++ [⟨c, kd, d⟩]) (w.alloc (.cells A t)) ∧ Went f M w (upd f M.length (w.heap.size, A.size)) (M ++ [⟨c, kd, d⟩]) (w.alloc (.cells A t)) := by
  have hmine : kd.mine = true := by rcases hk with rfl | rfl <;> rfl
  have hpre : Sub f (upd f M.length (w.heap.size, A.size)) := upd_sub h.none
  have old : ∀ (i : Nat) (b : Blk) (x : Nat × Nat), M[i]? = some b → upd f M.length (w.heap.size, A.size) i = some x → f i = some x := by
    intro i b x hi hx
    have := lt_of_get hi
    rwa [upd_ne _ _ (by omega)] at hx
  have new : ∀ (x : Nat × Nat), upd f M.length (w.heap.size, A.size) M.length = some x → x = (w.heap.size, A.size) := by
    intro x hx
    rw [upd_same] at hx
    exact (Option.some.inj hx).symm
  refine ⟨⟨fun i x hx => ?_, fun i b hi hd => ?_, ?_, ?_, ?_⟩, rfl, rfl, rfl, by simp, ?_, ?_⟩
  · by_cases e : i = M.length
    · subst e; simp
    · rw [upd_ne _ _ e] at hx
      have := h.dom i x hx
      simp; omega
  · rcases getElem?_snoc hi with hi | ⟨rfl, rfl⟩
    · obtain ⟨x, hx⟩ := h.tot i b hi hd
      exact ⟨x, hpre i x hx⟩
    · exact ⟨_, upd_same _ _ _⟩
  · intro i b x hi hx
    rcases getElem?_snoc hi with hi | ⟨rfl, rfl⟩
    · have hx' := old i b x hi hx
      have := h.blk i b x hi hx'
      by_cases hd : b.kind = .dead
      · exact .inl hd
      · exact (this.pre hpre).heap (Below.heap_alloc w _ _ (this.lt hd))
    · obtain rfl := new x hx
      exact .inr ⟨A, t, (0, 0), (MapKept.heap_alloc w _).1, rfl, isAgg_mem3 ha, hs, hle, hc.pre hpre, fun _ => .inl rfl⟩
  · intro i b x hi hx hm
    rcases getElem?_snoc hi with hi | ⟨rfl, rfl⟩
    · exact h.fresh i b x hi (old i b x hi hx) hm
    · obtain rfl := new x hx; exact hB
  · intro i j b k x y hi hj hx hy hij hm hd
    rcases getElem?_snoc hi with hi | ⟨rfl, rfl⟩ <;> rcases getElem?_snoc hj with hj | ⟨rfl, rfl⟩
    · exact h.inj i j b k x y hi hj (old i b x hi hx) (old j k y hj hy) hij hm hd
    · obtain rfl := new y hy
      have hx' := old i b x hi hx
      have := (h.blk i b x hi hx').lt (not_dead_of_mine hm)
      exact Nat.ne_of_lt this
    · obtain rfl := new x hx
      have hy' := old j k y hj hy
      have := (h.blk j k y hj hy').lt hd
      exact (Nat.ne_of_lt this).symm
    · exact absurd rfl hij
  · intro b hb _
    exact Below.heap_alloc w _ b hb
  · rintro b ⟨i, k, x, hi, hm, hx, rfl⟩
    rcases getElem?_snoc hi with hi | ⟨rfl, rfl⟩
    · exact .inl ⟨i, k, x, hi, hm, old i k x hi hx, rfl⟩
    · obtain rfl := new x hx; exact .inr (Nat.le_refl _)
end
end Go.Proofs.Ytnfglcfjjemjmaa
