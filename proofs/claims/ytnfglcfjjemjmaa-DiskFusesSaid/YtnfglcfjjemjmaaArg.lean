/- What a law is given, as the small machine takes it: arrays and slices of whole numbers. No condition. -/
import Derived.Test.YtnfglcfjjemjmaaAm21
import Derived.ChangeSlices
import Derived.WideShapes
namespace Go.Proofs.Ytnfglcfjjemjmaa
open Go Go.RowKit Go.ChangeShapes Go.WideShapes

def allIntB (P : Program) (k : IntKind) : List TypeId → Bool
  | [] => true
  | u :: l => (match P.underlying u with | some (.int k') => decide (k' = k) | _ => false) && allIntB P k l
theorem allIntB_spec {P : Program} {k : IntKind} : ∀ {l : List TypeId}, allIntB P k l = true → ∀ u ∈ l, P.underlying u = some (.int k)
  | [], _, u, hu => by cases hu
  | v :: l, h, u, hu => by
    simp only [allIntB, Bool.and_eq_true] at h
    rcases List.mem_cons.1 hu with rfl | hu
    · have h1 := h.1
      split at h1
      · rename_i k' hk
        have : k' = k := by simpa using h1
        subst this; exact hk
      · cases h1
    · exact allIntB_spec h.2 u hu
theorem ints_of_vals {k : IntKind} : ∀ {vs : List Value}, (∀ v ∈ vs, ∃ n, v = Value.int k n ∧ k.has n) → ∃ l : List Int, vs = l.map (Value.int k) ∧ ∀ x ∈ l, k.has x
  | [], _ => ⟨[], rfl, fun _ h => by cases h⟩
  | v :: vs, h => by
    obtain ⟨n, rfl, hn⟩ := h v List.mem_cons_self
    obtain ⟨l, rfl, hl⟩ := ints_of_vals fun u hu => h u (List.mem_cons_of_mem _ hu)
    refine ⟨n :: l, rfl, fun x hx => ?_⟩
    rcases List.mem_cons.1 hx with rfl | hx
    · exact hn
    · exact hl x hx
theorem arg_arr {P : Program} {W : World} {r : Reach} {base : Nat} {t e : TypeId} {n : Nat} {k : IntKind} {v : Value} {ts : List TypeId} (hu : P.underlying t = some (.array n e)) (hts : P.cellTypes P.depth t = some ts) (hall : allIntB P k ts = true) (hn : P.cellsOf t = n)
    (h : Value.okWide P W r base t v) : ∃ l : List Int, v = .agg ((l.map (Value.int k)).toArray) ∧ l.length = n ∧ ∀ x ∈ l, k.has x := by
  simp only [Value.okWide, hu] at h
  obtain ⟨cs, rfl, hs, ts', h1, _, h3⟩ := h
  rw [hts] at h1
  obtain rfl := Option.some.inj h1
  have hall := allIntB_spec hall
  obtain ⟨l, hl, hr⟩ := ints_of_vals (k := k) (vs := cs.toList) fun v hv => by
    obtain ⟨i, hi⟩ := List.getElem?_of_mem hv
    obtain ⟨u, hu1, hu2⟩ := h3 i v (by simpa using hi)
    have := hall u (List.mem_of_getElem? hu1)
    simp only [Cell.okWide, this] at hu2
    cases v <;> simp_all [Cell.ok]
  refine ⟨l, by rw [← hl], ?_, hr⟩
  have := congrArg List.length hl
  simp only [List.length_map, Array.length_toList] at this
  omega
theorem wf_has {k : IntKind} {n : Int} (h : (Lit.int k n).wf = true) : k.has n := by
  simpa [Lit.wf, IntKind.has] using h
theorem arg_slice {H : Type} {enc : TypeId × Value → H} {P : Program} {W : World} {held : Bool} {r : Reach} {b0 base0 : Nat} {t e : TypeId} {k : IntKind} {v : Value} {d : DataW H} {ps : List MemPlace} (ht : P.underlying t = some (.slice e)) (he : P.underlying e = some (.int k)) (hc : P.cellsOf e = 1)
    (hval : Value.okWide P W r b0 t v) (hd : DataW.Trod enc P W base0 (fun _ => true) held t v d ps) : v = .slice none 0 0 ∨
    ∃ (x : Nat × Nat) (o base len cap : Nat) (l : List Int), len ≤ cap ∧ cap ≤ maxLen ∧ l.length = cap ∧ (∀ z ∈ l, k.has z) ∧ (∀ (f : FM) (i : Nat), f i = some x → VRel f (.sl i o base len 1 (some (o + cap))) v) ∧ (∀ f : FM, BRel f W ⟨.at o (.nums k l), .ro, false⟩ x) := by
  obtain ⟨fuel, hf⟩ := hd
  rcases open_ints ht he hc hf with ⟨h, _⟩ | ⟨a, len, cap, zs, h, _, hlen, hcap, hzs, _, hcell, hwf⟩
  · left
    obtain ⟨a', len', cap', rfl⟩ := okWide_slice ht hval
    simpa [Value.cells] using h
  · right
    obtain ⟨a', len', cap', rfl⟩ := okWide_slice ht hval
    simp only [Value.cells, List.cons.injEq, and_true] at h
    simp only [Value.slice.injEq] at h
    obtain ⟨rfl, rfl, rfl⟩ := h
    simp only [Value.okWide, ht, Cell.okWide, Cell.ok] at hval
    obtain ⟨_, _, _, hspot, row, cells, hshape, _⟩ := hval
    simp only [if_true] at hzs
    obtain ⟨b, off, spot⟩ := a
    simp only at hspot hshape
    subst hspot
    have hheap : ∃ A fz, W.heap[b]? = some (.cells A row fz) ∧ A.size = cells := by
      unfold World.shape? at hshape
      split at hshape
      · rename_i c elem fz hh
        simp only [Option.some.injEq, Prod.mk.injEq] at hshape
        obtain ⟨rfl, rfl⟩ := hshape
        exact ⟨c, fz, hh, rfl⟩
      · cases hshape
    obtain ⟨A, fz, hh, hA⟩ := hheap
    have hget : ∀ i, i < cap' → A[off + i]? = some (.int k (zs.getD i 0)) := by
      intro i hi
      have := hcell i (by omega)
      rw [addr_add] at this
      unfold World.cell? at this
      simpa [hh] using this
    by_cases h0 : cap' = 0
    · subst h0
      obtain rfl : len' = 0 := by omega
      obtain rfl : zs = [] := List.length_eq_zero_iff.1 (by omega)
      refine ⟨(b, A.size), 0, off, 0, 0, [], Nat.le_refl _, hcap, rfl, fun z hz => (nomatch hz), fun f i hi => ?_, fun f => ?_⟩
      · rw [VRel]
        exact ⟨(b, A.size), 0, hi, by omega, by simp, Nat.le_refl _, rfl⟩
      · refine .inr ⟨A, row, fz, hh, rfl, rfl, fun h => (nomatch h), by simp [AV.csize], by simp [AV.cells, AV.csize, VRels], fun h => (nomatch h)⟩
    · have hsz : off + cap' ≤ A.size := by
        have := hget (cap' - 1) (by omega)
        have := (Array.getElem?_eq_some_iff.1 this).1
        omega
      refine ⟨(b, A.size), off, off, len', cap', zs, hlen, hcap, hzs, fun z hz => wf_has (hwf z hz), fun f i hi => ?_, fun f => ?_⟩
      · rw [VRel]
        exact ⟨(b, A.size), cap', hi, by omega, by simp, hlen, by rw [if_neg h0]⟩
      · refine .inr ⟨A, row, fz, hh, rfl, rfl, fun h => (nomatch h), by simp only [AV.csize]; omega, ?_, fun h => (nomatch h)⟩
        simp only [AV.cells, AV.csize, hzs]
        have hsplit : A.toList.take (off + cap') = A.toList.take off ++ (A.toList.drop off).take cap' := by
          rw [List.take_add]
        rw [hsplit]
        refine VRels.app ?_ ?_
        · have : ∀ (n : Nat) (L : List Value), L.length = n → VRels f (List.replicate n .junk) L := by
            intro n
            induction n with
            | zero => intro L hL; obtain rfl := List.length_eq_zero_iff.1 hL; exact VRels.nil
            | succ n ih =>
              intro L hL
              cases L with
              | nil => simp at hL
              | cons V L => exact VRels.cons (by simp [VRel]) (ih L (by simpa using hL))
          exact this off _ (by simp; omega)
        · have : (A.toList.drop off).take cap' = zs.map (Value.int k) := by
            apply List.ext_getElem?
            intro i
            by_cases hi : i < cap'
            · rw [List.getElem?_take, if_pos hi, List.getElem?_drop, List.getElem?_map]
              have := hget i hi
              rw [Array.getElem?_toList, this]
              have hz : i < zs.length := by omega
              simp [List.getD, List.getElem?_eq_getElem hz]
            · rw [List.getElem?_eq_none (by simp; omega), List.getElem?_eq_none (by simp; omega)]
          rw [this]
          exact VRels.nums k zs
theorem has_u8 {n : Int} (h : IntKind.u8.has n) : 0 ≤ n ∧ n < 256 := by
  have h1 : IntKind.u8.min = 0 := by decide
  have h2 : IntKind.u8.max = 255 := by decide
  unfold IntKind.has at h
  rw [h1, h2] at h
  omega
theorem has_u64 {n : Int} (h : IntKind.u64.has n) : 0 ≤ n ∧ n < 18446744073709551616 := by
  have h1 : IntKind.u64.min = 0 := by decide
  have h2 : IntKind.u64.max = 18446744073709551615 := by decide
  unfold IntKind.has at h
  rw [h1, h2] at h
  omega
theorem has_i64 {n : Int} (h : IntKind.i64.has n) : -9223372036854775808 ≤ n ∧ n < 9223372036854775808 := by
  have h1 : IntKind.i64.min = -9223372036854775808 := by decide
  have h2 : IntKind.i64.max = 9223372036854775807 := by decide
  unfold IntKind.has at h
  rw [h1, h2] at h
  omega
/-- A memory of what may only be read. -/
theorem mrel_ro {B : Nat} {f : FM} {M : Mem} {w : World} (hd : ∀ (i : Nat) (x : Nat × Nat), f i = some x → i < M.length) (hro : ∀ b ∈ M, b.kind = .ro) (hb : ∀ (i : Nat) (b : Blk), M[i]? = some b → ∃ x, f i = some x ∧ BRel f w b x) : MRel B f M w := by
  have ro : ∀ (i : Nat) (b : Blk), M[i]? = some b → b.kind.mine = false := fun i b h => by rw [hro b (List.mem_of_getElem? h)]; rfl
  refine ⟨hd, fun i b h _ => ?_, fun i b x h1 h2 => ?_, fun i b x h1 _ h3 => ?_, fun i j b c x y h1 _ _ _ _ h3 => ?_⟩
  · obtain ⟨x, h1, _⟩ := hb i b h; exact ⟨x, h1⟩
  · obtain ⟨y, h3, h4⟩ := hb i b h1
    rw [h2] at h3
    obtain rfl := Option.some.inj h3
    exact h4
  · rw [ro i b h1] at h3; cases h3
  · rw [ro i b h1] at h3; cases h3
theorem mrel_1 {B : Nat} {w : World} {x : Nat × Nat} {c : AV} (h : ∀ f : FM, BRel f w ⟨c, .ro, false⟩ x) : MRel B (fun i => if i = 0 then some x else none) [⟨c, .ro, false⟩] w := by
  refine mrel_ro (fun i y hi => ?_) (by simp) fun i b hb => ?_
  · split at hi
    · simp_all
    · cases hi
  · rcases i with _ | i
    · simp only [List.getElem?_cons_zero, Option.some.injEq] at hb; subst hb; exact ⟨x, rfl, h _⟩
    · simp at hb
theorem mrel_2 {B : Nat} {w : World} {x y : Nat × Nat} {c d : AV} (h : ∀ f : FM, BRel f w ⟨c, .ro, false⟩ x) (h2 : ∀ f : FM, BRel f w ⟨d, .ro, false⟩ y) : MRel B (fun i => if i = 0 then some x else if i = 1 then some y else none) [⟨c, .ro, false⟩, ⟨d, .ro, false⟩] w := by
  refine mrel_ro (fun i z hi => ?_) (by simp) fun i b hb => ?_
  · split at hi
    · simp_all
    · split at hi
      · simp_all
      · cases hi
  · rcases i with _ | _ | i
    · simp only [List.getElem?_cons_zero, Option.some.injEq] at hb; subst hb; exact ⟨x, rfl, h _⟩
    · simp only [List.getElem?_cons_succ, List.getElem?_cons_zero, Option.some.injEq] at hb; subst hb; exact ⟨y, rfl, h2 _⟩
    · simp at hb
theorem mrel_3 {B : Nat} {w : World} {x y z : Nat × Nat} {c d e : AV} (h : ∀ f : FM, BRel f w ⟨c, .ro, false⟩ x) (h2 : ∀ f : FM, BRel f w ⟨d, .ro, false⟩ y) (h3 : ∀ f : FM, BRel f w ⟨e, .ro, false⟩ z) : MRel B (fun i => if i = 0 then some x else if i = 1 then some y else if i = 2 then some z else none) [⟨c, .ro, false⟩, ⟨d, .ro, false⟩, ⟨e, .ro, false⟩] w := by
  refine mrel_ro (fun i z hi => ?_) (by simp) fun i b hb => ?_
  · split at hi
    · simp_all
    · split at hi
      · simp_all
      · split at hi
        · simp_all
        · cases hi
  · rcases i with _ | _ | _ | i
    · simp only [List.getElem?_cons_zero, Option.some.injEq] at hb; subst hb; exact ⟨x, rfl, h _⟩
    · simp only [List.getElem?_cons_succ, List.getElem?_cons_zero, Option.some.injEq] at hb; subst hb; exact ⟨y, rfl, h2 _⟩
    · simp only [List.getElem?_cons_succ, List.getElem?_cons_zero, Option.some.injEq] at hb; subst hb; exact ⟨z, rfl, h3 _⟩
    · simp at hb
end Go.Proofs.Ytnfglcfjjemjmaa
