/- Each operation of the small machine stands for what the program's operation does: those that touch no function. No condition. -/
import Derived.Test.YtnfglcfjjemjmaaAm3
import Derived.Laws.StructEq
import Derived.Laws.MakeOwn
import Derived.Laws.BytesString
namespace Go.Proofs.Ytnfglcfjjemjmaa
open Go Go.RowKit

section
variable {P : Program} {B : Nat} {f : FM} {M M' : Mem} {w : World} {ρ : Operand → Value} {o : Oper} {v : AV}
def Ran (P : Program) (ρ : Operand → Value) (o : Oper) (w : World) (V : Value) (w' : World) : Prop :=
  (execOp ρ o).run P w = .ok (.value V) w' ∨ ((execOp ρ o).run P w = .ok .skip w' ∧ V = undef)
def Fine (P : Program) (ρ : Operand → Value) (o : Oper) (w : World) (B : Nat) (f : FM) (M : Mem) (v : AV) (M' : Mem) : Prop :=
  ∃ V w' f', Ran P ρ o w V w' ∧ Sub f f' ∧ MRel B f' M' w' ∧ VRel f' v V ∧ Went f M w f' M' w' ∧ (f' = f ∨ ∃ x, f' = upd f M.length x)
theorem Fine.same (hm : MRel B f M w) {V : Value} (h : (execOp ρ o).run P w = .ok (.value V) w) (hv : VRel f v V) : Fine P ρ o w B f M v M :=
  ⟨V, w, f, .inl h, Sub.refl _, hm, hv, Went.refl, .inl rfl⟩

theorem rels1 {a : AV} {Vs : List Value} (h : VRels f [a] Vs) : ∃ A, Vs = [A] ∧ VRel f a A := by
  rw [VRels] at h
  obtain ⟨A, r, rfl, h1, h2⟩ := h
  rw [VRels] at h2; subst h2
  exact ⟨A, rfl, h1⟩
theorem rels2 {a b : AV} {Vs : List Value} (h : VRels f [a, b] Vs) : ∃ A B, Vs = [A, B] ∧ VRel f a A ∧ VRel f b B := by
  rw [VRels] at h
  obtain ⟨A, r, rfl, h1, h2⟩ := h
  obtain ⟨B, rfl, h3⟩ := rels1 h2
  exact ⟨A, B, rfl, h1, h3⟩
theorem rels3 {a b c : AV} {Vs : List Value} (h : VRels f [a, b, c] Vs) : ∃ A B C, Vs = [A, B, C] ∧ VRel f a A ∧ VRel f b B ∧ VRel f c C := by
  rw [VRels] at h
  obtain ⟨A, r, rfl, h1, h2⟩ := h
  obtain ⟨B, C, rfl, h3, h4⟩ := rels2 h2
  exact ⟨A, B, C, rfl, h1, h3, h4⟩

/-! ### Constants -/
theorem scal_rel {V : Value} {a : AV} (h : scal V = some a) : VRel f a V ∧ a.one = true := by
  unfold scal at h
  split at h <;> first | cases h; done | (simp only [Option.some.injEq] at h; subst h; first | exact ⟨by simp [VRel], rfl⟩ | skip)
theorem scalL_rel : ∀ {Vs : List Value} {l : List AV}, scalL Vs = some l → VRels f l Vs
  | [], l, h => by simp only [scalL, Option.some.injEq] at h; subst h; exact VRels.nil
  | V :: Vs, l, h => by
    simp only [scalL] at h
    split at h
    · rename_i a r h1 h2
      simp only [Option.some.injEq] at h; subst h
      exact VRels.cons (scal_rel h1).1 (scalL_rel h2)
    · cases h
theorem toSVs_eq : ∀ {l : List AV} {s : List SV}, toSVs l = some s → l = s.map SV.av
  | [], s, h => by simp only [toSVs, Option.some.injEq] at h; subst h; rfl
  | v :: l, s, h => by
    simp only [toSVs] at h
    split at h
    · rename_i a r h1 h2
      simp only [Option.some.injEq] at h; subst h
      rw [List.map_cons, toSV_av h1, ← toSVs_eq h2]
    · cases h
theorem flatOf_rel {l : List AV} {A : Array Value} (h : VRels f l A.toList) : VRel f (flatOf l) (.agg A) ∧ (flatOf l).isAgg = true := by
  unfold flatOf
  split
  · exact ⟨by rw [VRel]; exact ⟨A, rfl, h⟩, rfl⟩
  · split
    · rename_i s hs
      rw [toSVs_eq hs] at h
      exact ⟨by rw [VRel]; exact ⟨A, rfl, SRels.av.1 h⟩, rfl⟩
    · exact ⟨by rw [VRel]; exact ⟨A, rfl, h⟩, rfl⟩
theorem aggOf_rel {l : List AV} {A : Array Value} (h : VRels f l A.toList) : VRel f (aggOf l) (.agg A) ∧ (aggOf l).isAgg = true := by
  unfold aggOf
  split
  · split
    · rename_i q hq
      have := toInts_eq hq
      rw [this] at h
      refine ⟨?_, rfl⟩
      rw [VRel, ← VRels.of_nums h]
    · exact flatOf_rel h
  · exact flatOf_rel h
theorem ofVal_rel {V : Value} {a : AV} (h : ofVal V = some a) : VRel f a V ∧ (a.isAgg = true ∨ a.one = true) := by
  unfold ofVal at h
  split at h
  · split at h
    · rename_i l hl
      simp only [Option.some.injEq] at h; subst h
      have := aggOf_rel (f := f) (scalL_rel (f := f) hl)
      exact ⟨this.1, .inl this.2⟩
    · cases h
  · have := scal_rel (f := f) h
    exact ⟨this.1, .inr this.2⟩
theorem zeroT_rel {ty : TypeId} {z : AV} (h : zeroT P ty = some z) : ∃ i V, P.info? ty = some i ∧ i.zero = some V ∧ VRel f z V ∧ (z.isAgg = true ∨ z.one = true) := by
  unfold zeroT at h
  split at h
  · rename_i i hi
    split at h
    · rename_i V hV
      have := ofVal_rel (f := f) h
      exact ⟨i, V, hi, hV, this.1, this.2⟩
    · cases h
  · cases h
theorem sizeT_spec {ty : TypeId} {n : Nat} (h : sizeT P ty = some n) : ∃ i, P.info? ty = some i ∧ i.size = n := by
  unfold sizeT at h
  split at h
  · rename_i i hi; simp only [Option.some.injEq] at h; exact ⟨i, hi, h⟩
  · cases h
theorem bytesT_spec {ty : TypeId} {n : Nat} (h : bytesT P ty = some n) : ∃ i, P.info? ty = some i ∧ i.bytes = n := by
  unfold bytesT at h
  split at h
  · rename_i i hi; simp only [Option.some.injEq] at h; exact ⟨i, hi, h⟩
  · cases h
theorem run_sizeOf {ty : TypeId} {n : Nat} (h : sizeT P ty = some n) : (sizeOf ty).run P w = .ok n w := by
  obtain ⟨i, hi, rfl⟩ := sizeT_spec h
  simp [sizeOf, typeInfo, hi]
theorem run_zeroValue {ty : TypeId} {i : TypeInfo} {V : Value} (hi : P.info? ty = some i) (hz : i.zero = some V) : (zeroValue ty).run P w = .ok V w := by
  simp [zeroValue, typeInfo, hi, hz]
/-- What a variable of the value holds. -/
theorem block_rel {a c : AV} {V : Value} (h : a.block = some c) (hv : VRel f a V) : c.isAgg = true ∧ VRels f c.cells V.cells.toList ∧ c.csize = V.cells.size := by
  have fin : c.isAgg = true → VRels f c.cells V.cells.toList → c.isAgg = true ∧ VRels f c.cells V.cells.toList ∧ c.csize = V.cells.size := fun h1 h2 => ⟨h1, h2, by rw [← csize_cells, h2.length, Array.length_toList]⟩
  cases a with
  | agg l => simp only [AV.block, Option.some.injEq] at h; subst h; exact fin rfl (hv.cells (.inl rfl))
  | nums k l => simp only [AV.block, Option.some.injEq] at h; subst h; exact fin rfl (hv.cells (.inl rfl))
  | flat l => simp only [AV.block, Option.some.injEq] at h; subst h; exact fin rfl (hv.cells (.inl rfl))
  | junk => cases h
  | tup l => cases h
  | «at» o c => cases h
  | _ => simp only [AV.block, Option.some.injEq] at h; subst h; exact fin rfl (hv.cells (.inr rfl))

/-! ### New blocks -/
theorem alloc_fine (hm : MRel B f M w) (hB : B ≤ w.heap.size) {c : AV} {A : Array Value} {t : TypeId} {kd : BK} {d : Bool} (hk : kd = .own ∨ kd = .grow) (ha : c.isAgg = true) (hs : kd = .own → c.csize = A.size) (hle : c.csize ≤ A.size) (hc : VRels f c.cells (A.toList.take c.csize)) {V : Value}
    (hr : (execOp ρ o).run P w = .ok (.value V) (w.alloc (.cells A t))) (hv : VRel (upd f M.length (w.heap.size, A.size)) v V) : Fine P ρ o w B f M v (M ++ [⟨c, kd, d⟩]) := by
  obtain ⟨h1, h2⟩ := hm.alloc (d := d) hB t hk ha hs hle hc
  exact ⟨V, _, _, .inl hr, upd_sub hm.none, h1, hv, h2, .inr ⟨_, rfl⟩⟩
theorem new_get (hm : MRel B f M w) (x : Nat × Nat) : upd f M.length x M.length = some x := upd_same _ _ _
theorem take_all {l : List Value} {n : Nat} (h : n = l.length) : l.take n = l := by subst h; simp
theorem fine_alloc (hm : MRel B f M w) (hB : B ≤ w.heap.size) {ty : TypeId} (ho : o.op = .alloc ty) {z c : AV} (hz : zeroT P ty = some z) (hc : z.block = some c) : Fine P ρ o w B f M (.ptr M.length 0) (M ++ [⟨c, .own, false⟩]) := by
  obtain ⟨i, V, hi, hV, hr, _⟩ := zeroT_rel (f := f) hz
  obtain ⟨h1, h2, h3⟩ := block_rel hc hr
  refine alloc_fine hm hB (A := V.cells) (t := ty) (V := .pointer (some ⟨w.heap.size, 0, none⟩)) (.inl rfl) h1 (fun _ => h3) (Nat.le_of_eq h3) (by rw [h3, take_all (by simp)]; exact h2) ?_ ?_
  · simp [execOp, ho, Instr.alloc, run_zeroValue hi hV, newVar, newRow]
  · rw [VRel]; exact ⟨_, new_get hm _, rfl⟩
theorem fine_box (hm : MRel B f M w) (hB : B ≤ w.heap.size) {ty : TypeId} {x : Operand} (ho : o.op = .box ty x) {a c : AV} (hr : VRel f a (ρ x)) (hc : a.block = some c) : Fine P ρ o w B f M (.ptr M.length 0) (M ++ [⟨c, .own, false⟩]) := by
  obtain ⟨h1, h2, h3⟩ := block_rel hc hr
  refine alloc_fine hm hB (A := (ρ x).cells) (t := ty) (V := .pointer (some ⟨w.heap.size, 0, none⟩)) (.inl rfl) h1 (fun _ => h3) (Nat.le_of_eq h3) (by rw [h3, take_all (by simp)]; exact h2) ?_ ?_
  · simp [execOp, ho, Instr.box, newVar, newRow]
  · rw [VRel]; exact ⟨_, new_get hm _, rfl⟩

/-! ### Loads, stores, addresses -/
theorem fine_load (hm : MRel B f M w) {ty : TypeId} {x : Operand} (ho : o.op = .load ty x) {k : Option (Nat × Option IntKind)} (hk : kindT P ty = some k) {i off : Nat} {b : Blk} (hr : VRel f (.ptr i off) (ρ x)) (hb : liveB M i = some b) (hv : b.cells.part off k = some v) : Fine P ρ o w B f M v M := by
  obtain ⟨U, h1, h2⟩ := run_load_part (P := P) hm hk hb hv hr
  exact Fine.same hm (by simp [execOp, ho, h1]) h2
theorem fine_store (hm : MRel B f M w) {ty : TypeId} {x y : Operand} (ho : o.op = .store ty x y) {n : Nat} (hn : sizeT P ty = some n) {i off : Nat} {b : Blk} {a c : AV} (hr : VRel f (.ptr i off) (ρ x)) (ha : VRel f a (ρ y)) (hb : ownB M i = some b) (hs : a.csize = n) (hp : a.plain = true) (hc : b.cells.putR off a = some c) :
    Fine P ρ o w B f M undefA (M.set i ⟨c, b.kind, true⟩) := by
  rw [VRel] at hr
  obtain ⟨z, hz, hr⟩ := hr
  obtain ⟨w', h1, h2, h3⟩ := run_store_part (P := P) hm hb hc hz ha
  have hl : (ρ y).cells.size = n := by
    have := (ha.cells (plain_cases hp)).length
    rw [csize_cells] at this
    rw [← hs, this]; simp
  refine ⟨undef, w', f, .inr ⟨?_, rfl⟩, Sub.refl _, h2, by rw [undefA, VRel]; exact ⟨#[], rfl, by simp [VRels]⟩, h3, .inl rfl⟩
  simp [execOp, ho, Instr.storeAt, hr, Instr.sureAddr, storeVar, run_sizeOf hn, hl, h1]
theorem fine_padd (hm : MRel B f M w) {ty : TypeId} {x : Operand} {j : Nat} (ho : o.op = .fieldAddr ty x j) {fs : Array Field} (hu : P.underlying ty = some (.struct fs)) {fd : Field} (hf : fs[j]? = some fd) {n : Nat} (hn : sizeT P fd.type = some n) (h0 : 0 < n) {i off : Nat} (hr : VRel f (.ptr i off) (ρ x)) :
    Fine P ρ o w B f M (.ptr i (off + fd.offset)) M := by
  rw [VRel] at hr
  obtain ⟨z, hz, hr⟩ := hr
  refine Fine.same hm (V := .pointer (some ⟨z.1, off + fd.offset, none⟩)) ?_ (by rw [VRel]; exact ⟨z, hz, rfl⟩)
  simp [execOp, ho, Instr.fieldAt, run_underlying hu, hf, hr, Instr.sureAddr, fieldPlace, run_sizeOf hn, Nat.ne_of_gt h0, addr_add]
theorem fine_nilchk (hm : MRel B f M w) {x : Operand} (ho : o.op = .nilCheck x) (hv : (∃ i off, v = .ptr i off) ∨ (∃ g a c, v = .fn g a c)) (hr : VRel f v (ρ x)) : Fine P ρ o w B f M v M := by
  refine Fine.same hm (V := ρ x) ?_ hr
  rcases hv with ⟨i, off, rfl⟩ | ⟨g, a, c, rfl⟩
  · rw [VRel] at hr
    obtain ⟨z, _, hr⟩ := hr
    simp [execOp, ho, hr]
  · rw [VRel] at hr
    obtain ⟨A, D, hr, _, _⟩ := hr
    simp [execOp, ho, hr]
theorem run_part {ty : TypeId} {k : Option (Nat × Option IntKind)} (hk : kindT P ty = some k) {c : AV} {off : Nat} (hv : c.part off k = some v) {A : Array Value} (hA : VRels f c.cells A.toList) : ∃ U, (part ty A off).run P w = .ok U w ∧ VRel f v U := by
  obtain ⟨d, inf, hu, hinf, hk⟩ := kindT_spec hk
  rcases hk with ⟨rfl, hag⟩ | ⟨ck, rfl, hag⟩
  · obtain ⟨_, U, hU, hvU⟩ := get_rel (f := f) hv hA
    have hU' : A[off]? = some U := by simpa using hU
    exact ⟨U, by simp [part, run_isAgg hu, hag, hU'], hvU⟩
  · obtain ⟨hle, _, _, hvU, _⟩ := sub_rel (f := f) hv hA
    refine ⟨_, ?_, hvU⟩
    have hsz : A.size = c.csize := by rw [← csize_cells, hA.length, Array.length_toList]
    have : A.extract off (off + inf.size) = ((A.toList.drop off).take inf.size).toArray := by
      apply Array.ext'
      simp [List.drop_take]
    simp [part, run_isAgg hu, hag, sizeOf, typeInfo, hinf, this]
theorem agg_val {c : AV} {V : Value} (h : c.isAgg = true) (hv : VRel f c V) : ∃ A, V = .agg A ∧ VRels f c.cells A.toList := by
  cases c with
  | agg l => rw [VRel] at hv; exact hv
  | nums k l => rw [VRel] at hv; exact ⟨_, hv, by simpa [AV.cells] using VRels.nums k l⟩
  | flat l => rw [VRel] at hv; obtain ⟨A, h1, h2⟩ := hv; exact ⟨A, h1, SRels.av.2 h2⟩
  | _ => cases h
theorem fine_field (hm : MRel B f M w) {ty : TypeId} {x : Operand} {j : Nat} (ho : o.op = .field ty x j) {fs : Array Field} (hu : P.underlying ty = some (.struct fs)) {fd : Field} (hf : fs[j]? = some fd) {k : Option (Nat × Option IntKind)} (hk : kindT P fd.type = some k) {c : AV} (hc : c.isAgg = true) (hv : c.part fd.offset k = some v) (hr : VRel f c (ρ x)) :
    Fine P ρ o w B f M v M := by
  obtain ⟨A, hA, hcs⟩ := agg_val hc hr
  obtain ⟨U, h1, h2⟩ := run_part (P := P) (w := w) hk hv hcs
  exact Fine.same hm (by simp [execOp, ho, Instr.field, run_underlying hu, hf, hA, asAgg, h1]) h2
theorem inR_spec {n : Int} {len m : Nat} (h : inR n len = some m) : n = m ∧ m < len := by
  unfold inR at h
  split at h
  · rename_i q
    cases hq : Nat.blt q len with
    | false => simp [hq] at h
    | true =>
      simp only [hq, cond_true, Option.some.injEq] at h
      subst h
      exact ⟨rfl, by simpa using hq⟩
  · cases h
theorem inB_spec {n : Int} {len m : Nat} (h : inB n len = some m) : n = m ∧ m ≤ len := by
  unfold inB at h
  split at h
  · rename_i q
    cases hq : Nat.ble q len with
    | false => simp [hq] at h
    | true =>
      simp only [hq, cond_true, Option.some.injEq] at h
      subst h
      exact ⟨rfl, by simpa using hq⟩
  · cases h
theorem fine_idxA (hm : MRel B f M w) {ty e : TypeId} {x y : Operand} (ho : o.op = .indexAddr ty x y) {len esz : Nat} (hu : P.underlying ty = some (.array len e)) (he : sizeT P e = some esz) {i off m : Nat} {k : IntKind} {n : Int} (hr : VRel f (.ptr i off) (ρ x)) (hy : VRel f (.int k n) (ρ y)) (hn : inR n len = some m) :
    Fine P ρ o w B f M (.ptr i (off + m * esz)) M := by
  rw [VRel] at hr
  rw [VRel] at hy
  obtain ⟨z, hz, hr⟩ := hr
  obtain ⟨rfl, hlt⟩ := inR_spec hn
  refine Fine.same hm (V := .pointer (some ⟨z.1, off + m * esz, none⟩)) ?_ (by rw [VRel]; exact ⟨z, hz, rfl⟩)
  simp [execOp, ho, Instr.indexAt, hy, hr, asIntOf, run_underlying hu, Instr.sureAddr, hlt, run_sizeOf he, addr_add]
theorem fine_idxS (hm : MRel B f M w) {ty e : TypeId} {x y : Operand} (ho : o.op = .indexAddr ty x y) {esz : Nat} (hu : P.underlying ty = some (.slice e)) (he : sizeT P e = some esz) {i off base len m : Nat} {lim : Option Nat} {k : IntKind} {n : Int} (hr : VRel f (.sl i off base len esz lim) (ρ x)) (hy : VRel f (.int k n) (ρ y)) (hn : inR n len = some m) :
    Fine P ρ o w B f M (.ptr i (off + m * esz)) M := by
  rw [VRel] at hr
  rw [VRel] at hy
  obtain ⟨z, cap, hz, h0, hcap, hlc, hr⟩ := hr
  obtain ⟨rfl, hlt⟩ := inR_spec hn
  have hc0 : cap ≠ 0 := by omega
  refine Fine.same hm (V := .pointer (some ⟨z.1, off + m * esz, none⟩)) ?_ (by rw [VRel]; exact ⟨z, hz, rfl⟩)
  simp [execOp, ho, Instr.indexAt, hy, hr, asIntOf, run_underlying hu, hlt, run_sizeOf he, addr_add, hc0]
theorem fine_idxV (hm : MRel B f M w) {ty e : TypeId} {x y : Operand} (ho : o.op = .index ty x y) {len esz : Nat} (hu : P.underlying ty = some (.array len e)) (he : sizeT P e = some esz) {k : Option (Nat × Option IntKind)} (hk : kindT P e = some k) {c : AV} {m : Nat} {k' : IntKind} {n : Int} (hc : c.isAgg = true) (hr : VRel f c (ρ x)) (hy : VRel f (.int k' n) (ρ y)) (hn : inR n len = some m)
    (hv : c.part (m * esz) k = some v) : Fine P ρ o w B f M v M := by
  rw [VRel] at hy
  obtain ⟨A, hA, hcs⟩ := agg_val hc hr
  obtain ⟨rfl, hlt⟩ := inR_spec hn
  obtain ⟨U, h1, h2⟩ := run_part (P := P) (w := w) hk hv hcs
  exact Fine.same hm (by simp [execOp, ho, Instr.index, hy, hA, asIntOf, run_underlying hu, hlt, run_sizeOf he, h1]) h2
theorem fine_idxStr (hm : MRel B f M w) {ty : TypeId} {x y : Operand} (ho : o.op = .index ty x y) (hu : P.underlying ty = some .string) {s : List UInt8} {m : Nat} {k' : IntKind} {n : Int} (hr : VRel f (.str s) (ρ x)) (hy : VRel f (.int k' n) (ρ y)) (hn : inR n s.length = some m) {b : UInt8} (hb : s[m]? = some b) :
    Fine P ρ o w B f M (.int .u8 b.toNat) M := by
  rw [VRel] at hr
  rw [VRel] at hy
  obtain ⟨rfl, hlt⟩ := inR_spec hn
  refine Fine.same hm (V := .int .u8 b.toNat) ?_ (by simp [VRel])
  have hg : (ByteArray.mk s.toArray)[m]? = some b := by
    have h1 : m < (ByteArray.mk s.toArray).size := by simpa [ByteArray.size] using hlt
    rw [getElem?_pos _ m h1]
    rw [List.getElem?_eq_getElem hlt] at hb
    have := Option.some.inj hb
    rw [← this]
    rfl
  simp [execOp, ho, Instr.index, hy, hr, asIntOf, run_underlying hu, hg]
end
end Go.Proofs.Ytnfglcfjjemjmaa
