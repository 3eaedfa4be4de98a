/- Each operation of the small machine stands for what the program's operation does: conversions, parts put together, slices. No condition. -/
import Derived.Test.YtnfglcfjjemjmaaAm5
import Derived.Laws.Externs
namespace Go.Proofs.Ytnfglcfjjemjmaa
open Go Go.RowKit

section
variable {P : Program} {B : Nat} {f : FM} {M M' : Mem} {w : World} {ρ : Operand → Value} {o : Oper} {v : AV}

theorem fine_un (hm : MRel B f M w) {op : UnOp} {ty : TypeId} {x : Operand} (ho : o.op = .unOp op ty x) {vs : List AV} (hv : VRels f vs [ρ x]) (hb : unA op vs = some v) : Fine P ρ o w B f M v M := by
  unfold unA at hb
  split at hb
  · rename_i k n
    obtain ⟨A, he, hA⟩ := rels1 hv
    obtain ⟨rfl, _⟩ := List.cons.inj he
    rw [VRel] at hA
    split at hb
    · simp only [Option.some.injEq] at hb; subst hb
      exact Fine.same hm (V := .int k (k.wrap (0 - n))) (by simp [execOp, ho, hA, Op.unary, Op.intArith]) (by rw [VRel])
    · obtain ⟨V, h1, h2⟩ := bits_run (P := P) (w := w) (f := f) hb
      exact Fine.same hm (V := V) (by simp [execOp, ho, hA, Op.unary, h1]) h2
    · cases hb
  · rename_i b
    obtain ⟨A, he, hA⟩ := rels1 hv
    obtain ⟨rfl, _⟩ := List.cons.inj he
    rw [VRel] at hA
    split at hb
    · simp only [Option.some.injEq] at hb; subst hb
      exact Fine.same hm (V := .bool (!b)) (by simp [execOp, ho, hA, Op.unary]) (by rw [VRel])
    · cases hb
  · rename_i b
    obtain ⟨A, he, hA⟩ := rels1 hv
    obtain ⟨rfl, _⟩ := List.cons.inj he
    rw [VRel] at hA
    split at hb
    · simp only [Option.some.injEq] at hb; subst hb
      exact Fine.same hm (V := .float .f64 (Op.negFloat .f64 b)) (by simp [execOp, ho, hA, Op.unary]) (by rw [VRel])
    · cases hb
  · cases hb
theorem fine_conv (hm : MRel B f M w) {s d : TypeId} {x : Operand} (ho : o.op = .convert s d x) {k k0 : IntKind} (hs : P.underlying s = some (.int k0)) (hd : P.underlying d = some (.int k)) {k' : IntKind} {n : Int} (hr : VRel f (.int k' n) (ρ x)) : Fine P ρ o w B f M (.int k (k.wrap n)) M := by
  rw [VRel] at hr
  exact Fine.same hm (V := .int k (k.wrap n)) (by simp [execOp, ho, hr, convert, run_underlying hs, run_underlying hd, Conv.intToInt]) (by rw [VRel])
theorem fine_i2f (hm : MRel B f M w) {s d : TypeId} {x : Operand} (ho : o.op = .convert s d x) {k0 : IntKind} (hs : P.underlying s = some (.int k0)) (hd : P.underlying d = some (.float .f64)) {k' : IntKind} {n : Int} (hr : VRel f (.int k' n) (ρ x)) : Fine P ρ o w B f M (.flt (FloatKind.f64.nearest n)) M := by
  rw [VRel] at hr
  exact Fine.same hm (V := .float .f64 (FloatKind.f64.nearest n)) (by simp [execOp, ho, hr, convert, run_underlying hs, run_underlying hd, Conv.intToFloat]) (by rw [VRel])
theorem fine_f2i (hm : MRel B f M w) {s d : TypeId} {x : Operand} (ho : o.op = .convert s d x) {k : IntKind} (hs : P.underlying s = some (.float .f64)) (hd : P.underlying d = some (.int k)) {b : Nat} {n : Int} (hn : (FloatKind.f64.decode b).toInt .zero = some n) (hk : k.min ≤ n ∧ n ≤ k.max) (hr : VRel f (.flt b) (ρ x)) : Fine P ρ o w B f M (.int k n) M := by
  rw [VRel] at hr
  exact Fine.same hm (V := .int k n) (by simp [execOp, ho, hr, convert, run_underlying hs, run_underlying hd, Conv.floatToInt, hn, hk]) (by rw [VRel])
theorem fine_convId (hm : MRel B f M w) {s d : TypeId} {x : Operand} (ho : o.op = .convert s d x) (hs : P.underlying s = some .string) (hd : P.underlying d = some .string) {t : List UInt8} (hr : VRel f (.str t) (ρ x)) : Fine P ρ o w B f M (.str t) M := by
  have hr' := hr
  rw [VRel] at hr
  exact Fine.same hm (V := ρ x) (by simp [execOp, ho, hr, convert, run_underlying hs, run_underlying hd]) hr'
theorem foldl_push : ∀ (ns : List Int) (s : ByteArray), ns.foldl (fun r n => r.push (UInt8.ofNat n.toNat)) s = ByteArray.mk (s.data ++ (ns.map fun n => UInt8.ofNat n.toNat).toArray)
  | [], s => by simp
  | n :: ns, s => by
    rw [List.foldl_cons, foldl_push ns]
    simp [ByteArray.push]
theorem fine_b2s (hm : MRel B f M w) {s d e : TypeId} {x : Operand} (ho : o.op = .convert s d x) (hs : P.underlying s = some (.slice e)) (he : P.underlying e = some (.int .u8)) (hd : P.underlying d = some .string) {i off base len : Nat} {lim : Option Nat} {b : Blk} {l : List Int}
    (hr : VRel f (.sl i off base len 1 lim) (ρ x)) (hb : liveB M i = some b) (hl : b.cells.sub off len (some .u8) = some (.nums .u8 l)) : Fine P ρ o w B f M (.str (l.map fun n => UInt8.ofNat n.toNat)) M := by
  obtain ⟨y, A, t, fz, hi, hy, hw, hsz, ha, hown, hle, hc, hfz, hdd⟩ := hm.live hb
  rw [VRel] at hr
  obtain ⟨z, cap, hz, h0, hcap, hlc, hr⟩ := hr
  obtain rfl : y = z := by rw [hy] at hz; exact Option.some.inj hz
  obtain ⟨hle2, _, hcs, hvU, _⟩ := sub_rel (f := f) hl hc
  rw [take_drop_le _ _ _ _ hle2] at hvU
  rw [VRel] at hvU
  have hlen : l.length = len := by simpa [AV.csize] using hcs
  have hload : ∀ o', (o' = off ∨ len = 0) → o' ≤ A.size → (loadCells ⟨y.1, o', none⟩ len).run P w = .ok (l.map (Value.int .u8)).toArray w := by
    intro o' ho' hle'
    rcases ho' with rfl | h
    · rw [run_loadCells_mid (P := P) hw o' len (by omega)]
      injection hvU with hvU
      rw [hvU]
    · subst h
      obtain rfl : l = [] := List.length_eq_zero_iff.1 hlen
      simp [loadCells, loadCellsFrom]
  have ha0 : len = 0 ∨ cap ≠ 0 := by omega
  have hload' : (loadCells ⟨y.1, if cap = 0 then base else off, none⟩ len).run P w = .ok (l.map (Value.int .u8)).toArray w := by
    by_cases h : len = 0
    · subst h
      obtain rfl : l = [] := List.length_eq_zero_iff.1 hlen
      simp [loadCells, loadCellsFrom]
    · rw [if_neg (by omega)]; exact hload off (.inl rfl) (by omega)
  have h1 := run_bytesToString (P := P) w ⟨y.1, if cap = 0 then base else off, none⟩ len cap l hload'
  refine Fine.same hm (V := .string ⟨(l.map fun n => UInt8.ofNat n.toNat).toArray⟩) ?_ (by rw [VRel])
  rw [foldl_push] at h1
  simp only [execOp, ho, hr, run_convert_bytes_string w s d e _ _ _ hs he hd, Sem.run_bind, h1, Result.andThen_ok, Sem.run_pure]
  congr 3
  simp [ByteArray.empty, ByteArray.emptyWithCapacity]
  rfl
theorem fine_b2s_nil (hm : MRel B f M w) {s d e : TypeId} {x : Operand} (ho : o.op = .convert s d x) (hs : P.underlying s = some (.slice e)) (he : P.underlying e = some (.int .u8)) (hd : P.underlying d = some .string) (hr : VRel f .nilsl (ρ x)) : Fine P ρ o w B f M (.str []) M := by
  rw [VRel] at hr
  refine Fine.same hm (V := .string .empty) ?_ (by rw [VRel]; rfl)
  simp [execOp, ho, hr, run_convert_bytes_string w s d e _ _ _ hs he hd, Conv.bytesToString]
theorem fine_s2ap (hm : MRel B f M w) {ty e : TypeId} {x : Operand} {n : Nat} (ho : o.op = .sliceToArrayPointer ty x) (hu : P.underlying ty = some (.array n e)) {i off base len esz : Nat} {lim : Option Nat} (hr : VRel f (.sl i off base len esz lim) (ρ x)) (hn : n ≤ len) (h0 : 0 < n) : Fine P ρ o w B f M (.ptr i off) M := by
  rw [VRel] at hr
  obtain ⟨z, cap, hz, he, hcap, hlc, hr⟩ := hr
  have hc : cap ≠ 0 := by omega
  have hnl : ¬ len < n := by omega
  refine Fine.same hm (V := .pointer (some ⟨z.1, off, none⟩)) ?_ (by rw [VRel]; exact ⟨z, hz, rfl⟩)
  simp [execOp, ho, hr, Instr.arrayAt, run_underlying hu, hc, hnl]
theorem fine_mkfn (hm : MRel B f M w) {g : FuncId} {a c : Array Operand} (ho : o.op = .makeFunc (.func g) a c) {vs : List AV} (hv : VRels f vs ((a.toList ++ c.toList).map ρ)) : Fine P ρ o w B f M (.fn g (vs.take a.size) (vs.drop a.size)) M := by
  refine Fine.same hm (V := .func (.func g) (a.map ρ) (c.map ρ)) (by simp [execOp, ho, Instr.makeFunc]) ?_
  rw [VRel]
  refine ⟨_, _, rfl, ?_, ?_⟩
  · have := hv.take a.size
    simpa using this
  · have := hv.drop a.size
    simpa using this
theorem fine_extr (hm : MRel B f M w) {x : Operand} {i : Nat} (ho : o.op = .extract x i) {l : List AV} (hr : VRel f (.tup l) (ρ x)) (hi : l[i]? = some v) : Fine P ρ o w B f M v M := by
  rw [VRel] at hr
  obtain ⟨A, hA, hl⟩ := hr
  obtain ⟨V, hV, hvV⟩ := hl.get i hi
  have hV' : A[i]? = some V := by simpa using hV
  exact Fine.same hm (V := V) (by simp [execOp, ho, hA, Instr.extract, hV']) hvV

/-! ### Built-in functions of numbers -/
theorem len_rel {n : Nat} {a : AV} {V : Value} (h : lenA a = some n) (hv : VRel f a V) : (Builtin.lenOf V).run P w = .ok n w := by
  cases a <;> simp only [lenA, Option.some.injEq, reduceCtorEq] at h <;> rw [VRel] at hv
  case sl => obtain ⟨x, cap, _, _, _, _, rfl⟩ := hv; simp [Builtin.lenOf, h]
  case nilsl => subst hv; simp [Builtin.lenOf, ← h]
  case str s => subst hv; simp [Builtin.lenOf, ByteArray.size, h]
theorem fine_builtin (hm : MRel B f M w) {c : Call} (ho : o.op = .call c) {b : Builtin} (hc : c.callee = .builtin b) {A : Array Value} (hA : c.args.toList.map ρ = A.toList) {V : Value} (hr : (builtin b c.argTypes o.type (c.args.map fun | .const _ => true | _ => false) A).run P w = .ok (.value V) w) (hv : VRel f v V) : Fine P ρ o w B f M v M := by
  have hargs : c.args.map ρ = A := by apply Array.ext'; simpa using hA
  refine Fine.same hm (V := V) ?_ hv
  simp [execOp, ho, resolve, hc, invoke, hargs]
  exact hr
theorem fine_lenStr (hm : MRel B f M w) {c : Call} (ho : o.op = .call c) (hc : c.callee = .builtin .len) {t : TypeId} (ht : c.argTypes[0]? = some t) (hu : P.underlying t = some .string) {s : List UInt8} (hv : VRels f [.str s] (c.args.toList.map ρ)) : Fine P ρ o w B f M (.int .i64 s.length) M := by
  obtain ⟨A, hA, hvA⟩ := rels1 hv
  rw [VRel] at hvA
  subst hvA
  refine fine_builtin hm ho hc (A := #[_]) (by simpa using hA) (V := .int .i64 s.length) ?_ (by rw [VRel])
  have hsz : (ByteArray.mk s.toArray).size = s.length := by simp [ByteArray.size]
  simp only [builtin, Builtin.len_, ht, List.getElem?_toArray, List.getElem?_cons_zero, Sem.run_bind, run_underlying hu, Result.andThen_ok, Sem.run_pure, goInt, hsz]
theorem fine_lenSl (hm : MRel B f M w) {c : Call} (ho : o.op = .call c) (hc : c.callee = .builtin .len) {t e : TypeId} (ht : c.argTypes[0]? = some t) (hu : P.underlying t = some (.slice e)) {i off base n esz : Nat} {lim : Option Nat} (hv : VRels f [.sl i off base n esz lim] (c.args.toList.map ρ)) : Fine P ρ o w B f M (.int .i64 n) M := by
  obtain ⟨A, hA, hvA⟩ := rels1 hv
  rw [VRel] at hvA
  obtain ⟨x, cap, _, _, _, _, rfl⟩ := hvA
  refine fine_builtin hm ho hc (A := #[_]) (by simpa using hA) (V := .int .i64 n) ?_ (by rw [VRel])
  simp only [builtin, Builtin.len_, ht, List.getElem?_toArray, List.getElem?_cons_zero, Sem.run_bind, run_underlying hu, Result.andThen_ok, Sem.run_pure, goInt]
theorem fine_lenNil (hm : MRel B f M w) {c : Call} (ho : o.op = .call c) (hc : c.callee = .builtin .len) {t e : TypeId} (ht : c.argTypes[0]? = some t) (hu : P.underlying t = some (.slice e)) (hv : VRels f [.nilsl] (c.args.toList.map ρ)) : Fine P ρ o w B f M (.int .i64 0) M := by
  obtain ⟨A, hA, hvA⟩ := rels1 hv
  rw [VRel] at hvA
  subst hvA
  refine fine_builtin hm ho hc (A := #[_]) (by simpa using hA) (V := .int .i64 0) ?_ (by rw [VRel])
  simp only [builtin, Builtin.len_, ht, List.getElem?_toArray, List.getElem?_cons_zero, Sem.run_bind, run_underlying hu, Result.andThen_ok, Sem.run_pure, goInt]
  rfl
theorem fine_lenC (hm : MRel B f M w) {c : Call} (ho : o.op = .call c) (hc : c.callee = .builtin .len) {t e : TypeId} {n : Nat} (ht : c.argTypes[0]? = some t) (hu : P.underlying t = some (.array n e)) {a : AV} (hv : VRels f [a] (c.args.toList.map ρ)) : Fine P ρ o w B f M (.int .i64 n) M := by
  obtain ⟨A, hA, hvA⟩ := rels1 hv
  refine fine_builtin hm ho hc (A := #[A]) (by simpa using hA) (V := .int .i64 n) ?_ (by rw [VRel])
  simp only [builtin, Builtin.len_, ht, List.getElem?_toArray, List.getElem?_cons_zero, Sem.run_bind, run_underlying hu, Result.andThen_ok, goInt]
  cases A <;> rfl
theorem min_run : ∀ (l : List AV) (k : IntKind) (x : Int) (Vs : List Value), VRels f l Vs → minA.go k x l = some v → ∃ V, (Vs.foldlM Builtin.min2 (.int k x)).run P w = .ok V w ∧ VRel f v V
  | [], k, x, Vs, hv, h => by
    simp only [minA.go, Option.some.injEq] at h; subst h
    rw [VRels] at hv; subst hv
    exact ⟨.int k x, by simp, by rw [VRel]⟩
  | u :: l, k, x, Vs, hv, h => by
    rw [VRels] at hv
    obtain ⟨U, r, rfl, hU, hr⟩ := hv
    cases u <;> simp only [minA.go, reduceCtorEq] at h
    rw [VRel] at hU; subst hU
    obtain ⟨V, h1, h2⟩ := min_run l k _ r hr h
    exact ⟨V, by simpa [Builtin.min2] using h1, h2⟩
theorem max_run : ∀ (l : List AV) (k : IntKind) (x : Int) (Vs : List Value), VRels f l Vs → maxA.go k x l = some v → ∃ V, (Vs.foldlM Builtin.max2 (.int k x)).run P w = .ok V w ∧ VRel f v V
  | [], k, x, Vs, hv, h => by
    simp only [maxA.go, Option.some.injEq] at h; subst h
    rw [VRels] at hv; subst hv
    exact ⟨.int k x, by simp, by rw [VRel]⟩
  | u :: l, k, x, Vs, hv, h => by
    rw [VRels] at hv
    obtain ⟨U, r, rfl, hU, hr⟩ := hv
    cases u <;> simp only [maxA.go, reduceCtorEq] at h
    rw [VRel] at hU; subst hU
    obtain ⟨V, h1, h2⟩ := max_run l k _ r hr h
    exact ⟨V, by simpa [Builtin.max2] using h1, h2⟩
theorem fine_min (hm : MRel B f M w) {c : Call} (ho : o.op = .call c) (hc : c.callee = .builtin .min) {vs : List AV} (hv : VRels f vs (c.args.toList.map ρ)) (hn : minA vs = some v) : Fine P ρ o w B f M v M := by
  unfold minA at hn
  split at hn <;> first | (cases hn; done) | skip
  rename_i k x r
  rw [VRels] at hv
  obtain ⟨U, Vs, hU, hx, hr⟩ := hv
  rw [VRel] at hx; subst hx
  obtain ⟨V, h1, h2⟩ := min_run (P := P) (w := w) r k x Vs hr hn
  exact fine_builtin hm ho hc (A := (Value.int k x :: Vs).toArray) (by simpa using hU) (V := V) (by simp [builtin, Builtin.min_, h1]) h2
theorem fine_max (hm : MRel B f M w) {c : Call} (ho : o.op = .call c) (hc : c.callee = .builtin .max) {vs : List AV} (hv : VRels f vs (c.args.toList.map ρ)) (hn : maxA vs = some v) : Fine P ρ o w B f M v M := by
  unfold maxA at hn
  split at hn <;> first | (cases hn; done) | skip
  rename_i k x r
  rw [VRels] at hv
  obtain ⟨U, Vs, hU, hx, hr⟩ := hv
  rw [VRel] at hx; subst hx
  obtain ⟨V, h1, h2⟩ := max_run (P := P) (w := w) r k x Vs hr hn
  exact fine_builtin hm ho hc (A := (Value.int k x :: Vs).toArray) (by simpa using hU) (V := V) (by simp [builtin, Builtin.max_, h1]) h2

/-! ### Parts put together -/
theorem foldl_setL (off : Nat) : ∀ (l : List Value) (j : Nat) (A : Array Value), ((l.zipIdx j).foldl (fun cs (p : Value × Nat) => cs.setIfInBounds (off + p.2) p.1) A).toList = setL A.toList (off + j) l
  | [], j, A => by simp [setL]
  | v :: l, j, A => by
    simp only [List.zipIdx_cons, List.foldl_cons]
    rw [foldl_setL off l (j + 1), setL]
    simp [Nat.add_assoc]
theorem fill_run {place : Nat → Option (Nat × Nat)} : ∀ (is : List Nat) (pl : List (Nat × Nat)) (vs : List AV) (Vs : List Value) (z c : AV) (A : Array Value),
    fillA z pl vs = some c → VRels f vs Vs → is.length = vs.length → (∀ (j i : Nat) p, is[j]? = some i → pl[j]? = some p → place i = some p) → z.isAgg = true → VRels f z.cells A.toList →
    ∃ A', Instr.fill place A (is.zip Vs) = some A' ∧ c.isAgg = true ∧ VRels f c.cells A'.toList ∧ c.csize = z.csize
  | [], pl, vs, Vs, z, c, A, h, hv, hl, _, hz, hA => by
    obtain rfl : vs = [] := List.length_eq_zero_iff.1 (by simpa using hl.symm)
    cases pl with
    | nil => simp only [fillA, Option.some.injEq] at h; subst h; exact ⟨A, by simp [Instr.fill], hz, hA, rfl⟩
    | cons => simp [fillA] at h
  | i :: is, pl, vs, Vs, z, c, A, h, hv, hl, hp, hz, hA => by
    cases vs with
    | nil => simp at hl
    | cons v vs =>
      rw [VRels] at hv
      obtain ⟨V, Vs, rfl, hV, hVs⟩ := hv
      cases pl with
      | nil => simp [fillA] at h
      | cons p pl =>
        obtain ⟨off, n⟩ := p
        simp only [fillA] at h
        cases hq : (Nat.beq v.csize n && v.plain) with
        | false => simp [hq] at h
        | true =>
          simp only [hq, cond_true] at h
          simp only [Bool.and_eq_true] at hq
          obtain ⟨hq1, hq2⟩ := hq
          obtain rfl := Nat.eq_of_beq_eq_true hq1
          split at h
          · rename_i z' hz'
            obtain ⟨g1, g2, g3, g4, g5, g6, _⟩ := putR_cells hz'
            have hVc := hV.cells g6
            have hlen : V.cells.toList.length = v.csize := by rw [← hVc.length, csize_cells]
            have hAl : A.toList.length = z.csize := by rw [← hA.length, csize_cells]
            have hpl := hp 0 i (off, v.csize) (by simp) (by simp)
            have hnew : (V.cells.zipIdx.foldl (fun cs (p : Value × Nat) => cs.setIfInBounds (off + p.2) p.1) A).toList = A.toList.take off ++ (V.cells.toList ++ A.toList.drop (off + v.csize)) := by
              rw [← Array.foldl_toList, Array.toList_zipIdx, foldl_setL, Nat.add_zero, setL_mid _ _ _ (by rw [hlen, hAl]; exact g2), hlen]
            have hA' : VRels f z'.cells (V.cells.zipIdx.foldl (fun cs (p : Value × Nat) => cs.setIfInBounds (off + p.2) p.1) A).toList := by
              rw [hnew, g4]
              exact (hA.take off).app (hVc.app (hA.drop _))
            obtain ⟨A', r1, r2, r3, r4⟩ := fill_run is pl vs Vs z' c _ h hVs (by simpa using hl) (fun j i' p h1 h2 => hp (j + 1) i' p (by simpa using h1) (by simpa using h2)) g1 hA'
            refine ⟨A', ?_, r2, r3, r4.trans g3⟩
            have c1 : ¬ (V.cells.size ≠ v.csize ∨ off + V.cells.size > A.size) := by
              simp only [Array.length_toList] at hlen hAl
              omega
            simp only [List.zip_cons_cons, Instr.fill, hpl]
            rw [if_neg (by simpa using c1)]
            exact r1
          · cases h
end
end Go.Proofs.Ytnfglcfjjemjmaa
