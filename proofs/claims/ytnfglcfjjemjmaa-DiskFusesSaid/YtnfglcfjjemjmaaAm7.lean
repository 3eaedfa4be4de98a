/- Each operation of the small machine stands for what the program's operation does: parts put together, new slices, parts of slices. No condition. -/
import Derived.Test.YtnfglcfjjemjmaaAm6
namespace Go.Proofs.Ytnfglcfjjemjmaa
open Go Go.RowKit

section
variable {P : Program} {B : Nat} {f : FM} {M M' : Mem} {w : World} {ρ : Operand → Value} {o : Oper} {v : AV}

theorem map_zip (ps : List (Nat × Operand)) : (ps.map fun (i, x) => (i, ρ x)) = (ps.map (·.1)).zip ((ps.map (·.2)).map ρ) := by
  induction ps with
  | nil => rfl
  | cons p ps ih => simp [ih]
theorem fill_len : ∀ {z c : AV} {pl : List (Nat × Nat)} {vs : List AV}, fillA z pl vs = some c → pl.length = vs.length
  | z, c, [], [], _ => rfl
  | z, c, [], v :: vs, h => by simp [fillA] at h
  | z, c, p :: pl, [], h => by simp [fillA] at h
  | z, c, (a, b) :: pl, v :: vs, h => by
    simp only [fillA] at h
    cases hq : (Nat.beq v.csize b && v.plain) with
    | false => simp [hq] at h
    | true =>
      simp only [hq, cond_true] at h
      split at h
      · simpa using fill_len h
      · cases h
theorem placesS_get {fs : Array Field} : ∀ {is : List Nat} {pl : List (Nat × Nat)}, placesS P fs is = some pl → is.length = pl.length ∧ ∀ (j i : Nat) p, is[j]? = some i → pl[j]? = some p → ∃ fd, fs[i]? = some fd ∧ sizeT P fd.type = some p.2 ∧ p.1 = fd.offset
  | [], pl, h => by simp only [placesS, Option.some.injEq] at h; subst h; exact ⟨rfl, by simp⟩
  | i :: is, pl, h => by
    simp only [placesS] at h
    split at h
    · rename_i fd hfd
      split at h
      · rename_i n r hn hr
        simp only [Option.some.injEq] at h; subst h
        have ih := placesS_get hr
        refine ⟨by simp [ih.1], ?_⟩
        intro j i' p hi hp
        cases j with
        | zero =>
          simp only [List.getElem?_cons_zero, Option.some.injEq] at hi hp
          subst hi; subst hp
          exact ⟨fd, hfd, hn, rfl⟩
        | succ j => exact ih.2 j i' p (by simpa using hi) (by simpa using hp)
      · cases h
    · cases h
theorem placesA_get (s : Nat) : ∀ (is : List Nat), (placesA s is).length = is.length ∧ ∀ (j i : Nat) p, is[j]? = some i → (placesA s is)[j]? = some p → p = (i * s, s)
  | [] => ⟨rfl, by simp⟩
  | i :: is => by
    have ih := placesA_get s is
    refine ⟨by simp [placesA, ih.1], ?_⟩
    intro j i' p hi hp
    cases j with
    | zero =>
      simp only [placesA, List.getElem?_cons_zero, Option.some.injEq] at hi hp
      subst hi; exact hp.symm
    | succ j => exact ih.2 j i' p (by simpa using hi) (by simpa [placesA] using hp)
theorem run_mapM_sizes : ∀ (fs : List Field) (w : World), sizesOK P fs = true → ∃ ps : List (Nat × Nat), (fs.mapM (m := Sem) fun f => do pure (f.offset, ← sizeOf f.type)).run P w = .ok ps w ∧ ∀ (i : Nat) fd, fs[i]? = some fd → ∃ n, sizeT P fd.type = some n ∧ ps[i]? = some (fd.offset, n)
  | [], w, _ => ⟨[], by simp, by simp⟩
  | fd :: fs, w, h => by
    simp only [sizesOK, Bool.and_eq_true, Option.isSome_iff_exists] at h
    obtain ⟨⟨n, hn⟩, h⟩ := h
    obtain ⟨ps, h1, h2⟩ := run_mapM_sizes fs w h
    refine ⟨(fd.offset, n) :: ps, ?_, ?_⟩
    · rw [List.mapM_cons]
      simp only [Sem.run_bind, run_sizeOf hn, Result.andThen_ok, Sem.run_pure, bind_assoc, pure_bind, h1]
    · intro i fd' hi
      cases i with
      | zero => simp only [List.getElem?_cons_zero, Option.some.injEq] at hi; subst hi; exact ⟨n, hn, by simp⟩
      | succ i => obtain ⟨m, h3, h4⟩ := h2 i fd' (by simpa using hi); exact ⟨m, h3, by simpa using h4⟩
theorem zero_cells {z : AV} {V : Value} (hr : VRel f z V) (hz : z.isAgg = true) : VRels f z.cells V.cells.toList := hr.cells (.inl hz)
theorem agg_of_cells {c : AV} {A : Array Value} (h : c.isAgg = true) (hA : VRels f c.cells A.toList) : VRel f c (.agg A) := by
  cases c with
  | agg l => rw [VRel]; exact ⟨A, rfl, hA⟩
  | nums k l =>
    have := VRels.of_nums (by simpa [AV.cells] using hA)
    rw [VRel, ← this]
  | flat l => rw [VRel]; exact ⟨A, rfl, SRels.av.1 hA⟩
  | _ => cases h
theorem fine_buildS (hm : MRel B f M w) {ty : TypeId} {ps : Array (Nat × Operand)} (ho : o.op = .build ty ps) {z : AV} (hz : zeroT P ty = some z) (hza : z.isAgg = true) {fs : Array Field} (hu : P.underlying ty = some (.struct fs)) (hsz : sizesOK P fs.toList = true) {pl : List (Nat × Nat)} (hpl : placesS P fs (ps.toList.map (·.1)) = some pl)
    {vs : List AV} (hv : VRels f vs ((ps.toList.map (·.2)).map ρ)) (hc : fillA z pl vs = some v) : Fine P ρ o w B f M v M := by
  obtain ⟨i, V, hi, hV, hr, _⟩ := zeroT_rel (f := f) hz
  obtain ⟨pS, r1, r2⟩ := run_mapM_sizes (P := P) fs.toList w hsz
  have hp := placesS_get hpl
  obtain ⟨A', g1, g2, g3, g4⟩ := fill_run (place := fun j : Nat => pS[j]?) (ps.toList.map (·.1)) pl vs _ z v V.cells hc hv (by rw [hp.1, fill_len hc]) (fun j i p h1 h2 => by
    obtain ⟨fd, a1, a2, a3⟩ := hp.2 j i p h1 h2
    obtain ⟨n, b1, b2⟩ := r2 i fd (by simpa using a1)
    rw [a2] at b1
    obtain rfl := Option.some.inj b1
    show pS[i]? = some p
    rw [b2, ← a3]) hza (zero_cells hr hza)
  refine Fine.same hm (V := .agg A') ?_ (agg_of_cells g2 g3)
  have hmap : (fs.mapM (m := Sem) fun f => do pure (f.offset, ← sizeOf f.type)).run P w = .ok pS.toArray w := by
    rw [Array.mapM_eq_mapM_toList]
    simp only [Sem.run_map]
    rw [r1]; rfl
  simp only [execOp, ho, Instr.build, Sem.run_bind, run_zeroValue hi hV, Result.andThen_ok, run_underlying hu]
  rw [hmap]
  simp only [Result.andThen_ok]
  have e1 : (ps.map fun (i, x) => (i, ρ x)).toList = (ps.toList.map (·.1)).zip ((ps.toList.map (·.2)).map ρ) := by
    rw [← map_zip]; simp
  rw [e1]
  have e2 : (fun j : Nat => pS.toArray[j]?) = fun j : Nat => pS[j]? := by funext j; simp
  rw [e2, g1]
  rfl
theorem fine_buildA (hm : MRel B f M w) {ty e : TypeId} {ps : Array (Nat × Operand)} (ho : o.op = .build ty ps) {z : AV} (hz : zeroT P ty = some z) (hza : z.isAgg = true) {n s : Nat} (hu : P.underlying ty = some (.array n e)) (hs : sizeT P e = some s)
    {vs : List AV} (hv : VRels f vs ((ps.toList.map (·.2)).map ρ)) (hc : fillA z (placesA s (ps.toList.map (·.1))) vs = some v) : Fine P ρ o w B f M v M := by
  obtain ⟨i, V, hi, hV, hr, _⟩ := zeroT_rel (f := f) hz
  have hp := placesA_get s (ps.toList.map (·.1))
  obtain ⟨A', g1, g2, g3, g4⟩ := fill_run (place := fun i => some (i * s, s)) (ps.toList.map (·.1)) _ vs _ z v V.cells hc hv (by rw [← hp.1, fill_len hc]) (fun j i p h1 h2 => by rw [hp.2 j i p h1 h2]) hza (zero_cells hr hza)
  refine Fine.same hm (V := .agg A') ?_ (agg_of_cells g2 g3)
  simp only [execOp, ho, Instr.build, Sem.run_bind, run_zeroValue hi hV, Result.andThen_ok, run_underlying hu, run_sizeOf hs]
  have e1 : (ps.map fun (i, x) => (i, ρ x)).toList = (ps.toList.map (·.1)).zip ((ps.toList.map (·.2)).map ρ) := by
    rw [← map_zip]; simp
  rw [e1, g1]
  rfl

/-! ### Cells of noughts -/
theorem rep_cells {z c : AV} {n : Nat} (h : z.rep n = some c) : c.isAgg = true ∧ c.cells = (List.replicate n z.cells).flatten ∧ c.csize = n * z.csize := by
  cases z <;> simp only [AV.rep, Option.some.injEq, reduceCtorEq] at h <;> subst h
  · exact ⟨rfl, rfl, by simp [AV.csize]⟩
  · rename_i k l
    refine ⟨rfl, ?_, by simp [AV.csize]⟩
    simp [AV.cells, List.map_flatten]
  · exact ⟨rfl, by simp [AV.cells, List.map_flatten], by simp [AV.csize]⟩
theorem made_flat (z : Array Value) (hz : 0 < z.size) : ∀ n : Nat, ((Array.range (n * z.size)).map fun i => z[i % z.size]!).toList = (List.replicate n z.toList).flatten
  | 0 => by simp
  | n + 1 => by
    have ih := made_flat z hz n
    rw [List.replicate_succ, List.flatten_cons, ← ih, show (n + 1) * z.size = z.size + n * z.size by rw [Nat.succ_mul, Nat.add_comm]]
    simp only [Array.toList_map, Array.toList_range, List.range_add, List.map_append, List.map_map]
    congr 1
    · apply List.ext_getElem
      · simp
      · intro i h1 h2
        simp only [List.length_map, List.length_range] at h1
        simp [Nat.mod_eq_of_lt h1, h1]
    · apply List.map_congr_left
      intro i _
      simp
theorem aggBlock_rel {z : AV} {V : Value} (hr : VRel f z V) (hk : z.isAgg = true ∨ z.one = true) : (aggBlock z).isAgg = true ∧ VRels f (aggBlock z).cells V.cells.toList ∧ (aggBlock z).csize = V.cells.size := by
  by_cases hi : ∃ k n, z = .int k n
  · obtain ⟨k, n, rfl⟩ := hi
    have h := block_rel (a := .int k n) (c := .agg [.int k n]) rfl hr
    exact ⟨rfl, h.2.1, h.2.2⟩
  · obtain ⟨b, hb⟩ : ∃ b, z.block = some b := by cases z <;> simp_all [AV.block, AV.isAgg, AV.one]
    have := block_rel hb hr
    unfold aggBlock
    split
    · rename_i k n
      exact absurd ⟨k, n, rfl⟩ hi
    · exact block_rel (c := .agg [.str _]) rfl hr
    · exact block_rel (c := .agg [.bool _]) rfl hr
    · exact block_rel (c := .agg [.flt _]) rfl hr
    · rw [hb]; exact this
theorem rep_rel {z c : AV} {n : Nat} (h : z.rep n = some c) {A : Array Value} (hA : VRels f z.cells A.toList) (h0 : 0 < A.size) : VRels f c.cells ((Array.range (n * A.size)).map fun i => A[i % A.size]!).toList := by
  rw [(rep_cells h).2.1, made_flat A h0]
  exact hA.flat_rep n
theorem fine_buildSl (hm : MRel B f M w) (hB : B ≤ w.heap.size) {ty e : TypeId} {n : Nat} {ps : Array (Nat × Operand)} (ho : o.op = .buildSlice ty n ps) (hu : P.underlying ty = some (.slice e)) {z c : AV} {s : Nat} (hz : zeroT P e = some z) (hs : sizeT P e = some s) (h0 : 0 < s) (hlim : n * s ≤ 16777216) (hzs : (aggBlock z).csize = s) (hc : (aggBlock z).rep n = some c)
    {vs : List AV} (hv : VRels f vs ((ps.toList.map (·.2)).map ρ)) (hf : fillA c (placesA s (ps.toList.map (·.1))) vs = some v) : Fine P ρ o w B f M (.sl M.length 0 0 n s none) (M ++ [⟨v, .own, false⟩]) := by
  obtain ⟨i, V, hi, hV, hr, hk⟩ := zeroT_rel (f := f) hz
  obtain ⟨k1, k2, k3⟩ := aggBlock_rel hr hk
  have hVs : V.cells.size = s := by rw [← k3, hzs]
  have hrep := rep_rel hc k2 (by omega)
  have hrc := rep_cells hc
  have hp := placesA_get s (ps.toList.map (·.1))
  obtain ⟨A', g1, g2, g3, g4⟩ := fill_run (place := fun i => some (i * s, s)) (ps.toList.map (·.1)) _ vs _ c v ((Array.range (n * V.cells.size)).map fun i => V.cells[i % V.cells.size]!) hf hv (by rw [← hp.1, fill_len hf]) (fun j i p h1 h2 => by rw [hp.2 j i p h1 h2]) hrc.1 hrep
  have hA's : A'.size = n * s := by
    have := g3.length
    rw [csize_cells, g4, hrc.2.2, hzs] at this
    rw [← Array.length_toList, ← this]
  have hvs : v.csize = A'.size := by rw [g4, hrc.2.2, hzs, hA's]
  refine alloc_fine hm hB (A := A') (t := e) (V := .slice (some ⟨w.heap.size, 0, none⟩) n n) (.inl rfl) g2 (fun _ => hvs) (Nat.le_of_eq hvs) (by rw [hvs, take_all (by simp)]; exact g3) ?_ ?_
  · have e1 : (ps.map fun (i, x) => (i, ρ x)).toList = (ps.toList.map (·.1)).zip ((ps.toList.map (·.2)).map ρ) := by
      rw [← map_zip]; simp
    simp only [execOp, ho, Instr.buildSlice, Sem.run_bind, run_underlying hu, Result.andThen_ok, run_sizeOf hs, e1]
    rw [if_neg (by simpa using hlim)]
    by_cases hn : n * s = 0
    · rw [if_pos hn]
      have e3 : Array.map (fun x => (#[] : Array Value)[x % (#[] : Array Value).size]!) (Array.range (n * s)) = Array.map (fun i => V.cells[i % V.cells.size]!) (Array.range (n * V.cells.size)) := by
        rw [hVs, hn]; simp
      simp only [Sem.run_bind, Sem.run_pure, Result.andThen_ok]
      rw [e3, g1]
      rfl
    · rw [if_neg hn]
      simp only [Sem.run_bind, run_zeroValue hi hV, Sem.run_pure, Result.andThen_ok]
      rw [← hVs] at g1 ⊢
      simp only [g1]
      rfl
  · rw [VRel]
    refine ⟨_, n, new_get hm _, h0, by simp [hA's], Nat.le_refl _, by simp⟩
theorem fine_mksl (hm : MRel B f M w) (hB : B ≤ w.heap.size) {ty e : TypeId} {x y : Operand} (ho : o.op = .makeSlice ty x y) (hu : P.underlying ty = some (.slice e)) {z cs : AV} {s b : Nat} (hz : zeroT P e = some z) (hs : sizeT P e = some s) (hb : bytesT P e = some b) (h0 : 0 < s) (hzs : (aggBlock z).csize = s)
    {k k' : IntKind} {l c : Nat} (hx : VRel f (.int k l) (ρ x)) (hy : VRel f (.int k' c) (ρ y)) (hlc : l ≤ c) (hbig : c * b ≤ 140737488355328) (h63 : c ≤ 9223372036854775807) (hrep : (aggBlock z).rep c = some cs) : Fine P ρ o w B f M (.sl M.length 0 0 l s none) (M ++ [⟨cs, .own, false⟩]) := by
  rw [VRel] at hx
  rw [VRel] at hy
  obtain ⟨i, V, hi, hV, hr, hk⟩ := zeroT_rel (f := f) hz
  obtain ⟨i', hi', rfl⟩ := sizeT_spec hs
  obtain rfl : i = i' := by rw [hi] at hi'; exact Option.some.inj hi'
  obtain ⟨i'', hi'', rfl⟩ := bytesT_spec hb
  obtain rfl : i = i'' := by rw [hi] at hi''; exact Option.some.inj hi''
  obtain ⟨k1, k2, k3⟩ := aggBlock_rel hr hk
  have hVs : V.cells.size = i.size := by rw [← k3, hzs]
  have hrl := rep_rel hrep k2 (by omega)
  have hrc := rep_cells hrep
  have hrun := run_make (P := P) w ty e i V hu hi hV k k' l c (by omega) (by omega) (by have h2 := hbig; rw [Nat.mul_comm] at h2; omega) (by omega)
  have hsz : cs.csize = (madeCells V.cells (c * i.size)).size := by rw [hrc.2.2, hzs, size_madeCells]
  refine alloc_fine hm hB (A := madeCells V.cells (c * i.size)) (t := e) (V := .slice (some ⟨w.heap.size, 0, none⟩) l c) (.inl rfl) hrc.1 (fun _ => hsz) (Nat.le_of_eq hsz) ?_ ?_ ?_
  · rw [hsz, take_all (by simp)]
    unfold madeCells
    rw [← hVs]; exact hrl
  · simp only [execOp, ho, hx, hy, Sem.run_bind, hrun, Result.andThen_ok, Sem.run_pure, Int.toNat_natCast]
  · rw [VRel]
    exact ⟨_, c, new_get hm _, h0, by simp [size_madeCells], hlc, by simp⟩

/-! ### Parts of slices -/
theorem bounds_run {lo hi : Option Operand} {bs : List AV} {d cap l h : Nat} {isS : Bool} (hb : boundsA lo.isSome hi.isSome d bs = some (l, h)) (hv : VRels f bs ((lo.toList ++ hi.toList).map ρ)) (hd : d ≤ cap) :
    (Instr.sliceBounds isS d cap (lo.map ρ) (hi.map ρ) none).run P w = .ok (l, h, cap) w ∧ l ≤ h ∧ h ≤ d := by
  have one : ∀ {k : IntKind} {n : Int} {m y : Nat} {code : BoundsCode} {V : Value}, VRel f (.int k n) V → n = m → m ≤ y → (Instr.sliceBound V y code).run P w = .ok m w := by
    intro k n m y code V hV hn hm
    rw [VRel] at hV; subst hV; subst hn
    have : (m : Int) ≤ y := by omega
    simp [Instr.sliceBound, asIntOf, this]
  unfold boundsA at hb
  split at hb
  · rename_i h1 h2
    simp only [Option.some.injEq, Prod.mk.injEq] at hb
    obtain ⟨rfl, rfl⟩ := hb
    rw [Option.isSome_eq_false_iff, Option.isNone_iff_eq_none] at h1 h2
    subst h1; subst h2
    exact ⟨by simp [Instr.sliceBounds], Nat.zero_le _, Nat.le_refl _⟩
  · rename_i k a h1 h2
    rw [Option.isSome_iff_exists] at h1
    rw [Option.isSome_eq_false_iff, Option.isNone_iff_eq_none] at h2
    obtain ⟨x, rfl⟩ := h1
    subst h2
    split at hb
    · rename_i q hq
      simp only [Option.some.injEq, Prod.mk.injEq] at hb
      obtain ⟨rfl, rfl⟩ := hb
      obtain ⟨hq1, hq2⟩ := inB_spec hq
      obtain ⟨X, hX, hvX⟩ := rels1 hv
      simp at hX; subst hX
      exact ⟨by simp [Instr.sliceBounds, one hvX hq1 hq2], hq2, Nat.le_refl _⟩
    · cases hb
  · rename_i k a h1 h2
    rw [Option.isSome_iff_exists] at h2
    rw [Option.isSome_eq_false_iff, Option.isNone_iff_eq_none] at h1
    obtain ⟨x, rfl⟩ := h2
    subst h1
    split at hb
    · rename_i q hq
      simp only [Option.some.injEq, Prod.mk.injEq] at hb
      obtain ⟨rfl, rfl⟩ := hb
      obtain ⟨hq1, hq2⟩ := inB_spec hq
      obtain ⟨X, hX, hvX⟩ := rels1 hv
      simp at hX; subst hX
      exact ⟨by simp [Instr.sliceBounds, one hvX hq1 (Nat.le_trans hq2 hd)], Nat.zero_le _, hq2⟩
    · cases hb
  · rename_i k a k' b h1 h2
    rw [Option.isSome_iff_exists] at h1 h2
    obtain ⟨x, rfl⟩ := h1
    obtain ⟨y, rfl⟩ := h2
    split at hb
    · rename_i q hq
      obtain ⟨hq1, hq2⟩ := inB_spec hq
      split at hb
      · rename_i r hr
        obtain ⟨hr1, hr2⟩ := inB_spec hr
        simp only [Option.some.injEq, Prod.mk.injEq] at hb
        obtain ⟨rfl, rfl⟩ := hb
        obtain ⟨X, Y, hX, hvX, hvY⟩ := rels2 hv
        simp at hX
        obtain ⟨rfl, rfl⟩ := hX
        exact ⟨by simp [Instr.sliceBounds, one hvY hq1 (Nat.le_trans hq2 hd), one hvX hr1 hr2], hr2, hq2⟩
      · cases hb
    · cases hb
  · cases hb
theorem fine_slA (hm : MRel B f M w) {ty e : TypeId} {x : Operand} {lo hi : Option Operand} (ho : o.op = .slice ty x lo hi none) {n s : Nat} (hu : P.underlying ty = some (.array n e)) (hs : sizeT P e = some s) (h0 : 0 < s) {i off : Nat} (hr : VRel f (.ptr i off) (ρ x)) {bs : List AV} (hv : VRels f bs ((lo.toList ++ hi.toList).map ρ)) {l h : Nat} (hb : boundsA lo.isSome hi.isSome n bs = some (l, h)) :
    Fine P ρ o w B f M (.sl i (off + l * s) off (h - l) s (some (off + n * s))) M := by
  rw [VRel] at hr
  obtain ⟨z, hz, hr⟩ := hr
  obtain ⟨h1, h2, h3⟩ := bounds_run (P := P) (w := w) (isS := false) hb hv (Nat.le_refl n)
  refine Fine.same hm (V := .slice (some (if n = l then ⟨z.1, off, none⟩ else ⟨z.1, off + l * s, none⟩)) (h - l) (n - l)) ?_ ?_
  · simp only [execOp, ho, Instr.sliceAt, Option.map_none, Sem.run_bind, run_underlying hu, Result.andThen_ok, hr, Instr.sureAddr, Sem.run_pure, h1, run_sizeOf hs, addr_add]
  · rw [VRel]
    refine ⟨z, n - l, hz, h0, ?_, by omega, ?_⟩
    · simp only [Option.getD_some]
      rw [Nat.add_assoc, ← Nat.add_mul, show l + (n - l) = n by omega]
    · by_cases hnl : n = l
      · subst hnl; simp
      · rw [if_neg hnl, if_neg (by omega)]
theorem fine_slS (hm : MRel B f M w) {ty e : TypeId} {x : Operand} {lo hi : Option Operand} (ho : o.op = .slice ty x lo hi none) {s : Nat} (hu : P.underlying ty = some (.slice e)) (hs : sizeT P e = some s) {i off base len : Nat} {lim : Option Nat} (hr : VRel f (.sl i off base len s lim) (ρ x)) {bs : List AV} (hv : VRels f bs ((lo.toList ++ hi.toList).map ρ)) {l h : Nat} (hb : boundsA lo.isSome hi.isSome len bs = some (l, h)) :
    Fine P ρ o w B f M (.sl i (off + l * s) (bif Nat.beq l 0 then base else off) (h - l) s lim) M := by
  rw [VRel] at hr
  obtain ⟨z, cap, hz, h0, hcap, hlc, hr⟩ := hr
  obtain ⟨h1, h2, h3⟩ := bounds_run (P := P) (w := w) (isS := true) hb hv hlc
  refine Fine.same hm (V := .slice (some (if cap = l then ⟨z.1, if cap = 0 then base else off, none⟩ else ⟨z.1, (if cap = 0 then base else off) + l * s, none⟩)) (h - l) (cap - l)) ?_ ?_
  · simp only [execOp, ho, Instr.sliceAt, Instr.slice, Option.map_none, Sem.run_bind, run_underlying hu, Result.andThen_ok, hr, h1, run_sizeOf hs, Sem.run_pure]
    split <;> simp [addr_add]
  · rw [VRel]
    refine ⟨z, cap - l, hz, h0, ?_, by omega, ?_⟩
    · rw [← hcap, Nat.add_assoc, ← Nat.add_mul, show l + (cap - l) = cap by omega]
    · by_cases hl : l = 0
      · subst hl
        by_cases hc : cap = 0
        · subst hc; simp
        · simp [hc]
      · have : Nat.beq l 0 = false := by cases l with | zero => exact absurd rfl hl | succ _ => rfl
        have hc0 : cap ≠ 0 := by omega
        by_cases hcl : cap = l
        · rw [if_pos hcl, if_neg hc0, if_pos (show cap - l = 0 by omega), this]; simp
        · rw [if_neg hcl, if_neg hc0, if_neg (show ¬ cap - l = 0 by omega)]
theorem fine_slS3 (hm : MRel B f M w) {ty e : TypeId} {x hi mx : Operand} (ho : o.op = .slice ty x none (some hi) (some mx)) {s : Nat} (hu : P.underlying ty = some (.slice e)) (hs : sizeT P e = some s) {i off len : Nat} {lim : Option Nat} (hr : VRel f (.sl i off off len s lim) (ρ x)) {kh km : IntKind} {h m : Nat} (h1 : VRel f (.int kh h) (ρ hi)) (h2 : VRel f (.int km m) (ρ mx)) (hh : h ≤ m) (hml : m ≤ len) :
    Fine P ρ o w B f M (.sl i off off h s (some (off + m * s))) M := by
  rw [VRel] at hr
  obtain ⟨z, cap, hz, h0, hcap, hlc, hr⟩ := hr
  rw [VRel] at h1 h2
  have e1 : (m : Int) ≤ cap := by omega
  have e2 : (h : Int) ≤ m := by omega
  refine Fine.same hm (V := .slice (some ⟨z.1, off, none⟩) h m) ?_ ?_
  · simp only [execOp, ho, Instr.sliceAt, Instr.slice, Option.map_none, Option.map_some, Sem.run_bind, run_underlying hu, Result.andThen_ok, hr, h1, h2]
    simp [Instr.sliceBounds, Instr.sliceBound, asIntOf, e1, e2, run_sizeOf hs, addr_add]
    intro hlt
    exact absurd hlt (by omega)
  · rw [VRel]
    exact ⟨z, m, hz, h0, by simp, hh, by simp⟩
theorem fine_slNil (hm : MRel B f M w) {ty e : TypeId} {x : Operand} {lo hi : Option Operand} (ho : o.op = .slice ty x lo hi none) {s : Nat} (hu : P.underlying ty = some (.slice e)) (hs : sizeT P e = some s) (hr : VRel f .nilsl (ρ x)) {bs : List AV} (hv : VRels f bs ((lo.toList ++ hi.toList).map ρ)) {l h : Nat} (hb : boundsA lo.isSome hi.isSome 0 bs = some (l, h)) :
    Fine P ρ o w B f M .nilsl M := by
  rw [VRel] at hr
  obtain ⟨h1, h2, h3⟩ := bounds_run (P := P) (w := w) (isS := true) hb hv (Nat.le_refl 0)
  obtain rfl : h = 0 := by omega
  obtain rfl : l = 0 := by omega
  refine Fine.same hm (V := .slice none 0 0) ?_ (by rw [VRel])
  simp only [execOp, ho, Instr.sliceAt, Instr.slice, Option.map_none, Sem.run_bind, run_underlying hu, Result.andThen_ok, hr, h1, run_sizeOf hs, Sem.run_pure]
  simp
theorem fine_slStr (hm : MRel B f M w) {ty : TypeId} {x : Operand} {lo hi : Option Operand} (ho : o.op = .slice ty x lo hi none) (hu : P.underlying ty = some .string) {t : List UInt8} (hr : VRel f (.str t) (ρ x)) {bs : List AV} (hv : VRels f bs ((lo.toList ++ hi.toList).map ρ)) {l h : Nat} (hb : boundsA lo.isSome hi.isSome t.length bs = some (l, h)) :
    Fine P ρ o w B f M (.str ((t.take h).drop l)) M := by
  rw [VRel] at hr
  have hsz : (ByteArray.mk t.toArray).size = t.length := by simp [ByteArray.size]
  obtain ⟨h1, h2, h3⟩ := bounds_run (P := P) (w := w) (isS := false) hb hv (Nat.le_refl _)
  refine Fine.same hm (V := .string ((ByteArray.mk t.toArray).extract l h)) ?_ ?_
  · simp only [execOp, ho, Instr.sliceAt, Instr.slice, Option.map_none, Sem.run_bind, run_underlying hu, Result.andThen_ok, hr, hsz, Option.isSome_none, Bool.false_eq_true, if_false, h1, Sem.run_pure]
  · rw [VRel]
    congr 1
    apply ByteArray.ext
    apply Array.ext'
    simp [ByteArray.data_extract, List.drop_take]
end
end Go.Proofs.Ytnfglcfjjemjmaa
