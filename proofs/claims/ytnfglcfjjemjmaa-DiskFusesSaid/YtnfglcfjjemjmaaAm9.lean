/- Each operation of the small machine stands for what the program's operation does: copies, bytes of a string, two functions of math/bits. No condition. -/
import Derived.Test.YtnfglcfjjemjmaaAm8
import Derived.Lib.MakeNoZero
import Derived.KernelRfl
namespace Go.Proofs.Ytnfglcfjjemjmaa
open Go Go.RowKit

section
variable {P : Program} {B : Nat} {f : FM} {M M' : Mem} {w : World} {ρ : Operand → Value} {o : Oper} {v : AV}

theorem fine_copy (hm : MRel B f M w) {c : Call} (ho : o.op = .call c) (hc : c.callee = .builtin .copy) {t e : TypeId} {s : Nat} (ht : c.argTypes[0]? = some t) (hu : P.underlying t = some (.slice e)) (hs : sizeT P e = some s) (h0 : 0 < s) {d x : AV} {ft : Foot} (hv : VRels f [d, x] (c.args.toList.map ρ)) (h : copyA s M d x = some (v, M', ft)) : Fine P ρ o w B f M v M' := by
  obtain ⟨D, X, hA, hD, hX⟩ := call_args2 hv
  unfold copyA at h
  split at h
  · rename_i m i off base len e' lim hn
    have hlen := len_rel (P := P) (w := w) hn hX
    rw [VRel] at hD
    obtain ⟨z, cap, hz, _, hcap, hlc, rfl⟩ := hD
    simp only at h
    cases hn0 : Nat.beq (Nat.min m len) 0 with
    | true =>
      simp only [hn0, cond_true, made, Option.some.injEq, Prod.mk.injEq] at h
      obtain ⟨rfl, rfl, _⟩ := h
      have hn0 := Nat.eq_of_beq_eq_true hn0
      have hf : (Builtin.firstCells s 0 X).run P w = .ok #[] w := by
        cases x <;> simp only [lenA, reduceCtorEq] at hn <;> rw [VRel] at hX
        case sl => obtain ⟨_, _, _, _, _, _, rfl⟩ := hX; simp [Builtin.firstCells, loadCells, loadCellsFrom]
        case nilsl => subst hX; simp [Builtin.firstCells]
        case str => subst hX; simp [Builtin.firstCells]
      refine fine_builtin hm ho hc hA (V := .int .i64 0) ?_ (by rw [VRel])
      simp only [builtin, Builtin.copy_, ht, List.getElem?_toArray, List.getElem?_cons_zero, List.getElem?_cons_succ, Sem.run_bind, run_underlying hu, hlen, Result.andThen_ok, run_sizeOf hs, hn0, hf, storeCells, Sem.run_pure, goInt]
      rfl
    | false =>
      simp only [hn0, cond_false] at h
      cases hq : Nat.beq e' s with
      | false => simp [hq] at h
      | true =>
        simp only [hq, cond_true] at h
        obtain rfl := Nat.eq_of_beq_eq_true hq
        split at h
        · rename_i cc rs b hsrc hb
          split at h
          · rename_i c' hc'
            simp only [Option.some.injEq, Prod.mk.injEq] at h
            obtain ⟨rfl, rfl, _⟩ := h
            have hne : Nat.min m len ≠ 0 := fun h => by rw [h] at hn0; cases hn0
            have hcap0 : cap ≠ 0 := by
              have : Nat.min m len ≤ len := Nat.min_le_right _ _
              omega
            obtain ⟨C, c1, c2, c3, c4⟩ := src_run (P := P) hsrc hm hX h0
            have hCV : VRel f cc (.agg C) := agg_of_cells c2 c3
            obtain ⟨w', r1, r2, r3⟩ := run_store_part (P := P) hm hb hc' hz hCV
            refine fine_eff hm ho hc hA (V := .int .i64 (Nat.min m len : Nat)) ?_ (Sub.refl _) r2 (by rw [VRel]) r3 (.inl rfl)
            simp only [Value.cells] at r1
            simp only [builtin, Builtin.copy_, ht, List.getElem?_toArray, List.getElem?_cons_zero, List.getElem?_cons_succ, Sem.run_bind, run_underlying hu, hlen, Result.andThen_ok, run_sizeOf hs, c1, if_neg hcap0, r1, Sem.run_pure, goInt]
          · cases h
        · cases h
  · rename_i m hn
    have hlen := len_rel (P := P) (w := w) hn hX
    rw [VRel] at hD; subst hD
    simp only [made, Option.some.injEq, Prod.mk.injEq] at h
    obtain ⟨rfl, rfl, _⟩ := h
    have hf : (Builtin.firstCells s 0 X).run P w = .ok #[] w := by
      cases x <;> simp only [lenA, reduceCtorEq] at hn <;> rw [VRel] at hX
      case sl => obtain ⟨_, _, _, _, _, _, rfl⟩ := hX; simp [Builtin.firstCells, loadCells, loadCellsFrom]
      case nilsl => subst hX; simp [Builtin.firstCells]
      case str => subst hX; simp [Builtin.firstCells]
    have hmin : Nat.min m 0 = 0 := Nat.min_zero m
    refine fine_builtin hm ho hc hA (V := .int .i64 0) ?_ (by rw [VRel])
    simp only [builtin, Builtin.copy_, ht, List.getElem?_toArray, List.getElem?_cons_zero, List.getElem?_cons_succ, Sem.run_bind, run_underlying hu, hlen, Result.andThen_ok, run_sizeOf hs, hmin, hf, Sem.run_pure, goInt]
    rfl
  · cases h

/-- A block of which the cells behind its end are frozen. -/
theorem fine_s2b (hm : MRel B f M w) (hB : B ≤ w.heap.size) {s d e : TypeId} {x : Operand} (ho : o.op = .convert s d x) (hs : P.underlying s = some .string) (hd : P.underlying d = some (.slice e)) (he : P.underlying e = some (.int .u8)) {l : List UInt8} (hr : VRel f (.str l) (ρ x)) :
    Fine P ρ o w B f M (.sl M.length 0 0 l.length 1 none) (M ++ [⟨.nums .u8 (l.map fun b => (b.toNat : Int)), .grow, false⟩]) := by
  rw [VRel] at hr
  have hsz : (ByteArray.mk l.toArray).size = l.length := by simp [ByteArray.size]
  let cap : Nat := l.length + (w.tape w.drawn (.appendCap l.length 0 e)) % (2 ^ 63 - l.length)
  have hcap : l.length ≤ cap := Nat.le_add_right _ _
  let A : Array Value := ((ByteArray.mk l.toArray).data.map fun b => (Value.int .u8 b.toNat)) ++ Array.replicate (cap - l.length) (.int .u8 0)
  have hA : A.size = cap := by simp [A]; omega
  have hask : (choose (.appendCap l.length 0 e)).run P w = .ok cap w.drew := by rw [run_choose]; rfl
  have htake : A.toList.take l.length = (l.map fun b => (b.toNat : Int)).map (Value.int .u8) := by
    simp only [A, Array.toList_append]
    rw [List.take_append_of_le_length (by simp), List.take_of_length_le (by simp)]
    simp
  obtain ⟨m1, m2⟩ := hm.drew.alloc (c := .nums .u8 (l.map fun b => (b.toNat : Int))) (d := false) (kd := .grow) (by exact hB) (A := A) e (.inr rfl) rfl (by intro h; cases h) (by simp [AV.csize, hA]; exact hcap) (by
    simp only [AV.csize, List.length_map]
    rw [htake]; exact VRels.nums _ _)
  let w2 : World := (w.drew.alloc (.cells A e)).freeze ⟨w.heap.size, A.size, none⟩ 1
  have hw2 : ∀ k, k ≠ w.heap.size → w2.heap[k]? = (w.drew.alloc (.cells A e)).heap[k]? := by
    intro k hk
    simp only [w2, World.freeze]
    rw [if_neg (by decide), Array.getElem?_modify, if_neg (Ne.symm hk)]
  have hw2s : w2.heap.size = (w.drew.alloc (.cells A e)).heap.size := by simp [w2, World.freeze]
  have hnew : (w.drew.alloc (.cells A e)).heap[w.heap.size]? = some (.cells A e (0, 0)) := (MapKept.heap_alloc w.drew _).1
  have hnew2 : ∃ fz, w2.heap[w.heap.size]? = some (.cells A e fz) ∧ A.size ≤ fz.1 := by
    refine ⟨(A.size, A.size + 1), ?_, Nat.le_refl _⟩
    simp only [w2, World.freeze]
    rw [if_neg (by decide), Array.getElem?_modify, if_pos rfl, hnew]
    simp
  obtain ⟨fz, hfz1, hfz2⟩ := hnew2
  have m1' : MRel B (upd f M.length (w.heap.size, A.size)) (M ++ [⟨.nums .u8 (l.map fun b => (b.toNat : Int)), .grow, false⟩]) w2 := by
    refine ⟨m1.dom, m1.tot, ?_, m1.fresh, m1.inj⟩
    intro i b y hi hy
    by_cases hd : b.kind = .dead
    · exact .inl hd
    rcases getElem?_snoc hi with hi' | ⟨rfl, rfl⟩
    · have hb := m1.blk i b y hi hy
      refine hb.heap (hw2 _ ?_)
      have hy' : f i = some y := by
        rwa [upd_ne _ _ (Nat.ne_of_lt (lt_of_get hi'))] at hy
      exact Nat.ne_of_lt ((hm.blk i b y hi' hy').lt hd)
    · have hy' : y = (w.heap.size, A.size) := by
        have := new_get hm (w.heap.size, A.size)
        rw [hy] at this
        exact Option.some.inj this
      subst hy'
      refine .inr ⟨A, e, fz, hfz1, rfl, rfl, (by intro h; cases h), by simp [AV.csize, hA]; exact hcap, ?_, fun _ => .inr hfz2⟩
      simp only [AV.csize, List.length_map]
      rw [htake]; exact VRels.nums _ _
  have m2' : Went f M w (upd f M.length (w.heap.size, A.size)) (M ++ [⟨.nums .u8 (l.map fun b => (b.toNat : Int)), .grow, false⟩]) w2 := by
    have m3 := Went.drew.trans m2
    refine ⟨m3.os, m3.tape, m3.output, by rw [hw2s]; exact m3.size, fun b hb ho' => (hw2 b (Nat.ne_of_lt hb)).trans (m3.other b hb ho'), m3.own⟩
  refine ⟨.slice (some ⟨w.heap.size, 0, none⟩) l.length cap, w2, _, .inl ?_, upd_sub hm.none, m1', ?_, m2', .inr ⟨_, rfl⟩⟩
  · have hshape : ∀ w3 : World, w3.heap[w.heap.size]? = some (.cells A e (0, 0)) → w3.shape? w.heap.size = some (e, A.size) := fun w3 h => by simp [World.shape?, h]
    simp only [execOp, ho, hr, convert, Sem.run_bind, run_underlying hs, run_underlying hd, Result.andThen_ok, run_underlying he, Conv.stringToBytes, hsz, hask, newRow, run_newObj, markStringish, run_shape]
    rw [show ({ w.drew with heap := w.drew.heap.push (.cells A e) } : World) = w.drew.alloc (.cells A e) from rfl]
    rw [show w.drew.heap.size = w.heap.size from rfl]
    simp only [Sem.run_pure, Result.andThen_ok, hshape _ hnew]
    simp only [run_freeze, Result.andThen_ok, Sem.run_pure]
    rfl
  · rw [VRel]
    exact ⟨_, cap, new_get hm _, by decide, by simp [hA], hcap, by simp⟩

/-! ### A row of bytes marked as a string's -/
theorem fine_mark (hm : MRel B f M w) {d e : TypeId} {x : Operand} (ho : o.op = .convert d d x) (hd : P.underlying d = some (.slice e)) (he : P.underlying e = some (.int .u8)) {i off base len esz : Nat} {lim : Option Nat} {b : Blk} (hb : ownB M i = some b) (ha : b.cells.isAgg = true) (hr : VRel f (.sl i off base len esz lim) (ρ x)) : Fine P ρ o w B f M (.sl i off base len esz lim) (M.set i ⟨b.cells, b.kind, true⟩) := by
  have hr0 := hr
  rw [VRel] at hr
  obtain ⟨z, cap, hz, _, _, _, hX⟩ := hr
  obtain ⟨hl, hmine⟩ := own_live hb
  obtain ⟨y, A, t, fz, hi, hy, hw, hs, _, hown, hle, hcs, hfz, _⟩ := hm.live hl
  obtain rfl : z = y := by rw [hz] at hy; exact Option.some.inj hy
  have hfz := hfz hmine
  let w' : World := w.freeze ⟨z.1, A.size, none⟩ 1
  let fz' : Nat × Nat := if fz.1 == fz.2 then (A.size, A.size + 1) else (min fz.1 A.size, max fz.2 (A.size + 1))
  have hw' : w'.heap[z.1]? = some (.cells A t fz') := by
    simp only [w', fz', World.freeze]
    rw [if_neg (by decide), Array.getElem?_modify, if_pos rfl, hw]
    rfl
  have hlo : Loose fz' z.2 := by
    refine .inr ?_
    rw [← hs]
    simp only [fz']
    by_cases h1 : fz.1 == fz.2
    · rw [if_pos h1]; exact Nat.le_refl _
    · rw [if_neg h1]
      show A.size ≤ min fz.1 A.size
      rcases hfz with h2 | h2
      · exact absurd (by simp [h2]) h1
      · omega
  have key := hm.store (c := b.cells) (kd := b.kind) (w' := w') hi hz hmine rfl ha (fun hk => hown hk) hle hw' hs hcs hlo (fun k hk => by
    simp only [w', World.freeze]
    rw [if_neg (by decide), Array.getElem?_modify, if_neg (Ne.symm hk)]) (by simp [w', World.freeze]) (by simp only [w', World.freeze]; rw [if_neg (by decide)]) (by simp only [w', World.freeze]; rw [if_neg (by decide)]) (by simp only [w', World.freeze]; rw [if_neg (by decide)])
  refine ⟨ρ x, w', f, .inl ?_, Sub.refl _, key.1, hr0, key.2, .inl rfl⟩
  have hshape : w.shape? z.1 = some (t, A.size) := by simp [World.shape?, hw]
  simp only [execOp, ho, hX, convert, Sem.run_bind, run_underlying hd, Result.andThen_ok, run_underlying he, markStringish, run_shape, hshape, beq_self_eq_true, run_freeze, Sem.run_pure]
  rfl
/-! ### Floats -/
theorem ext_sqrt {fn : Func} (h1 : fn.name = "math.sqrt") (h2 : fn.origin = "") : Extern.findNext fn = none ∧ Extern.find fn = some Extern.MathSqrt.sqrt := by
  cases fn
  simp only at h1 h2
  subst h1; subst h2
  exact ⟨by kernel_rfl, by kernel_rfl⟩
theorem ext_f2b {fn : Func} (h1 : fn.name = "math.Float64bits") (h2 : fn.origin = "") : Extern.findNext fn = none ∧ Extern.find fn = some Extern.MathFloatBits.float64bits := by
  cases fn
  simp only at h1 h2
  subst h1; subst h2
  exact ⟨by kernel_rfl, by kernel_rfl⟩
theorem ext_b2f {fn : Func} (h1 : fn.name = "math.Float64frombits") (h2 : fn.origin = "") : Extern.findNext fn = none ∧ Extern.find fn = some Extern.MathFloatBits.float64frombits := by
  cases fn
  simp only at h1 h2
  subst h1; subst h2
  exact ⟨by kernel_rfl, by kernel_rfl⟩
theorem run_sqrt {b r : Nat} (h : FloatKind.f64.format.sqrt b = some r) : (Extern.MathSqrt.sqrt #[.float .f64 b]).run P w = .ok (.float .f64 r) w := by
  show (match FloatKind.f64.format.sqrt b with | some r => pure (.float .f64 r) | none => (do pure (.float .f64 (← choose (.nanBits .f64 b b))) : Sem Value) : Sem Value).run P w = _
  rw [h]; rfl
/-! ### MakeNoZero -/
theorem ext_mknz {fn : Func} (h1 : fn.name = "internal/bytealg.MakeNoZero") (h2 : fn.origin = "") : Extern.findNext fn = none ∧ Extern.find fn = some (Extern.BytealgMakeNoZero.makeNoZero fn.params fn.resultTypes) := by
  cases fn
  simp only at h1 h2
  subst h1; subst h2
  exact ⟨by kernel_rfl, by kernel_rfl⟩
theorem mknz_eq (ps rs : Array TypeId) {t : TypeId} (h : rs[0]? = some t) (n : Int) : Extern.BytealgMakeNoZero.makeNoZero ps rs #[.int .i64 n] = Extern.BytealgMakeNoZero.makeNoZero ps #[t] #[.int .i64 n] := by
  have hdef : ∀ rs : Array TypeId, Extern.BytealgMakeNoZero.makeNoZero ps rs #[.int .i64 n] = (fun o : Option TypeId => (do
      let some t := o | stuck "bytealg.MakeNoZero: no result type"
      let .slice elem ← underlying t | stuck "bytealg.MakeNoZero: slice type expected"
      if n < 0 || n > 2 ^ 48 then runtimePanic (.error "makeslice: len out of range")
      let cap ← choose (.appendCap n.toNat 0 elem)
      askRoom cap
      let bytes ← choose (.extern "internal/bytealg.MakeNoZero.bytes" 0)
      let a ← newRow elem (Extern.BytealgMakeNoZero.digits cap bytes #[])
      pure (.slice (some a) n.toNat cap) : Sem Value)) rs[0]? := fun _ => rfl
  rw [hdef, hdef, h]
  rfl
theorem junk_rels : ∀ {n : Nat} {L : List Value}, L.length = n → VRels f ((List.replicate n SV.junk).map SV.av) L
  | 0, [], _ => by simp [VRels]
  | n + 1, v :: L, h => by
    rw [List.replicate_succ, List.map_cons]
    exact VRels.cons (by simp [SV.av, VRel]) (junk_rels (by simpa using h))
theorem fine_mknz (hm : MRel B f M w) (hB : B ≤ w.heap.size) {c : Call} (ho : o.op = .call c) (hρ : ∀ g, ρ (.func g) = .func (.func g) #[] #[]) {g : FuncId} (hcal : c.callee = .value (.func g)) {fn : Func} (hfn : P.funcs[g]? = some fn) (hbody : fn.body = none) (hname : fn.name = "internal/bytealg.MakeNoZero") (horig : fn.origin = "") {t e : TypeId} (ht : fn.resultTypes[0]? = some t) (hu : P.underlying t = some (.slice e)) {n : Nat} (hn : n ≤ 68719476736) (hv : VRels f [.int .i64 n] (c.args.toList.map ρ)) : Fine P ρ o w B f M (.sl M.length 0 0 n 1 none) (M ++ [⟨.flat (List.replicate n .junk), .grow, false⟩]) := by
  obtain ⟨X, e1, e2⟩ := rels1 hv
  rw [VRel] at e2
  subst e2
  obtain ⟨h1, h2⟩ := ext_mknz hname horig
  obtain ⟨cs, hrun, hle, _⟩ := Lib.run_makeNoZero (P := P) w fn.params t e hu n (by omega)
  rw [← mknz_eq fn.params fn.resultTypes ht] at hrun
  have hargs : c.args.map ρ = #[.int .i64 n] := by apply Array.ext'; simp only [Array.toList_map]; rw [e1]
  have hsz : (AV.flat (List.replicate n .junk)).csize = n := by simp [AV.csize]
  obtain ⟨m1, m2⟩ := hm.drew.drew.alloc (d := false) (by exact hB) e (.inr rfl : BK.grow = .own ∨ BK.grow = .grow) (c := .flat (List.replicate n .junk)) rfl (by intro h; cases h) (by rw [hsz]; exact hle) (A := cs) (by rw [hsz]; exact junk_rels (by simp; omega))
  refine ⟨.slice (some ⟨w.heap.size, 0, none⟩) n cs.size, _, _, .inl ?_, upd_sub hm.none, m1, ?_, (Went.drew.trans Went.drew).trans m2, .inr ⟨_, rfl⟩⟩
  · simp only [execOp, ho, resolve, hcal, hargs, hρ, Deferred.ofValue, pure_bind, invoke]
    simp only [Array.empty_append, Array.append_empty]
    rw [run_callFunc_extern hfn (by rw [hname]; decide) (by simp [hbody]) h1 h2, hrun]
    rfl
  · rw [VRel]
    refine ⟨_, cs.size, new_get hm _, by omega, by simp, hle, ?_⟩
    split <;> rfl
/-! ### Add64, Sub64 -/
theorem ext_add {fn : Func} (h1 : fn.name = "math/bits.Add64") (h2 : fn.origin = "") : Extern.findNext fn = none ∧ Extern.find fn = some add64Entry := by
  cases fn
  simp only at h1 h2
  subst h1; subst h2
  exact ⟨by kernel_rfl, by kernel_rfl⟩
theorem ext_sub {fn : Func} (h1 : fn.name = "math/bits.Sub64") (h2 : fn.origin = "") : Extern.findNext fn = none ∧ Extern.find fn = some sub64Entry := by
  cases fn
  simp only at h1 h2
  subst h1; subst h2
  exact ⟨by kernel_rfl, by kernel_rfl⟩
theorem run_three (nm : String) (k1 k2 k3 : IntKind) (x y c : Int) (hc : c.toNat ≤ 1) : (Extern.MathBitsCarry.three nm #[.int k1 x, .int k2 y, .int k3 c]).run P w = .ok (x.toNat, y.toNat, c.toNat) w := by
  have h : ¬ (c.toNat > 1) := by omega
  show (if c.toNat > 1 then _ else _ : Sem _).run P w = _
  rw [if_neg h]
  rfl
theorem run_add_any (k1 k2 k3 : IntKind) (x y c : Int) (hc : c.toNat ≤ 1) : (add64Entry #[.int k1 x, .int k2 y, .int k3 c]).run P w = .ok (.tuple #[.int .u64 (((x.toNat + y.toNat + c.toNat) % 18446744073709551616 : Nat) : Int), .int .u64 (((x.toNat + y.toNat + c.toNat) / 18446744073709551616 : Nat) : Int)]) w := by
  simp only [add64Entry, Sem.run_bind, run_three _ k1 k2 k3 x y c hc, Result.andThen_ok]
  rfl
theorem run_sub_any (k1 k2 k3 : IntKind) (x y c : Int) (hc : c.toNat ≤ 1) : (sub64Entry #[.int k1 x, .int k2 y, .int k3 c]).run P w = .ok (.tuple #[.int .u64 (((x.toNat + 18446744073709551616 - y.toNat - c.toNat) % 18446744073709551616 : Nat) : Int), .int .u64 ((if x.toNat < y.toNat + c.toNat then 1 else 0 : Nat) : Int)]) w := by
  simp only [sub64Entry, Sem.run_bind, run_three _ k1 k2 k3 x y c hc, Result.andThen_ok]
  rfl
end
end Go.Proofs.Ytnfglcfjjemjmaa
