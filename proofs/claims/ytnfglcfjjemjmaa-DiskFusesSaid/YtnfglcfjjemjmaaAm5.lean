/- Each operation of the small machine stands for what the program's operation does: numbers, strings, comparisons, parts put together, slices. No condition. -/
import Derived.Test.YtnfglcfjjemjmaaAm4
namespace Go.Proofs.Ytnfglcfjjemjmaa
open Go Go.RowKit

section
variable {P : Program} {B : Nat} {f : FM} {M M' : Mem} {w : World} {ρ : Operand → Value} {o : Oper} {v : AV}

theorem fine_mov (hm : MRel B f M w) {x : Operand} (ho : o.op = .move x ∨ o.op = .assign x) (hr : VRel f v (ρ x)) : Fine P ρ o w B f M v M :=
  Fine.same hm (V := ρ x) (by rcases ho with ho | ho <;> simp [execOp, ho]) hr
theorem fine_pick (hm : MRel B f M w) {c x y : Operand} (ho : o.op = .pick c x y) {b : Bool} {u1 u2 : AV} (hc : VRel f (.bool b) (ρ c)) (h1 : VRel f u1 (ρ x)) (h2 : VRel f u2 (ρ y)) : Fine P ρ o w B f M (bif b then u1 else u2) M := by
  rw [VRel] at hc
  refine Fine.same hm (V := if b then ρ x else ρ y) (by simp [execOp, ho, hc, asBool]) ?_
  cases b <;> simpa

/-! ### Numbers -/
theorem bits_run {op : BinOp} {k : IntKind} {x y : Int} (h : bitsA op k x y = some v) : ∃ V, (Op.intBits op k x y).run P w = .ok V w ∧ VRel f v V := by
  unfold bitsA at h
  split at h <;> first
    | cases h; done
    | (simp only [Option.some.injEq] at h; subst h; exact ⟨_, by simp only [Op.intBits, Sem.run_pure]; rfl, by rw [VRel]⟩)
theorem int_run {op : BinOp} {k : IntKind} {x y : Int} {ty : TypeId} (hs : isShift op = false) (h : intBin op k x y = some v) : ∃ V, (binOp op ty (.int k x) (.int k y)).run P w = .ok V w ∧ VRel f v V := by
  cases op <;> simp only [isShift, Bool.true_eq_false] at hs <;> simp only [intBin, Option.some.injEq] at h
  case add | sub | mul => subst h; exact ⟨_, by simp [binOp, Op.intArith]; rfl, by rw [VRel]⟩
  case quo | rem =>
    split at h
    · cases h
    · rename_i hy
      simp only [Option.some.injEq] at h; subst h
      exact ⟨_, by simp [binOp, Op.intDiv, hy]; rfl, by rw [VRel]⟩
  case eql | neq | lss | leq | gtr | geq => subst h; exact ⟨_, by simp [binOp, Op.intCmp]; rfl, by rw [VRel]⟩
  case and | or | xor | andNot =>
    obtain ⟨V, h1, h2⟩ := bits_run (P := P) (w := w) (f := f) h
    exact ⟨V, by simpa [binOp] using h1, h2⟩
  all_goals cases h
theorem shift_run {op : BinOp} {k k' : IntKind} {x y : Int} {ty : TypeId} (h : shiftA op k x y = some v) : ∃ V, (binOp op ty (.int k x) (.int k' y)).run P w = .ok V w ∧ VRel f v V := by
  unfold shiftA at h
  split at h
  · cases h
  · rename_i m
    have hn : ¬ ((Int.ofNat m : Int) < 0) := by simp
    have ht : (Int.ofNat m).toNat = m := rfl
    split at h
    · simp only [Option.some.injEq] at h; subst h
      exact ⟨_, by simp only [binOp, Op.shift, hn, if_false, ht]; rfl, by rw [VRel]⟩
    · simp only [Option.some.injEq] at h; subst h
      exact ⟨_, by simp only [binOp, Op.shift, hn, if_false, ht]; rfl, by rw [VRel]⟩
    · cases h
theorem eqGuard_int (op : BinOp) (t : TypeId) (x y : Operand) (k k' : IntKind) (a b : Int) : (eqGuard op t x y (.int k a) (.int k' b)).run P w = .ok () w := by
  cases op <;> simp [eqGuard]
theorem eqGuard_str (op : BinOp) (t : TypeId) (x y : Operand) (a b : ByteArray) : (eqGuard op t x y (.string a) (.string b)).run P w = .ok () w := by
  cases op <;> simp [eqGuard]
theorem toList_mk (s : List UInt8) : (ByteArray.mk s.toArray).toList = s := by rw [ByteArray.toList_eq]
theorem append_mk (s t : List UInt8) : (ByteArray.mk s.toArray) ++ (ByteArray.mk t.toArray) = ByteArray.mk (s ++ t).toArray := by
  apply ByteArray.ext
  simp [ByteArray.data_append]
theorem str_run {op : BinOp} {s t : List UInt8} {ty : TypeId} (h : binA op [.str s, .str t] = some v) : ∃ V, (binOp op ty (.string ⟨s.toArray⟩) (.string ⟨t.toArray⟩)).run P w = .ok V w ∧ VRel f v V := by
  have hsz : (ByteArray.mk s.toArray).size = s.length := by simp [ByteArray.size]
  have hsz' : (ByteArray.mk t.toArray).size = t.length := by simp [ByteArray.size]
  cases op <;> simp only [binA] at h <;> try cases h
  case add =>
    cases hl : Nat.ble (s.length + t.length) 9223372036854775807 with
    | false => simp [hl] at h
    | true =>
    simp only [hl, cond_true, Option.some.injEq] at h; subst h
    have hl : s.length + t.length ≤ 9223372036854775807 := by simpa using hl
    have hmx : IntKind.i64.max = 9223372036854775807 := by decide
    refine ⟨.string ⟨(s ++ t).toArray⟩, ?_, by rw [VRel]⟩
    simp only [binOp, Op.stringOp, hsz, hsz']
    rw [if_neg (by rw [hmx]; omega), append_mk]; rfl
  case eql => exact ⟨.bool (s == t), by simp only [binOp, Op.stringOp, toList_mk]; rfl, by rw [VRel]⟩
  case neq => exact ⟨.bool (!(s == t)), by simp only [binOp, Op.stringOp, toList_mk]; rfl, by rw [VRel]⟩
/-! ### Comparisons -/
theorem run_part_int {e : TypeId} {kk k : IntKind} {A : Array Value} {i : Nat} {z : Value} (he : P.underlying e = some (.int kk)) (hz : A[i]? = some z) : (part e A i).run P w = .ok z w := by
  simp [part, run_isAgg he, isAggD, hz]
theorem run_equal_nums (d : Nat) {t e : TypeId} {len : Nat} {k kk : IntKind} (hu : P.underlying t = some (.array len e)) (he : P.underlying e = some (.int kk)) (hs : sizeT P e = some 1) (l l' : List Int) (h1 : l.length = len) (h2 : l'.length = len) :
    (Op.equalIn (d + 2) t (.agg (l.map (Value.int k)).toArray) (.agg (l'.map (Value.int k)).toArray)).run P w = .ok (l == l') w := by
  have key : ∀ (m j : Nat), j + m = len → ∀ w, (forIn (m := Sem) (List.range' j m 1) ((none, PUnit.unit) : Option Bool × PUnit) (fun i r => do
      let a ← part e (l.map (Value.int k)).toArray (i * 1)
      let b ← part e (l'.map (Value.int k)).toArray (i * 1)
      let q ← Op.equalIn (d + 1) e a b
      if (!q) = true then pure (ForInStep.done (some false, PUnit.unit)) else pure (ForInStep.yield (none, PUnit.unit)))).run P w = .ok (if l.drop j == l'.drop j then (none, PUnit.unit) else (some false, PUnit.unit)) w := by
    intro m
    induction m with
    | zero => intro j hj w; rw [List.drop_of_length_le (by omega), List.drop_of_length_le (by omega)]; simp
    | succ m ih =>
      intro j hj w
      have hj1 : j < l.length := by omega
      have hj2 : j < l'.length := by omega
      have e1 : (List.drop j l == List.drop j l') = (l[j] == l'[j] && (List.drop (j + 1) l == List.drop (j + 1) l')) := by
        rw [List.drop_eq_getElem_cons hj1, List.drop_eq_getElem_cons hj2]; rfl
      rw [e1]
      simp only [List.range'_succ, List.forIn_cons, Sem.run_bind, Nat.mul_one]
      rw [run_part_int (k := k) he (z := .int k l[j]) (by simp [hj1]), Result.andThen_ok, run_part_int (k := k) he (z := .int k l'[j]) (by simp [hj2])]
      simp only [Result.andThen_ok, run_equalIn_int _ _ _ _ _ _ _ he]
      by_cases hq : l[j] = l'[j]
      · simp only [hq, beq_self_eq_true, Bool.not_true, Bool.false_eq_true, if_false, Sem.run_pure, Result.andThen_ok]
        have := ih (j + 1) (by omega) w
        simp only [Nat.mul_one] at this
        rw [this]; simp only [Bool.true_and]
      · have : (l[j] == l'[j]) = false := by simpa using hq
        simp only [this, Bool.not_false, if_true, Sem.run_pure, Result.andThen_ok, Bool.false_and, Bool.false_eq_true, if_false]
  rw [Op.equalIn]
  simp only [Sem.run_bind, run_underlying hu, Result.andThen_ok, run_sizeOf hs]
  rw [Std.Legacy.Range.forIn_eq_forIn_range']
  simp only [Std.Legacy.Range.size, Nat.sub_zero, Nat.add_sub_cancel, Nat.div_one]
  rw [key len 0 (by omega) w]
  simp only [Result.andThen_ok, List.drop_zero]
  cases l == l' <;> simp

theorem flt_run {op : BinOp} {x y : Nat} {ty : TypeId} (h : fltBin op x y = some v) : ∃ V, (binOp op ty (.float .f64 x) (.float .f64 y)).run P w = .ok V w ∧ VRel f v V := by
  have key : ∀ r : Option Nat, fltO r = some v → ∃ n, r = some n ∧ v = .flt n := fun r hr => by
    cases r with
    | none => cases hr
    | some n => exact ⟨n, rfl, (Option.some.inj hr).symm⟩
  cases op <;> simp only [fltBin] at h
  case add | sub | mul | quo =>
    obtain ⟨n, h1, rfl⟩ := key _ h
    exact ⟨.float .f64 n, by simp [binOp, Op.floatArith, FloatKind.format, h1], by rw [VRel]⟩
  case eql | neq | lss | leq | gtr | geq =>
    simp only [Option.some.injEq] at h; subst h
    exact ⟨_, by simp only [binOp, Op.floatCmp, FloatKind.format, ne_eq, not_true_eq_false, if_false]; rfl, by rw [VRel]⟩
  all_goals cases h
theorem eqGuard_flt (op : BinOp) (t : TypeId) (x y : Operand) (a b : Nat) : (eqGuard op t x y (.float .f64 a) (.float .f64 b)).run P w = .ok () w := by
  cases op <;> simp [eqGuard]
theorem fine_bin (hm : MRel B f M w) {op : BinOp} {ty yt : TypeId} {x y : Operand} (ho : o.op = .binOp op ty x y yt) {vs : List AV} (hv : VRels f vs [ρ x, ρ y]) (hb : binA op vs = some v) : Fine P ρ o w B f M v M := by
  unfold binA at hb
  split at hb
  · rename_i k a k' b
    obtain ⟨A, B', he, hA, hB'⟩ := rels2 hv
    obtain ⟨rfl, h2⟩ := List.cons.inj he
    obtain ⟨rfl, _⟩ := List.cons.inj h2
    rw [VRel] at hA
    rw [VRel] at hB'
    have go : (∃ V, (binOp op ty (.int k a) (.int k' b)).run P w = .ok V w ∧ VRel f v V) → Fine P ρ o w B f M v M := fun ⟨V, h1, h2⟩ => Fine.same hm (by simp [execOp, ho, hA, hB', eqGuard_int, h1]) h2
    cases hs : isShift op with
    | true => rw [hs, cond_true] at hb; exact go (shift_run hb)
    | false =>
      rw [hs, cond_false] at hb
      split at hb
      · rename_i hk; subst hk; exact go (int_run hs hb)
      · cases hb
  · rename_i s t
    obtain ⟨A, B', he, hA, hB'⟩ := rels2 hv
    obtain ⟨rfl, h2⟩ := List.cons.inj he
    obtain ⟨rfl, _⟩ := List.cons.inj h2
    rw [VRel] at hA
    rw [VRel] at hB'
    obtain ⟨V, h1, h2⟩ := str_run (P := P) (w := w) (f := f) (ty := ty) (v := v) (op := op) (s := s) (t := t) (by unfold binA; exact hb)
    exact Fine.same hm (by simp [execOp, ho, hA, hB', eqGuard_str, h1]) h2
  · rename_i s t
    obtain ⟨A, B', he, hA, hB'⟩ := rels2 hv
    obtain ⟨rfl, h2⟩ := List.cons.inj he
    obtain ⟨rfl, _⟩ := List.cons.inj h2
    rw [VRel] at hA
    rw [VRel] at hB'
    obtain ⟨V, h1, h2⟩ := flt_run (P := P) (w := w) (f := f) (ty := ty) hb
    exact Fine.same hm (by simp [execOp, ho, hA, hB', eqGuard_flt, h1]) h2
  · cases hb
theorem guardType_array {t e : TypeId} {len : Nat} {kk : IntKind} (hu : P.underlying t = some (.array len e)) (he : P.underlying e = some (.int kk)) : P.eqGuardType P.depth t = false := by
  have : P.depth = (2 * (P.types.size + Made.depth) + 0) + 2 := rfl
  rw [this, Program.eqGuardType, hu]
  simp only
  rw [Program.eqGuardType, he]
theorem eqShape_cells {t : TypeId} {n : Nat} (h : eqShape P t = some (.cells n)) : ∃ e kk, P.underlying t = some (.array n e) ∧ P.underlying e = some (.int kk) ∧ sizeT P e = some 1 := by
  unfold eqShape at h
  split at h <;> first | (cases h; done) | skip
  rename_i m e hu
  split at h
  · rename_i kk s he hs
    cases hq : Nat.beq s 1 with
    | false => simp [hq] at h
    | true =>
      simp only [hq, cond_true, Option.some.injEq, EqS.cells.injEq] at h
      subst h
      obtain rfl : s = 1 := Nat.eq_of_beq_eq_true hq
      exact ⟨e, kk, hu, he, hs⟩
  · cases h
theorem isEq_spec {op : BinOp} {neg : Bool} (h : isEq op = some neg) : (op = .eql ∧ neg = false) ∨ (op = .neq ∧ neg = true) := by
  cases op <;> simp [isEq] at h <;> simp [h]
theorem eq_bool (n0 : Nat) {t : TypeId} (hu : P.underlying t = some .bool) (a b : Bool) : (Op.equalIn (n0 + 1) t (.bool a) (.bool b)).run P w = .ok (a == b) w := by
  simp only [Op.equalIn, Sem.run_bind, run_underlying hu, Result.andThen_ok, Sem.run_pure]
theorem eq_ptr (n0 : Nat) {t e : TypeId} (hu : P.underlying t = some (.pointer e)) (a : Option Addr) : (Op.equalIn (n0 + 1) t (.pointer none) (.pointer a)).run P w = .ok a.isNone w := by
  simp only [Op.equalIn, Sem.run_bind, run_underlying hu, Result.andThen_ok, Sem.run_pure]
theorem eq_ptr' (n0 : Nat) {t e : TypeId} (hu : P.underlying t = some (.pointer e)) (a : Addr) : (Op.equalIn (n0 + 1) t (.pointer (some a)) (.pointer none)).run P w = .ok false w := by
  simp only [Op.equalIn, Sem.run_bind, run_underlying hu, Result.andThen_ok, Sem.run_pure]
theorem eq_sl (n0 : Nat) {t e : TypeId} (hu : P.underlying t = some (.slice e)) (a : Option Addr) (n c : Nat) : (Op.equalIn (n0 + 1) t (.slice none 0 0) (.slice a n c)).run P w = .ok a.isNone w := by
  simp only [Op.equalIn, Sem.run_bind, run_underlying hu, Result.andThen_ok, Sem.run_pure]
theorem eq_sl' (n0 : Nat) {t e : TypeId} (hu : P.underlying t = some (.slice e)) (a : Addr) (n c : Nat) : (Op.equalIn (n0 + 1) t (.slice (some a) n c) (.slice none 0 0)).run P w = .ok false w := by
  simp only [Op.equalIn, Sem.run_bind, run_underlying hu, Result.andThen_ok, Sem.run_pure]
theorem eq_fn0 (n0 : Nat) {t : TypeId} {a b : Array TypeId} {c : Bool} (hu : P.underlying t = some (.func a b c)) : (Op.equalIn (n0 + 1) t .nilFunc .nilFunc).run P w = .ok true w := by
  simp only [Op.equalIn, Sem.run_bind, run_underlying hu, Result.andThen_ok, Sem.run_pure]
theorem eq_fn1 (n0 : Nat) {t : TypeId} {a b : Array TypeId} {c : Bool} (hu : P.underlying t = some (.func a b c)) (g : Fn) (A D : Array Value) : (Op.equalIn (n0 + 1) t .nilFunc (.func g A D)).run P w = .ok false w := by
  simp only [Op.equalIn, Sem.run_bind, run_underlying hu, Result.andThen_ok, Sem.run_pure]
theorem eq_fn2 (n0 : Nat) {t : TypeId} {a b : Array TypeId} {c : Bool} (hu : P.underlying t = some (.func a b c)) (g : Fn) (A D : Array Value) : (Op.equalIn (n0 + 1) t (.func g A D) .nilFunc).run P w = .ok false w := by
  simp only [Op.equalIn, Sem.run_bind, run_underlying hu, Result.andThen_ok, Sem.run_pure]
def valShape : AV → Value → Prop
  | .bool b, V => V = .bool b
  | .nilp, V => V = .pointer none
  | .ptr _ _, V => ∃ a, V = .pointer (some a)
  | .nilsl, V => V = .slice none 0 0
  | .sl .., V => ∃ a n c, V = .slice (some a) n c
  | .nilfn, V => V = .nilFunc
  | .fn .., V => ∃ g A D, V = .func g A D
  | _, _ => True
theorem val_shape {v : AV} {V : Value} (h : VRel f v V) : valShape v V := by
  cases v <;> rw [VRel] at h <;> first | exact h | trivial | skip
  case ptr => obtain ⟨x, _, h⟩ := h; exact ⟨_, h⟩
  case sl => obtain ⟨x, c, _, _, _, _, h⟩ := h; exact ⟨_, _, _, h⟩
  case fn => obtain ⟨A, D, h, _, _⟩ := h; exact ⟨_, _, _, h⟩
def shapeSpec (P : Program) (t : TypeId) : EqS → Prop
  | .bool => P.underlying t = some .bool
  | .ptr => ∃ e, P.underlying t = some (.pointer e)
  | .slice => ∃ e, P.underlying t = some (.slice e)
  | .func => ∃ a b c, P.underlying t = some (.func a b c)
  | .cells _ => True
theorem eqShape_spec {t : TypeId} {s : EqS} (h : eqShape P t = some s) : shapeSpec P t s := by
  unfold eqShape at h
  split at h
  case h_1 h' => simp only [Option.some.injEq] at h; subst h; exact h'
  case h_2 h' => simp only [Option.some.injEq] at h; subst h; exact ⟨_, h'⟩
  case h_3 h' => simp only [Option.some.injEq] at h; subst h; exact ⟨_, h'⟩
  case h_4 h' => simp only [Option.some.injEq] at h; subst h; exact ⟨_, _, _, h'⟩
  case h_5 =>
    split at h
    · rename_i sz _ _
      cases hq : Nat.beq sz 1 <;> simp only [hq, cond_true, cond_false, Option.some.injEq, reduceCtorEq] at h
      subst h; trivial
    · cases h
  case h_6 => cases h
theorem fine_eqv (hm : MRel B f M w) {op : BinOp} {ty yt : TypeId} {x y : Operand} (ho : o.op = .binOp op ty x y yt) {neg : Bool} (hn : isEq op = some neg) {s : EqS} (hs : eqShape P ty = some s) {vs : List AV} (hv : VRels f vs [ρ x, ρ y]) {b : Bool} (hb : eqA s vs = some b) :
    Fine P ρ o w B f M (.bool (bif neg then !b else b)) M := by
  have go : (∀ X Y, ρ x = X → ρ y = Y → (eqGuard op ty x y X Y).run P w = .ok () w ∧ (binOp op ty X Y).run P w = ((Op.equal ty X Y).run P w).andThen (fun q w' => .ok (.bool (bif neg then !q else q)) w') ∧ (Op.equal ty X Y).run P w = .ok b w) → Fine P ρ o w B f M (.bool (bif neg then !b else b)) M := fun h => by
    obtain ⟨h1, h2, h3⟩ := h _ _ rfl rfl
    exact Fine.same hm (V := .bool (bif neg then !b else b)) (by simp [execOp, ho, h1, h2, h3]) (by rw [VRel])
  have hop := isEq_spec hn
  unfold eqA at hb
  split at hb
  case h_1 k l k' l' =>
    obtain ⟨A, B', he, hA, hB'⟩ := rels2 hv
    obtain ⟨rfl, h2⟩ := List.cons.inj he
    obtain ⟨rfl, _⟩ := List.cons.inj h2
    rw [VRel] at hA
    rw [VRel] at hB'
    split at hb
    · rename_i n
      split at hb
      · rename_i hk; subst hk
        obtain ⟨e, kk, hu, he, hsz⟩ := eqShape_cells hs
        cases hq : (Nat.beq l.length n && Nat.beq l'.length n) with
        | false => simp [hq] at hb
        | true =>
          simp only [hq, cond_true, Option.some.injEq] at hb
          subst hb
          simp only [Bool.and_eq_true] at hq
          refine go fun X Y hX hY => ?_
          rw [← hX, ← hY, hA, hB']
          refine ⟨run_eqGuard_agg w _ _ _ _ _ _ (guardType_array hu he), ?_, run_equal_nums 9998 hu he hsz l l' (Nat.eq_of_beq_eq_true hq.1) (Nat.eq_of_beq_eq_true hq.2)⟩
          rcases hop with ⟨rfl, rfl⟩ | ⟨rfl, rfl⟩
          · exact run_eql_struct w _ _ _
          · exact run_neq_struct w _ _ _
      · cases hb
    · cases hb
  case h_12 => cases hb
  case h_2 =>
    obtain ⟨A, B', he, hA, hB'⟩ := rels2 hv
    obtain ⟨rfl, h2⟩ := List.cons.inj he
    obtain ⟨rfl, _⟩ := List.cons.inj h2
    clear h2 he
    split at hb <;> first | (cases hb; done) | skip
    simp only [Option.some.injEq] at hb
    have hu := eqShape_spec hs
    simp only [shapeSpec] at hu
    refine go fun X Y hX hY => ?_
    rw [← hX, ← hY]
    have hA' := val_shape hA
    have hB'' := val_shape hB'
    simp only [valShape] at hA' hB''
    subst hb
    rw [hA', hB'']
    rcases hop with ⟨rfl, rfl⟩ | ⟨rfl, rfl⟩ <;> exact ⟨rfl, by first | exact Sem.run_bind P w _ _ | exact (Sem.run_bind' P _ _ w), eq_bool 9999 hu _ _⟩
  case h_3 =>
    obtain ⟨A, B', he, hA, hB'⟩ := rels2 hv
    obtain ⟨rfl, h2⟩ := List.cons.inj he
    obtain ⟨rfl, _⟩ := List.cons.inj h2
    clear h2 he
    split at hb <;> first | (cases hb; done) | skip
    simp only [Option.some.injEq] at hb
    have hu := eqShape_spec hs
    simp only [shapeSpec] at hu
    refine go fun X Y hX hY => ?_
    rw [← hX, ← hY]
    have hA' := val_shape hA
    have hB'' := val_shape hB'
    simp only [valShape] at hA' hB''
    subst hb
    obtain ⟨e, hu⟩ := hu
    rw [hA', hB'']
    rcases hop with ⟨rfl, rfl⟩ | ⟨rfl, rfl⟩ <;> exact ⟨rfl, by first | exact Sem.run_bind P w _ _ | exact (Sem.run_bind' P _ _ w), eq_ptr 9999 hu _⟩
  case h_4 =>
    obtain ⟨A, B', he, hA, hB'⟩ := rels2 hv
    obtain ⟨rfl, h2⟩ := List.cons.inj he
    obtain ⟨rfl, _⟩ := List.cons.inj h2
    clear h2 he
    split at hb <;> first | (cases hb; done) | skip
    simp only [Option.some.injEq] at hb
    have hu := eqShape_spec hs
    simp only [shapeSpec] at hu
    refine go fun X Y hX hY => ?_
    rw [← hX, ← hY]
    have hA' := val_shape hA
    have hB'' := val_shape hB'
    simp only [valShape] at hA' hB''
    subst hb
    obtain ⟨e, hu⟩ := hu
    obtain ⟨_, hB''⟩ := hB''
    rw [hA', hB'']
    rcases hop with ⟨rfl, rfl⟩ | ⟨rfl, rfl⟩ <;> exact ⟨rfl, by first | exact Sem.run_bind P w _ _ | exact (Sem.run_bind' P _ _ w), eq_ptr 9999 hu _⟩
  case h_5 =>
    obtain ⟨A, B', he, hA, hB'⟩ := rels2 hv
    obtain ⟨rfl, h2⟩ := List.cons.inj he
    obtain ⟨rfl, _⟩ := List.cons.inj h2
    clear h2 he
    split at hb <;> first | (cases hb; done) | skip
    simp only [Option.some.injEq] at hb
    have hu := eqShape_spec hs
    simp only [shapeSpec] at hu
    refine go fun X Y hX hY => ?_
    rw [← hX, ← hY]
    have hA' := val_shape hA
    have hB'' := val_shape hB'
    simp only [valShape] at hA' hB''
    subst hb
    obtain ⟨e, hu⟩ := hu
    obtain ⟨_, hA'⟩ := hA'
    rw [hA', hB'']
    rcases hop with ⟨rfl, rfl⟩ | ⟨rfl, rfl⟩ <;> exact ⟨rfl, by first | exact Sem.run_bind P w _ _ | exact (Sem.run_bind' P _ _ w), eq_ptr' 9999 hu _⟩
  case h_6 =>
    obtain ⟨A, B', he, hA, hB'⟩ := rels2 hv
    obtain ⟨rfl, h2⟩ := List.cons.inj he
    obtain ⟨rfl, _⟩ := List.cons.inj h2
    clear h2 he
    split at hb <;> first | (cases hb; done) | skip
    simp only [Option.some.injEq] at hb
    have hu := eqShape_spec hs
    simp only [shapeSpec] at hu
    refine go fun X Y hX hY => ?_
    rw [← hX, ← hY]
    have hA' := val_shape hA
    have hB'' := val_shape hB'
    simp only [valShape] at hA' hB''
    subst hb
    obtain ⟨e, hu⟩ := hu
    rw [hA', hB'']
    rcases hop with ⟨rfl, rfl⟩ | ⟨rfl, rfl⟩ <;> exact ⟨rfl, by first | exact Sem.run_bind P w _ _ | exact (Sem.run_bind' P _ _ w), eq_sl 9999 hu _ _ _⟩
  case h_7 =>
    obtain ⟨A, B', he, hA, hB'⟩ := rels2 hv
    obtain ⟨rfl, h2⟩ := List.cons.inj he
    obtain ⟨rfl, _⟩ := List.cons.inj h2
    clear h2 he
    split at hb <;> first | (cases hb; done) | skip
    simp only [Option.some.injEq] at hb
    have hu := eqShape_spec hs
    simp only [shapeSpec] at hu
    refine go fun X Y hX hY => ?_
    rw [← hX, ← hY]
    have hA' := val_shape hA
    have hB'' := val_shape hB'
    simp only [valShape] at hA' hB''
    subst hb
    obtain ⟨e, hu⟩ := hu
    obtain ⟨_, _, _, hB''⟩ := hB''
    rw [hA', hB'']
    rcases hop with ⟨rfl, rfl⟩ | ⟨rfl, rfl⟩ <;> exact ⟨rfl, by first | exact Sem.run_bind P w _ _ | exact (Sem.run_bind' P _ _ w), eq_sl 9999 hu _ _ _⟩
  case h_8 =>
    obtain ⟨A, B', he, hA, hB'⟩ := rels2 hv
    obtain ⟨rfl, h2⟩ := List.cons.inj he
    obtain ⟨rfl, _⟩ := List.cons.inj h2
    clear h2 he
    split at hb <;> first | (cases hb; done) | skip
    simp only [Option.some.injEq] at hb
    have hu := eqShape_spec hs
    simp only [shapeSpec] at hu
    refine go fun X Y hX hY => ?_
    rw [← hX, ← hY]
    have hA' := val_shape hA
    have hB'' := val_shape hB'
    simp only [valShape] at hA' hB''
    subst hb
    obtain ⟨e, hu⟩ := hu
    obtain ⟨_, _, _, hA'⟩ := hA'
    rw [hA', hB'']
    rcases hop with ⟨rfl, rfl⟩ | ⟨rfl, rfl⟩ <;> exact ⟨rfl, by first | exact Sem.run_bind P w _ _ | exact (Sem.run_bind' P _ _ w), eq_sl' 9999 hu _ _ _⟩
  case h_9 =>
    obtain ⟨A, B', he, hA, hB'⟩ := rels2 hv
    obtain ⟨rfl, h2⟩ := List.cons.inj he
    obtain ⟨rfl, _⟩ := List.cons.inj h2
    clear h2 he
    split at hb <;> first | (cases hb; done) | skip
    simp only [Option.some.injEq] at hb
    have hu := eqShape_spec hs
    simp only [shapeSpec] at hu
    refine go fun X Y hX hY => ?_
    rw [← hX, ← hY]
    have hA' := val_shape hA
    have hB'' := val_shape hB'
    simp only [valShape] at hA' hB''
    subst hb
    obtain ⟨e1, e2, e3, hu⟩ := hu
    rw [hA', hB'']
    rcases hop with ⟨rfl, rfl⟩ | ⟨rfl, rfl⟩ <;> exact ⟨rfl, by first | exact Sem.run_bind P w _ _ | exact (Sem.run_bind' P _ _ w), eq_fn0 9999 hu⟩
  case h_10 =>
    obtain ⟨A, B', he, hA, hB'⟩ := rels2 hv
    obtain ⟨rfl, h2⟩ := List.cons.inj he
    obtain ⟨rfl, _⟩ := List.cons.inj h2
    clear h2 he
    split at hb <;> first | (cases hb; done) | skip
    simp only [Option.some.injEq] at hb
    have hu := eqShape_spec hs
    simp only [shapeSpec] at hu
    refine go fun X Y hX hY => ?_
    rw [← hX, ← hY]
    have hA' := val_shape hA
    have hB'' := val_shape hB'
    simp only [valShape] at hA' hB''
    subst hb
    obtain ⟨e1, e2, e3, hu⟩ := hu
    obtain ⟨_, _, _, hB''⟩ := hB''
    rw [hA', hB'']
    rcases hop with ⟨rfl, rfl⟩ | ⟨rfl, rfl⟩ <;> exact ⟨rfl, by first | exact Sem.run_bind P w _ _ | exact (Sem.run_bind' P _ _ w), eq_fn1 9999 hu _ _ _⟩
  case h_11 =>
    obtain ⟨A, B', he, hA, hB'⟩ := rels2 hv
    obtain ⟨rfl, h2⟩ := List.cons.inj he
    obtain ⟨rfl, _⟩ := List.cons.inj h2
    clear h2 he
    split at hb <;> first | (cases hb; done) | skip
    simp only [Option.some.injEq] at hb
    have hu := eqShape_spec hs
    simp only [shapeSpec] at hu
    refine go fun X Y hX hY => ?_
    rw [← hX, ← hY]
    have hA' := val_shape hA
    have hB'' := val_shape hB'
    simp only [valShape] at hA' hB''
    subst hb
    obtain ⟨e1, e2, e3, hu⟩ := hu
    obtain ⟨_, _, _, hA'⟩ := hA'
    rw [hA', hB'']
    rcases hop with ⟨rfl, rfl⟩ | ⟨rfl, rfl⟩ <;> exact ⟨rfl, by first | exact Sem.run_bind P w _ _ | exact (Sem.run_bind' P _ _ w), eq_fn2 9999 hu _ _ _⟩
end
end Go.Proofs.Ytnfglcfjjemjmaa
