/- The small machine's operations, one behind the other, and its code, stand for the program's. No condition. -/
import Derived.Test.YtnfglcfjjemjmaaAm12
namespace Go.Proofs.Ytnfglcfjjemjmaa
open Go Go.RowKit

/-! ### One operation -/
section
variable {P : Program} {C : Orc} {B : Nat} {f : FM} {M M' : Mem} {w : World} {a : Act} {o : Oper} {v : AV}
theorem run_enter {g : FuncId} {fn : Func} (h : P.funcs[g]? = some fn) (hn : fn.name ≠ "runtime.NumGoroutine") (hb : fn.body.isSome = true) (args : Array Value) (w : World) : (callFunc g args).run P w = .ok (.enter g args) w := by
  obtain ⟨c, hc⟩ := Option.isSome_iff_exists.1 hb
  simp [callFunc, h, hn, hc]
def Goes (P : Program) (o : Oper) (a : Act) (w : World) (B : Nat) (f : FM) (M : Mem) (v : AV) (M' : Mem) (rd : List Nat) : Prop :=
  ∀ (next : Act → World → Prop) (Q : Exit → Act → World → Prop), (∀ f' V w', Sub f f' → MRel B f' M' w' → VRel f' v V → Went f M w f' M' w' → (∀ r, r < M.length → f r = none → r ∉ rd → f' r = none) → next (a.put o.dst V) w') → o.wp P a w next Q
theorem goes_of_fine {rd : List Nat} (h : Fine P a.eval o w B f M v M') : Goes P o a w B f M v M' rd := by
  obtain ⟨V, w', f', hr, h1, h2, h3, h4, h5⟩ := h
  intro next Q K
  have := K f' V w' h1 h2 h3 h4 (fun r hr hf _ => by
    rcases h5 with h5 | ⟨x, h5⟩
    · rw [h5]; exact hf
    · rw [h5, upd_ne _ _ (Nat.ne_of_lt hr)]; exact hf)
  unfold Oper.wp
  rcases hr with hr | ⟨hr, hV⟩
  · rw [hr]; exact this
  · rw [hr]; subst hV; exact this
theorem goes_call (hC : OrcOK P C) (hm : MRel B f M w) (hB : B ≤ w.heap.size) {g : FuncId} {vs : List AV} {ft : Foot} (h : callA C g vs M = some (v, M', ft)) {Vs : Array Value} (hv : VRels f vs Vs.toList)
    (hr : (∀ fn, P.funcs[g]? = some fn → fn.name ≠ "runtime.NumGoroutine" → fn.body.isSome = true → (execOp a.eval o).run P w = .ok (.enter g Vs) w)) : Goes P o a w B f M v M' ft.reads := by
  intro next Q K
  obtain ⟨⟨fn, h1, h2, h3⟩, h4⟩ := callA_ok hC h hm hB hv
  unfold Oper.wp
  rw [hr fn h1 h2 h3]
  refine Calls.mono h4 ?_
  rintro e w' ⟨f', V, rfl, k1, k2, k3, k4, k5⟩
  exact K f' V w' k1 k2 k3 k4 k5
theorem bif_some {α : Type} {b : Bool} {x : Option α} {y : α} (h : (bif b then x else none) = some y) : b = true ∧ x = some y := by
  cases b with
  | true => exact ⟨rfl, h⟩
  | false => cases h
theorem compB_nocall {op : BinOp} {t : TypeId} {p : Prim} (h : compB op P t = some p) : p.isCall = false := by
  unfold compB at h
  split at h
  · obtain rfl := Option.some.inj h; rfl
  · obtain rfl := Option.some.inj h; rfl
  · obtain rfl := Option.some.inj h; rfl
  · split at h
    · obtain rfl := Option.some.inj h; rfl
    · cases h
theorem comp_nocall {op : Op} {p : Prim} {xs : List Operand} (h : compOp P op = some (p, xs)) (hn : ∀ c, op ≠ .call c) : p.isCall = false := by
  cases op <;> simp only [compOp] at h
  case call c => exact absurd rfl (hn c)
  case binOp =>
    split at h
    · rename_i hp
      simp only [Option.some.injEq, Prod.mk.injEq] at h
      obtain ⟨rfl, _⟩ := h
      exact compB_nocall hp
    · cases h
  case slice t x lo hi mx =>
    cases mx <;> cases lo <;> cases hi <;> first
      | (simp only [compOp, reduceCtorEq] at h; done)
      | (simp only [compOp] at h
         repeat' split at h
         all_goals first
           | (cases h; done)
           | (simp only [Option.some.injEq, Prod.mk.injEq] at h; obtain ⟨rfl, _⟩ := h; rfl)
           | (have := (bif_some h).2; simp only [Option.some.injEq, Prod.mk.injEq] at this; obtain ⟨rfl, _⟩ := this; rfl))
  case makeFunc fn a c =>
    cases fn <;> simp only [compOp] at h <;> first
      | (cases h; done)
      | (simp only [Option.some.injEq, Prod.mk.injEq] at h; obtain ⟨rfl, _⟩ := h; rfl)
  all_goals
    repeat' split at h
    all_goals first
      | (cases h; done)
      | (simp only [Option.some.injEq, Prod.mk.injEq] at h; obtain ⟨rfl, _⟩ := h; rfl)
      | (have := (bif_some h).2; simp only [Option.some.injEq, Prod.mk.injEq] at this; obtain ⟨rfl, _⟩ := this; rfl)
      | (have h2 := (bif_some h).2; cases h2)
theorem compCall_call {c : Call} {p : Prim} {xs : List Operand} (h : compCall P c = some (p, xs)) (hp : p.isCall = true) :
    (∃ g, c.callee = .value (.func g) ∧ p = .callf g ∧ xs = c.args.toList) ∨ (∃ t, c.callee = .value (.tmp t) ∧ p = .callv ∧ xs = .tmp t :: c.args.toList) := by
  unfold compCall at h
  split at h
  case h_1 g hcal =>
    split at h
    case h_2 => cases h
    split at h
    · simp only [Option.some.injEq, Prod.mk.injEq] at h
      obtain ⟨rfl, rfl⟩ := h
      exact .inl ⟨g, hcal, rfl, rfl⟩
    · split at h
      case h_2 =>
        exfalso
        repeat' split at h
        all_goals first
          | (cases h; done)
          | (simp only [Option.some.injEq, Prod.mk.injEq] at h; obtain ⟨rfl, _⟩ := h; cases hp)
      rename_i p' hp'
      simp only [Option.some.injEq, Prod.mk.injEq] at h
      obtain ⟨rfl, rfl⟩ := h
      split at hp'
      case isFalse => cases hp'
      unfold externOf at hp'
      repeat' split at hp'
      all_goals first
        | (cases hp'; done)
        | (obtain rfl := Option.some.inj hp'; cases hp)
  case h_2 t hcal =>
    simp only [Option.some.injEq, Prod.mk.injEq] at h
    obtain ⟨rfl, rfl⟩ := h
    exact .inr ⟨t, hcal, rfl, rfl⟩
  all_goals
    exfalso
    repeat' split at h
    all_goals first
      | (cases h; done)
      | (simp only [Option.some.injEq, Prod.mk.injEq] at h; obtain ⟨rfl, _⟩ := h; cases hp; done)
      | (have := (bif_some h).2; simp only [Option.some.injEq, Prod.mk.injEq] at this; obtain ⟨rfl, _⟩ := this; cases hp)
theorem prim_goes (hC : OrcOK P C) (hm : MRel B f M w) (hB : B ≤ w.heap.size) {p : Prim} {xs : List Operand} (hc : compOp P o.op = some (p, xs)) {vs : List AV} (hv : VRels f vs (xs.map a.eval)) {ft : Foot} (h : psem C p vs M = some (v, M', ft)) : Goes P o a w B f M v M' ft.reads := by
  cases hp : p.isCall with
  | false => exact goes_of_fine (prim_fine hm hB (fun g => rfl) hc hp hv h)
  | true =>
    have key : ∃ c, o.op = .call c ∧ compCall P c = some (p, xs) := by
      apply Classical.byContradiction
      intro hno
      have := comp_nocall hc (fun c hc' => hno ⟨c, hc', by rw [hc'] at hc; exact hc⟩)
      rw [this] at hp; cases hp
    obtain ⟨c, ho, hcc⟩ := key
    rcases compCall_call hcc hp with ⟨g, hcal, rfl, rfl⟩ | ⟨t, hcal, rfl, rfl⟩
    · simp only [psem] at h
      refine goes_call hC hm hB h (Vs := c.args.map a.eval) (by simpa using hv) (fun fn h1 h2 h3 => ?_)
      simp only [execOp, ho, resolve, hcal, Act.eval, Deferred.ofValue, pure_bind, invoke, Array.empty_append, Array.append_empty]
      exact run_enter h1 h2 h3 _ _
    · simp only [psem] at h
      split at h
      case h_2 => cases h
      rename_i g fs cs vs'
      rw [List.map_cons, VRels.cons_iff] at hv
      obtain ⟨h1, h2⟩ := hv
      rw [VRel] at h1
      obtain ⟨A, D, e1, e2, e3⟩ := h1
      refine goes_call hC hm hB h (Vs := A ++ c.args.map a.eval ++ D) ?_ (fun fn k1 k2 k3 => ?_)
      · simp only [Array.toList_append, Array.toList_map]
        exact (e2.app h2).app e3
      · simp only [execOp, ho, resolve, hcal, e1, Deferred.ofValue, pure_bind, invoke]
        exact run_enter k1 k2 k3 _ _

/-! ### Frames -/
theorem eval_rel {x : Operand} {ax : AOpd} (h : compX x = some ax) {fr : List AV} (hf : VRels f fr a.tmps.toList) : VRel f (evalA fr ax) (a.eval x) := by
  cases x <;> simp only [compX] at h
  case tmp t =>
    obtain rfl := Option.some.inj h
    simp only [evalA, Act.eval]
    cases hi : fr[t]? with
    | some v =>
      obtain ⟨V, h1, h2⟩ := hf.get t hi
      rw [Array.getElem?_toList] at h1
      simp [List.getD, hi, h1, h2]
    | none =>
      have hl := hf.length
      have : fr.length ≤ t := by simpa using hi
      have h1 : a.tmps[t]? = none := by
        rw [Array.getElem?_eq_none_iff]
        simp only [Array.length_toList] at hl
        omega
      simp only [List.getD, hi, Option.getD_none, Array.getD_eq_getD_getElem?, h1]
      rw [undefA, VRel]; exact ⟨#[], rfl, by simp [VRels]⟩
  case const V =>
    split at h
    · rename_i v hv
      obtain rfl := Option.some.inj h
      exact (ofVal_rel hv).1
    · cases h
  case func g =>
    obtain rfl := Option.some.inj h
    simp only [evalA, Act.eval]
    rw [VRel]
    exact ⟨#[], #[], rfl, by simp [VRels], by simp [VRels]⟩
  case global => cases h
theorem evals_rel : ∀ {xs : List Operand} {ys : List AOpd}, compXs xs = some ys → ∀ {fr : List AV}, VRels f fr a.tmps.toList → VRels f (ys.map (evalA fr)) (xs.map a.eval)
  | [], ys, h, fr, hf => by simp only [compXs, Option.some.injEq] at h; subst h; simp [VRels]
  | x :: xs, ys, h, fr, hf => by
    simp only [compXs] at h
    split at h
    · rename_i b r h1 h2
      obtain rfl := Option.some.inj h
      exact VRels.cons (eval_rel h1 hf) (evals_rel h2 hf)
    · cases h
theorem put_rel {fr : List AV} {d : Option Nat} {V : Value} (hf : VRels f fr a.tmps.toList) (hv : VRel f v V) : VRels f (putA fr d v) (a.put d V).tmps.toList := by
  cases d with
  | none => exact hf
  | some d =>
    simp only [putA, Act.put, Array.toList_setIfInBounds]
    exact hf.set d hv
theorem put_defers {d : Option Nat} {V : Value} : (a.put d V).defers = a.defers := by cases d <;> rfl
theorem wanted_rel {ops : Array Oper} {g : Option (Nat × Bool)} (h : guardOf ops o.guard = some g) {fr : List AV} (hf : VRels f fr a.tmps.toList) {b : Bool} (hw : wantedA fr g = some b) : Region.wanted o (yielded ops a.tmps) = b := by
  unfold guardOf at h
  unfold Region.wanted
  split at h
  · rename_i hg
    obtain rfl := Option.some.inj h
    simp only [wantedA, Option.some.injEq] at hw
    simp only [hg]; exact hw
  · rename_i j want hg
    split at h
    case h_2 => cases h
    rename_i oj hoj
    split at h
    case h_2 => cases h
    rename_i d hd
    obtain rfl := Option.some.inj h
    simp only [hg]
    simp only [wantedA] at hw
    split at hw
    · rename_i c hc
      obtain rfl := Option.some.inj hw
      obtain ⟨V, h1, h2⟩ := hf.get d hc
      rw [VRel] at h2; subst h2
      rw [Array.getElem?_toList] at h1
      simp [yielded, hoj, hd, h1]
    · rename_i hc
      obtain rfl := Option.some.inj hw
      obtain ⟨V, h1, h2⟩ := hf.get d hc
      rw [VRel] at h2
      obtain ⟨A, rfl, _⟩ := h2
      rw [Array.getElem?_toList] at h1
      simp [yielded, hoj, hd, h1]
    · cases hw
theorem undef_rel : VRel f undefA undef := by rw [undefA, VRel]; exact ⟨#[], rfl, by simp [VRels]⟩

/-- One operation, or none. -/
theorem step_ok (hC : OrcOK P C) {ops : Array Oper} {ao : AOper} (hc : compOper P ops o = some ao) {s s' : St} {ft : Foot} (h : stepA C ao s = some (s', ft)) (hm : MRel B f s.mem w) (hf : VRels f s.fr a.tmps.toList) (hB : B ≤ w.heap.size)
    {K : Act → World → Prop} {Q : Exit → Act → World → Prop} (hK : ∀ f' a' w', Sub f f' → MRel B f' s'.mem w' → VRels f' s'.fr a'.tmps.toList → a'.defers = a.defers → Went f s.mem w f' s'.mem w' → K a' w') :
    if Region.wanted o (yielded ops a.tmps) then o.wp P a w K Q else K (a.put o.dst undef) w := by
  unfold compOper at hc
  split at hc
  case h_2 => cases hc
  rename_i p xs g hop hg
  split at hc
  case h_2 => cases hc
  rename_i ys has
  obtain rfl := Option.some.inj hc
  unfold stepA at h
  split at h
  · rename_i hw
    rw [if_pos (wanted_rel hg hf hw)]
    split at h
    · rename_i v m ft' hp
      simp only [Option.some.injEq, Prod.mk.injEq] at h
      obtain ⟨rfl, rfl⟩ := h
      refine prim_goes hC hm hB hop (evals_rel has hf) hp K Q ?_
      intro f' V w' h1 h2 h3 h4 _
      exact hK f' _ w' h1 h2 (put_rel (hf.pre h1) h3) put_defers h4
    · cases h
  · rename_i hw
    rw [if_neg (by rw [wanted_rel hg hf hw]; exact Bool.false_ne_true)]
    simp only [Option.some.injEq, Prod.mk.injEq] at h
    obtain ⟨rfl, rfl⟩ := h
    exact hK f _ w (Sub.refl _) hm (put_rel hf undef_rel) put_defers Went.refl
  · cases h
theorem ops_ok (hC : OrcOK P C) {ops : Array Oper} : ∀ {l : List Oper} {al : List AOper} {s s' : St} {fs : List (Foot × Nat)} {f : FM} {a : Act} {w : World}, compOps P ops l = some al → opsA C al s = some (s', fs) → MRel B f s.mem w → VRels f s.fr a.tmps.toList → B ≤ w.heap.size →
    ∀ {Q : Exit → Act → World → Prop}, (∀ f' a' w', Sub f f' → MRel B f' s'.mem w' → VRels f' s'.fr a'.tmps.toList → a'.defers = a.defers → Went f s.mem w f' s'.mem w' → Q .normal a' w') → wpList P ops Q l a w
  | [], al, s, s', fs, f, a, w, hc, h, hm, hf, hB, Q, hQ => by
    simp only [compOps, Option.some.injEq] at hc; subst hc
    simp only [opsA, Option.some.injEq, Prod.mk.injEq] at h
    obtain ⟨rfl, _⟩ := h
    exact hQ f a w (Sub.refl _) hm hf rfl Went.refl
  | o :: l, al, s, s', fs, f, a, w, hc, h, hm, hf, hB, Q, hQ => by
    simp only [compOps] at hc
    split at hc
    case h_2 => cases hc
    rename_i ao r hao hr
    obtain rfl := Option.some.inj hc
    simp only [opsA] at h
    split at h
    case h_2 => cases h
    rename_i s1 ft hs1
    split at h
    case h_2 => cases h
    rename_i s2 fs2 hs2
    simp only [Option.some.injEq, Prod.mk.injEq] at h
    obtain ⟨rfl, _⟩ := h
    refine wpList_step fun K hK => ?_
    refine step_ok hC hao hs1 hm hf hB fun f' a' w' h1 h2 h3 h4 h5 => hK _ _ ?_
    refine ops_ok hC hr hs2 h2 h3 (Nat.le_trans hB h5.size) fun f2 a2 w2 k1 k2 k3 k4 k5 => ?_
    exact hQ f2 a2 w2 (h1.trans k1) k2 k3 (k4.trans h4) (h5.trans k5)
end
end Go.Proofs.Ytnfglcfjjemjmaa
