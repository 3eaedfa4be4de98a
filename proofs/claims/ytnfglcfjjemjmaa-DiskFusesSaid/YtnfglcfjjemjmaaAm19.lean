/- The small machine's functions stand for the program's. No condition. -/
import Derived.Test.YtnfglcfjjemjmaaAm18
namespace Go.Proofs.Ytnfglcfjjemjmaa
open Go Go.RowKit

/-! ### What is not written stays as it was -/
section
variable {C : Orc} {n0 : Nat}
def CleanStep (n0 : Nat) (M M' : Mem) : Prop := n0 ≤ M.length → n0 ≤ M'.length ∧ ∀ (i : Nat) (b' : Blk), i < n0 → M'[i]? = some b' → b'.dirty = false → M[i]? = some b'
theorem CleanStep.refl (M : Mem) : CleanStep n0 M M := fun h => ⟨h, fun _ _ _ h _ => h⟩
theorem CleanStep.trans {M M1 M2 : Mem} (h : CleanStep n0 M M1) (k : CleanStep n0 M1 M2) : CleanStep n0 M M2 := fun hn => by
  obtain ⟨h1, h2⟩ := h hn
  obtain ⟨h3, h4⟩ := k h1
  exact ⟨h3, fun i b hi hb hd => h2 i b hi (h4 i b hi hb hd) hd⟩
theorem step_clean {o : AOper} {s s1 : St} {ft : Foot} (h : stepA C o s = some (s1, ft)) : CleanStep n0 s.mem s1.mem := by
  obtain ⟨v, _, h2⟩ := stp_of h
  rcases h2 with ⟨_, hp⟩ | ⟨_, _, hm, _⟩
  · have := psem_foot hp
    exact fun hn => ⟨Nat.le_trans hn this.len, fun i b hi hb hd => this.clean i b (by omega) hb hd⟩
  · rw [hm]; exact CleanStep.refl _
theorem ops_clean : ∀ {al : List AOper} {s s' : St} {fs : List (Foot × Nat)}, opsA C al s = some (s', fs) → CleanStep n0 s.mem s'.mem
  | [], s, s', fs, h => by
    simp only [opsA, Option.some.injEq, Prod.mk.injEq] at h
    obtain ⟨rfl, _⟩ := h
    exact CleanStep.refl _
  | o :: al, s, s', fs, h => by
    simp only [opsA] at h
    split at h
    case h_2 => cases h
    rename_i s1 ft hs1
    split at h
    case h_2 => cases h
    rename_i s2 fs2 hs2
    simp only [Option.some.injEq, Prod.mk.injEq] at h
    obtain ⟨rfl, _⟩ := h
    exact (step_clean hs1).trans (ops_clean hs2)
theorem stepD_clean {o : AOper} {r : Nat} {s s1 : St} {ft : Foot} (h : stepD C o r s = some (s1, ft)) (hr : n0 ≤ r) : CleanStep n0 s.mem s1.mem := by
  unfold stepD at h
  split at h
  · split at h
    · rename_i v m ft' hp
      have hf := psem_foot hp
      cases hfr : ft'.fresh with
      | true =>
        simp only [hfr, cond_true] at h
        have h := (bif_some h).2
        split at h
        case h_2 => cases h
        simp only [Option.some.injEq, Prod.mk.injEq] at h
        obtain ⟨rfl, _⟩ := h
        refine fun hn => ⟨by simpa using hn, fun i b hi hb _ => ?_⟩
        rwa [List.getElem?_set_ne (by omega)] at hb
      | false =>
        simp only [hfr, cond_false, Option.some.injEq, Prod.mk.injEq] at h
        obtain ⟨rfl, _⟩ := h
        exact fun hn => ⟨Nat.le_trans hn hf.len, fun i b hi hb hd => hf.clean i b (by omega) hb hd⟩
    · cases h
  · simp only [Option.some.injEq, Prod.mk.injEq] at h
    obtain ⟨rfl, _⟩ := h
    exact CleanStep.refl _
  · cases h
theorem opsD_clean : ∀ {al : List AOper} {r : Nat} {s s' : St} {fs : List (Foot × Nat)}, opsD C al r s = some (s', fs) → n0 ≤ r → CleanStep n0 s.mem s'.mem
  | [], r, s, s', fs, h, _ => by
    simp only [opsD, Option.some.injEq, Prod.mk.injEq] at h
    obtain ⟨rfl, _⟩ := h
    exact CleanStep.refl _
  | o :: al, r, s, s', fs, h, hr => by
    simp only [opsD] at h
    split at h
    case h_2 => cases h
    rename_i s1 ft hs1
    split at h
    case h_2 => cases h
    rename_i s2 fs2 hs2
    simp only [Option.some.injEq, Prod.mk.injEq] at h
    obtain ⟨rfl, _⟩ := h
    refine (stepD_clean hs1 hr).trans (opsD_clean hs2 ?_)
    cases o.prim.isNew <;> simp <;> omega
theorem pad_clean (n : Nat) (M : Mem) : CleanStep n0 M (padM M n) := by
  obtain ⟨h1, h2, _⟩ := pad_get n M
  exact fun hn => ⟨by omega, fun i b hi hb _ => by rwa [h2 i (by omega)] at hb⟩
theorem cramp_clean {fr fr' : List AV} {M M' : Mem} {order : List Nat} (h : crampBy n0 fr M order = some (fr', M')) : CleanStep n0 M M' := by
  intro hn
  unfold crampBy at h
  simp only at h
  split at h
  case h_2 => cases h
  rename_i fr1 A l hfr hA hl
  split at h
  case h_2 => cases h
  rename_i A' hA'
  obtain ⟨hq, h⟩ := bif_some h
  simp only [Option.some.injEq, Prod.mk.injEq] at h
  obtain ⟨rfl, rfl⟩ := h
  have hH := renH_get hA
  have hAl : A.length = n0 := by rw [hH.1]; simp; omega
  refine ⟨by simp [hAl], fun i b' hi hb' hd => ?_⟩
  rw [List.getElem?_append_left (by rw [hAl]; exact hi)] at hb'
  obtain ⟨b, h1, h2⟩ := hH.2 i b' hb'
  rw [List.getElem?_take_of_lt hi] at h1
  rcases h2 with ⟨g1, g2⟩ | ⟨_, _, rfl⟩
  · rw [(blk_ren_kind g2).2, g1] at hd; cases hd
  · exact h1
theorem scrub_clean {dead : Option (List Nat)} {s s' : St} (h : scrub n0 dead s = some s') : CleanStep n0 s.mem s'.mem := by
  unfold scrub at h
  split at h
  · obtain rfl := Option.some.inj h; exact CleanStep.refl _
  · split at h
    · rename_i fr m hcr
      obtain rfl := Option.some.inj h
      exact cramp_clean hcr
    · cases h
theorem exec_clean {N : Nat} : ∀ (ac : ACode) (s s' : St) (x : Ex), exec C noL n0 N ac s = some (x, s') → CleanStep n0 s.mem s'.mem := by
  intro ac
  induction ac with
  | skip => intro s s' x h; simp only [exec, Option.some.injEq, Prod.mk.injEq] at h; obtain ⟨_, rfl⟩ := h; exact CleanStep.refl _
  | exit id => intro s s' x h; simp only [exec, Option.some.injEq, Prod.mk.injEq] at h; obtain ⟨_, rfl⟩ := h; exact CleanStep.refl _
  | ret => intro s s' x h; simp only [exec, Option.some.injEq, Prod.mk.injEq] at h; obtain ⟨_, rfl⟩ := h; exact CleanStep.refl _
  | ops l drawn =>
    intro s s' x h
    simp only [exec] at h
    cases drawn with
    | true =>
      rw [cond_true] at h
      split at h
      case h_2 => cases h
      rename_i s1 fs hops
      have h := (bif_some h).2
      simp only [Option.some.injEq, Prod.mk.injEq] at h; obtain ⟨_, rfl⟩ := h
      exact fun hn => ((pad_clean _ _).trans (opsD_clean hops hn)) hn
    | false =>
      rw [cond_false] at h
      split at h
      case h_2 => cases h
      rename_i s1 fs hops
      simp only [Option.some.injEq, Prod.mk.injEq] at h; obtain ⟨_, rfl⟩ := h
      exact ops_clean hops
  | seq a b iha ihb =>
    intro s s' x h
    simp only [exec] at h
    split at h
    · rename_i s1 he1
      exact (iha s s1 _ he1).trans (ihb s1 s' x h)
    · exact iha s s' x h
  | cond c t e iht ihe =>
    intro s s' x h
    simp only [exec] at h
    split at h
    · rename_i b hb
      cases b with
      | true => exact iht s s' x h
      | false => exact ihe s s' x h
    · cases h
  | block id b ih =>
    intro s s' x h
    simp only [exec] at h
    split at h
    · rename_i i s1 he1
      cases hq : Nat.beq i id with
      | true => rw [hq, cond_true] at h; simp only [Option.some.injEq, Prod.mk.injEq] at h; obtain ⟨_, rfl⟩ := h; exact ih s s1 _ he1
      | false => rw [hq, cond_false] at h; simp only [Option.some.injEq, Prod.mk.injEq] at h; obtain ⟨_, rfl⟩ := h; exact ih s s1 _ he1
    · exact ih s s' x h
  | loop id dead b ih =>
    intro s s' x h
    simp only [exec, noL] at h
    have key : ∀ (k : Nat) (s1 : St), iterA (exec C noL n0 N b) (scrub n0 dead) k s1 = some (x, s') → CleanStep n0 s1.mem s'.mem := by
      intro k
      induction k with
      | zero => intro s1 h; cases h
      | succ k ihk =>
        intro s1 h
        simp only [iterA] at h
        split at h
        case h_2 => cases h
        rename_i s2 hsc
        split at h
        · rename_i s3 hb
          exact ((scrub_clean hsc).trans (ih s2 s3 _ hb)).trans (ihk s3 h)
        · exact (scrub_clean hsc).trans (ih s2 s' x h)
    exact key N s h
end

/-! ### Results -/
section
variable {P : Program} {C : Orc} {B : Nat} {f : FM} {w : World}
theorem res_run : ∀ {rs : List ResultVar} {ars : List ARes}, compRes P rs = some ars → ∀ {s : St} {tmps : Array Value}, MRel B f s.mem w → VRels f s.fr tmps.toList → ∀ {vs : List AV}, resAll s ars = some vs →
    ∃ Vs, (rs.mapM (m := Sem) fun (r : ResultVar) => match r with | .tmp t => pure (tmps.getD t undef) | .cell a t => do loadVar t (← asAddr (tmps.getD a undef))).run P w = .ok Vs w ∧ VRels f vs Vs
  | [], ars, hc, s, tmps, hm, hf, vs, h => by
    simp only [compRes, Option.some.injEq] at hc; subst hc
    simp only [resAll, Option.some.injEq] at h; subst h
    exact ⟨[], by simp, VRels.nil⟩
  | r :: rs, ars, hc, s, tmps, hm, hf, vs, h => by
    have tmp_rel : ∀ t, VRel f (s.fr.getD t undefA) (tmps.getD t undef) := fun t => eval_rel (a := ⟨tmps, []⟩) (x := .tmp t) (ax := .tmp t) rfl hf
    cases r with
    | tmp t =>
      simp only [compRes] at hc
      split at hc
      case h_2 => cases hc
      rename_i r' hr'
      obtain rfl := Option.some.inj hc
      simp only [resAll, resA] at h
      split at h
      case h_2 => cases h
      rename_i v vs' h1 h2
      obtain rfl := Option.some.inj h
      obtain rfl := Option.some.inj h1
      obtain ⟨Vs, g1, g2⟩ := res_run hr' hm hf h2
      refine ⟨tmps.getD t undef :: Vs, ?_, VRels.cons (tmp_rel t) g2⟩
      rw [List.mapM_cons]
      simp only [Sem.run_bind, Sem.run_pure, Result.andThen_ok, g1]
    | cell t ty =>
      simp only [compRes] at hc
      split at hc
      case h_2 => cases hc
      rename_i k r' hk hr'
      obtain rfl := Option.some.inj hc
      simp only [resAll, resA] at h
      split at h
      case h_2 => cases h
      rename_i v vs' h1 h2
      obtain rfl := Option.some.inj h
      split at h1
      case h_2 => cases h1
      rename_i i off hp
      split at h1
      case h_2 => cases h1
      rename_i b hb
      obtain ⟨Vs, g1, g2⟩ := res_run hr' hm hf h2
      have hpr := tmp_rel t
      rw [hp] at hpr
      obtain ⟨U, g3, g4⟩ := run_load_part (P := P) hm hk hb h1 hpr
      have hpr' := hpr
      rw [VRel] at hpr'
      obtain ⟨y, _, hy⟩ := hpr'
      refine ⟨U :: Vs, ?_, VRels.cons g4 g2⟩
      rw [List.mapM_cons]
      rw [hy] at g3
      simp only [Instr.loadAt, Instr.sureAddr, Sem.run_bind, Sem.run_pure, Result.andThen_ok] at g3
      have ha : (asAddr (tmps.getD t undef)).run P w = .ok ⟨y.1, off, none⟩ w := by rw [hy]; rfl
      simp only [Sem.run_bind, ha, Sem.run_pure, Result.andThen_ok, g3, g1]
def oneV : List Value → Value
  | [V] => V
  | l => .tuple l.toArray
theorem one_rel : ∀ {vs : List AV} {Vs : List Value}, VRels f vs Vs → VRel f (oneA vs) (oneV Vs)
  | [], Vs, h => by rw [VRels] at h; subst h; rw [oneA, VRel]; exact ⟨#[], rfl, by simp [VRels]⟩; intro v h; cases h
  | [a], Vs, h => by obtain ⟨A, rfl, h1⟩ := rels1 h; exact h1
  | a :: b :: l, Vs, h => by
    have hl := h.length
    match Vs, hl, h with
    | [], hl, _ => simp at hl
    | [A], hl, _ => simp at hl
    | A :: D :: r, _, h => show VRel f (.tup (a :: b :: l)) (.tuple (A :: D :: r).toArray); rw [VRel]; exact ⟨_, rfl, by simpa using h⟩
theorem results_run {fn : Func} {ars : List ARes} (hc : compRes P fn.results.toList = some ars) {s : St} {tmps : Array Value} (hm : MRel B f s.mem w) (hf : VRels f s.fr tmps.toList) {vs : List AV} (h : resAll s ars = some vs) :
    ∃ Vs : List Value, VRels f vs Vs ∧ (results fn tmps).run P w = .ok (oneV Vs) w := by
  obtain ⟨Vs, h1, h2⟩ := res_run hc hm hf h
  refine ⟨Vs, h2, ?_⟩
  have h3 : (fn.results.mapM (m := Sem) fun (r : ResultVar) => match r with | .tmp t => pure (tmps.getD t undef) | .cell a t => do loadVar t (← asAddr (tmps.getD a undef))).run P w = .ok Vs.toArray w := by
    rw [Array.mapM_eq_mapM_toList]
    simp only [Sem.run_map]
    rw [h1]; rfl
  unfold results
  rw [Sem.run_bind]
  refine Eq.trans (congrArg (fun r => Result.andThen r _) h3) ?_
  simp only [Result.andThen_ok, Sem.run_pure]
  match Vs with
  | [] => rfl
  | [V] => rfl
  | V :: U :: r => simp [oneV]

theorem compFn_spec {D : Nat → Option (List Nat)} {g : FuncId} {fn : AFun} (h : compFn P D g = some fn) : ∃ (fn0 : Func) (c : Code) (n : Nat), P.funcs[g]? = some fn0 ∧ fn0.body = some c ∧ comp P D c 0 = some (fn.code, n) ∧ compRes P fn0.results.toList = some fn.results ∧ fn.ntmps = fn0.ntmps ∧ fn0.name ≠ "runtime.NumGoroutine" := by
  unfold compFn at h
  split at h
  case h_2 => cases h
  rename_i fn0 hfn
  split at h
  case h_2 => cases h
  rename_i c hb
  split at h
  case h_2 => cases h
  rename_i c' n r h1 h2
  split at h
  · cases h
  · rename_i hne
    obtain rfl := Option.some.inj h
    exact ⟨fn0, c, n, hfn, hb, h1, h2, rfl, hne⟩
theorem runF_ok (hP : P.follows .mixedOrders = true) (hC : OrcOK P C) {D : Nat → Option (List Nat)} {g : FuncId} {fn : AFun} (hfn : compFn P D g = some fn) {N : Nat} {args : List AV} {M M' : Mem} {v : AV} (h : runF C noL N fn args M = some (v, M')) :
    (∃ fn, P.funcs[g]? = some fn ∧ fn.name ≠ "runtime.NumGoroutine" ∧ fn.body.isSome = true) ∧ M.length ≤ M'.length ∧ (∀ (i : Nat) (b b' : Blk), M[i]? = some b → M'[i]? = some b' → b'.dirty = false → b' = b) ∧
    ∀ (B : Nat) (f : FM) (w : World) (Vs : Array Value), MRel B f M w → B ≤ w.heap.size → VRels f args Vs.toList → Calls P g Vs w (fun e w' => ∃ f' V, e = .returned V ∧ Sub f f' ∧ MRel B f' M' w' ∧ VRel f' v V ∧ Went f M w f' M' w') := by
  obtain ⟨fn0, c, n, h1, h2, h3, h4, h5, h6⟩ := compFn_spec hfn
  -- the run
  have key : ∃ x s vs vs', (x = .norm ∨ x = .ret) ∧ exec C noL M.length N fn.code ⟨frame0 fn args, M⟩ = some (x, s) ∧ resAll s fn.results = some vs ∧ cramp M.length vs s.mem = some (vs', M') ∧ v = oneA vs' := by
    unfold runF at h
    split at h
    · rename_i s he
      split at h
      · rename_i vs hr
        split at h
        · rename_i vs' m hcr
          simp only [Option.some.injEq, Prod.mk.injEq] at h
          obtain ⟨rfl, rfl⟩ := h
          exact ⟨.norm, s, vs, _, .inl rfl, he, hr, hcr, rfl⟩
        · cases h
      · cases h
    · rename_i s he
      split at h
      · rename_i vs hr
        split at h
        · rename_i vs' m hcr
          simp only [Option.some.injEq, Prod.mk.injEq] at h
          obtain ⟨rfl, rfl⟩ := h
          exact ⟨.ret, s, vs, _, .inr rfl, he, hr, hcr, rfl⟩
        · cases h
      · cases h
    · cases h
  obtain ⟨x, s, vs, vs', hx, he, hr, hcr, rfl⟩ := key
  have hcl := ((exec_clean (n0 := M.length) _ _ _ _ he).trans (cramp_clean hcr)) (Nat.le_refl _)
  refine ⟨⟨fn0, h1, h6, by rw [h2]; rfl⟩, hcl.1, fun i b b' hb hb' hd => ?_, fun B f w Vs hm hB hv => ?_⟩
  · have := hcl.2 i b' (lt_of_get hb) hb' hd
    rw [hb] at this
    exact (Option.some.inj this).symm
  · refine calls_of_wp h1 h2 ?_
    have hargs : args.length = Vs.size := by have := hv.length; simpa using this
    have hf0 : VRels f (frame0 fn args) (Vs ++ Array.replicate (fn0.ntmps - Vs.size) undef).toList := by
      unfold frame0
      rw [Array.toList_append, Array.toList_replicate, h5, hargs]
      exact hv.app (VRels.rep undef_rel _)
    refine wp_mono (exec_ok (a := { tmps := Vs ++ Array.replicate (fn0.ntmps - Vs.size) undef, defers := [] }) hP hC c 0 n fn.code ⟨frame0 fn args, M⟩ s x f w h3 he hm hf0 rfl hB (Nat.le_refl _)) ?_
    rintro e a' w' ⟨rfl, f1, g1, g2, g3, g4, g5, g6⟩
    obtain ⟨Us, r1, r2⟩ := results_run (fn := fn0) h4 g2 g3 hr
    obtain ⟨f2, k1, k2, k3, k4, k5, _⟩ := crampBy_ok hcr g2 g6 r1
    have hkeep := g1.trans k1
    have hpre : Sub f f2 := fun i x hx => hkeep i x (hm.dom i x hx) hx
    have fin : ∃ v, (results fn0 a'.tmps).run P w' = .ok v w' ∧ (fun (e : Ending) w' => ∃ f' V, e = .returned V ∧ Sub f f' ∧ MRel B f' M' w' ∧ VRel f' (oneA vs') V ∧ Went f M w f' M' w') (.returned v) w' :=
      ⟨_, r2, f2, _, rfl, hpre, k2, one_rel k3, g5.trans k4⟩
    rcases hx with rfl | rfl
    · exact ⟨g4, fin⟩
    · exact ⟨g4, fin⟩
end

/-! ### The functions of a program, as deep as n -/
/-- Called with no more than n calls within one another. -/
def orcN (P : Program) (D : FuncId → Nat → Option (List Nat)) (N : Nat) (C : Orc) : Nat → Orc
  | 0 => C
  | n + 1 => fun f args M => match C f args M with
    | some r => some r
    | none => match compFn P (D f) f with
      | some fn => runF (orcN P D N C n) noL N fn args M
      | none => none
theorem orcN_ok {P : Program} (hP : P.follows .mixedOrders = true) {D : FuncId → Nat → Option (List Nat)} {N : Nat} {C : Orc} (hC : OrcOK P C) : ∀ n, OrcOK P (orcN P D N C n)
  | 0 => hC
  | n + 1 => by
    intro g args M v M' h hcl
    simp only [orcN] at h
    split at h
    · rename_i r hr
      obtain rfl := Option.some.inj h
      exact hC g args M v M' hr hcl
    · split at h
      · rename_i fn hfn
        exact runF_ok hP (orcN_ok hP hC n) hfn h
      · cases h
def noC : Orc := fun _ _ _ => none
theorem noC_ok (P : Program) : OrcOK P noC := fun _ _ _ _ _ h => by cases h
end Go.Proofs.Ytnfglcfjjemjmaa
