/- The small machine's functions stand for the program's. No condition. -/
import Derived.Test.YtfdhfhgljhnhlaaAmB
import Derived.ChangeSlices
import Derived.WideShapes
namespace Go.Proofs.Ytfdhfhgljhnhlaa
open Go Go.RowKit

/-! ### What is not written stays as it was -/
section
variable {C : Orc} {n0 : Nat}
def CleanStep (n0 : Nat) (M M' : Mem) : Prop := n0 ≤ M.length → n0 ≤ M'.length ∧ ∀ (i : Nat) (b' : Blk), i < n0 → M'[i]? = some b' → b'.dirty = false → M[i]? = some b'
theorem CleanStep.refl (M : Mem) : CleanStep n0 M M := fun h => ⟨h, fun _ _ _ h _ => h⟩
theorem CleanStep.trans {M M1 M2 : Mem} (h : CleanStep n0 M M1) (k : CleanStep n0 M1 M2) : CleanStep n0 M M2 := fun hn => by
  obtain ⟨h1, h2⟩ := h hn
  obtain ⟨h3, h4⟩ := k h1
  exact ⟨h3, fun i b hi hb hd => h2 i b hi (h4 i b hi hb hd) hd⟩
theorem step_clean {o : AOper} {s s1 : St} {ft : Foot} (h : stepA C o s = some (s1, ft)) : CleanStep n0 s.mem s1.mem := by
  obtain ⟨v, _, h2⟩ := stp_of h
  rcases h2 with ⟨_, hp⟩ | ⟨_, _, hm, _⟩
  · have := psem_foot hp
    exact fun hn => ⟨Nat.le_trans hn this.len, fun i b hi hb hd => this.clean i b (by omega) hb hd⟩
  · rw [hm]; exact CleanStep.refl _
theorem ops_clean : ∀ {al : List AOper} {s s' : St} {fs : List (Foot × Nat)}, opsA C al s = some (s', fs) → CleanStep n0 s.mem s'.mem
  | [], s, s', fs, h => by
    simp only [opsA, Option.some.injEq, Prod.mk.injEq] at h
    obtain ⟨rfl, _⟩ := h
    exact CleanStep.refl _
  | o :: al, s, s', fs, h => by
    simp only [opsA] at h
    split at h
    case h_2 => cases h
    rename_i s1 ft hs1
    split at h
    case h_2 => cases h
    rename_i s2 fs2 hs2
    simp only [Option.some.injEq, Prod.mk.injEq] at h
    obtain ⟨rfl, _⟩ := h
    exact (step_clean hs1).trans (ops_clean hs2)
theorem stepD_clean {o : AOper} {r : Nat} {s s1 : St} {ft : Foot} (h : stepD C o r s = some (s1, ft)) (hr : n0 ≤ r) : CleanStep n0 s.mem s1.mem := by
  unfold stepD at h
  split at h
  · split at h
    · rename_i v m ft' hp
      have hf := psem_foot hp
      cases hfr : ft'.fresh with
      | true =>
        simp only [hfr, cond_true] at h
        have h := (bif_some h).2
        split at h
        case h_2 => cases h
        simp only [Option.some.injEq, Prod.mk.injEq] at h
        obtain ⟨rfl, _⟩ := h
        refine fun hn => ⟨by simpa using hn, fun i b hi hb _ => ?_⟩
        rwa [List.getElem?_set_ne (by omega)] at hb
      | false =>
        simp only [hfr, cond_false, Option.some.injEq, Prod.mk.injEq] at h
        obtain ⟨rfl, _⟩ := h
        exact fun hn => ⟨Nat.le_trans hn hf.len, fun i b hi hb hd => hf.clean i b (by omega) hb hd⟩
    · cases h
  · simp only [Option.some.injEq, Prod.mk.injEq] at h
    obtain ⟨rfl, _⟩ := h
    exact CleanStep.refl _
  · cases h
theorem opsD_clean : ∀ {al : List AOper} {r : Nat} {s s' : St} {fs : List (Foot × Nat)}, opsD C al r s = some (s', fs) → n0 ≤ r → CleanStep n0 s.mem s'.mem
  | [], r, s, s', fs, h, _ => by
    simp only [opsD, Option.some.injEq, Prod.mk.injEq] at h
    obtain ⟨rfl, _⟩ := h
    exact CleanStep.refl _
  | o :: al, r, s, s', fs, h, hr => by
    simp only [opsD] at h
    split at h
    case h_2 => cases h
    rename_i s1 ft hs1
    split at h
    case h_2 => cases h
    rename_i s2 fs2 hs2
    simp only [Option.some.injEq, Prod.mk.injEq] at h
    obtain ⟨rfl, _⟩ := h
    refine (stepD_clean hs1 hr).trans (opsD_clean hs2 ?_)
    cases o.prim.isNew <;> simp <;> omega
theorem pad_clean (n : Nat) (M : Mem) : CleanStep n0 M (padM M n) := by
  obtain ⟨h1, h2, _⟩ := pad_get n M
  exact fun hn => ⟨by omega, fun i b hi hb _ => by rwa [h2 i (by omega)] at hb⟩
theorem cramp_clean {fr fr' : List AV} {M M' : Mem} {order : List Nat} (h : crampBy n0 fr M order = some (fr', M')) : CleanStep n0 M M' := by
  intro hn
  unfold crampBy at h
  simp only at h
  split at h
  case h_2 => cases h
  rename_i fr1 A l hfr hA hl
  split at h
  case h_2 => cases h
  rename_i A' hA'
  obtain ⟨hq, h⟩ := bif_some h
  simp only [Option.some.injEq, Prod.mk.injEq] at h
  obtain ⟨rfl, rfl⟩ := h
  have hH := renH_get hA
  have hAl : A.length = n0 := by rw [hH.1]; simp; omega
  refine ⟨by simp [hAl], fun i b' hi hb' hd => ?_⟩
  rw [List.getElem?_append_left (by rw [hAl]; exact hi)] at hb'
  obtain ⟨b, h1, h2⟩ := hH.2 i b' hb'
  rw [List.getElem?_take_of_lt hi] at h1
  rcases h2 with ⟨g1, g2⟩ | ⟨_, _, rfl⟩
  · rw [(blk_ren_kind g2).2, g1] at hd; cases hd
  · exact h1
theorem scrub_clean {dead : Option (List Nat)} {s s' : St} (h : scrub n0 dead s = some s') : CleanStep n0 s.mem s'.mem := by
  unfold scrub at h
  split at h
  · obtain rfl := Option.some.inj h; exact CleanStep.refl _
  · split at h
    · rename_i fr m hcr
      obtain rfl := Option.some.inj h
      exact cramp_clean hcr
    · cases h
theorem exec_clean {N : Nat} : ∀ (ac : ACode) (s s' : St) (x : Ex), exec C noL n0 N ac s = some (x, s') → CleanStep n0 s.mem s'.mem := by
  intro ac
  induction ac with
  | skip => intro s s' x h; simp only [exec, Option.some.injEq, Prod.mk.injEq] at h; obtain ⟨_, rfl⟩ := h; exact CleanStep.refl _
  | exit id => intro s s' x h; simp only [exec, Option.some.injEq, Prod.mk.injEq] at h; obtain ⟨_, rfl⟩ := h; exact CleanStep.refl _
  | ret => intro s s' x h; simp only [exec, Option.some.injEq, Prod.mk.injEq] at h; obtain ⟨_, rfl⟩ := h; exact CleanStep.refl _
  | ops l drawn =>
    intro s s' x h
    simp only [exec] at h
    cases drawn with
    | true =>
      rw [cond_true] at h
      split at h
      case h_2 => cases h
      rename_i s1 fs hops
      have h := (bif_some h).2
      simp only [Option.some.injEq, Prod.mk.injEq] at h; obtain ⟨_, rfl⟩ := h
      exact fun hn => ((pad_clean _ _).trans (opsD_clean hops hn)) hn
    | false =>
      rw [cond_false] at h
      split at h
      case h_2 => cases h
      rename_i s1 fs hops
      simp only [Option.some.injEq, Prod.mk.injEq] at h; obtain ⟨_, rfl⟩ := h
      exact ops_clean hops
  | seq a b iha ihb =>
    intro s s' x h
    simp only [exec] at h
    split at h
    · rename_i s1 he1
      exact (iha s s1 _ he1).trans (ihb s1 s' x h)
    · exact iha s s' x h
  | cond c t e iht ihe =>
    intro s s' x h
    simp only [exec] at h
    split at h
    · rename_i b hb
      cases b with
      | true => exact iht s s' x h
      | false => exact ihe s s' x h
    · cases h
  | block id b ih =>
    intro s s' x h
    simp only [exec] at h
    split at h
    · rename_i i s1 he1
      cases hq : Nat.beq i id with
      | true => rw [hq, cond_true] at h; simp only [Option.some.injEq, Prod.mk.injEq] at h; obtain ⟨_, rfl⟩ := h; exact ih s s1 _ he1
      | false => rw [hq, cond_false] at h; simp only [Option.some.injEq, Prod.mk.injEq] at h; obtain ⟨_, rfl⟩ := h; exact ih s s1 _ he1
    · exact ih s s' x h
  | loop id dead b ih =>
    intro s s' x h
    simp only [exec, noL] at h
    have key : ∀ (k : Nat) (s1 : St), iterA (exec C noL n0 N b) (scrub n0 dead) k s1 = some (x, s') → CleanStep n0 s1.mem s'.mem := by
      intro k
      induction k with
      | zero => intro s1 h; cases h
      | succ k ihk =>
        intro s1 h
        simp only [iterA] at h
        split at h
        case h_2 => cases h
        rename_i s2 hsc
        split at h
        · rename_i s3 hb
          exact ((scrub_clean hsc).trans (ih s2 s3 _ hb)).trans (ihk s3 h)
        · exact (scrub_clean hsc).trans (ih s2 s' x h)
    exact key N s h
end

/-! ### Results -/
section
variable {P : Program} {C : Orc} {B : Nat} {f : FM} {w : World}
theorem res_run : ∀ {rs : List ResultVar} {ars : List ARes}, compRes P rs = some ars → ∀ {s : St} {tmps : Array Value}, MRel B f s.mem w → VRels f s.fr tmps.toList → ∀ {vs : List AV}, resAll s ars = some vs →
    ∃ Vs, (rs.mapM (m := Sem) fun (r : ResultVar) => match r with | .tmp t => pure (tmps.getD t undef) | .cell a t => do loadVar t (← asAddr (tmps.getD a undef))).run P w = .ok Vs w ∧ VRels f vs Vs
  | [], ars, hc, s, tmps, hm, hf, vs, h => by
    simp only [compRes, Option.some.injEq] at hc; subst hc
    simp only [resAll, Option.some.injEq] at h; subst h
    exact ⟨[], by simp, VRels.nil⟩
  | r :: rs, ars, hc, s, tmps, hm, hf, vs, h => by
    have tmp_rel : ∀ t, VRel f (s.fr.getD t undefA) (tmps.getD t undef) := fun t => eval_rel (a := ⟨tmps, []⟩) (x := .tmp t) (ax := .tmp t) rfl hf
    cases r with
    | tmp t =>
      simp only [compRes] at hc
      split at hc
      case h_2 => cases hc
      rename_i r' hr'
      obtain rfl := Option.some.inj hc
      simp only [resAll, resA] at h
      split at h
      case h_2 => cases h
      rename_i v vs' h1 h2
      obtain rfl := Option.some.inj h
      obtain rfl := Option.some.inj h1
      obtain ⟨Vs, g1, g2⟩ := res_run hr' hm hf h2
      refine ⟨tmps.getD t undef :: Vs, ?_, VRels.cons (tmp_rel t) g2⟩
      rw [List.mapM_cons]
      simp only [Sem.run_bind, Sem.run_pure, Result.andThen_ok, g1]
    | cell t ty =>
      simp only [compRes] at hc
      split at hc
      case h_2 => cases hc
      rename_i k r' hk hr'
      obtain rfl := Option.some.inj hc
      simp only [resAll, resA] at h
      split at h
      case h_2 => cases h
      rename_i v vs' h1 h2
      obtain rfl := Option.some.inj h
      split at h1
      case h_2 => cases h1
      rename_i i off hp
      split at h1
      case h_2 => cases h1
      rename_i b hb
      obtain ⟨Vs, g1, g2⟩ := res_run hr' hm hf h2
      have hpr := tmp_rel t
      rw [hp] at hpr
      obtain ⟨U, g3, g4⟩ := run_load_part (P := P) hm hk hb h1 hpr
      have hpr' := hpr
      rw [VRel] at hpr'
      obtain ⟨y, _, hy⟩ := hpr'
      refine ⟨U :: Vs, ?_, VRels.cons g4 g2⟩
      rw [List.mapM_cons]
      rw [hy] at g3
      simp only [Instr.loadAt, Instr.sureAddr, Sem.run_bind, Sem.run_pure, Result.andThen_ok] at g3
      have ha : (asAddr (tmps.getD t undef)).run P w = .ok ⟨y.1, off, none⟩ w := by rw [hy]; rfl
      simp only [Sem.run_bind, ha, Sem.run_pure, Result.andThen_ok, g3, g1]
def oneV : List Value → Value
  | [V] => V
  | l => .tuple l.toArray
theorem one_rel : ∀ {vs : List AV} {Vs : List Value}, VRels f vs Vs → VRel f (oneA vs) (oneV Vs)
  | [], Vs, h => by rw [VRels] at h; subst h; rw [oneA, VRel]; exact ⟨#[], rfl, by simp [VRels]⟩; intro v h; cases h
  | [a], Vs, h => by obtain ⟨A, rfl, h1⟩ := rels1 h; exact h1
  | a :: b :: l, Vs, h => by
    have hl := h.length
    match Vs, hl, h with
    | [], hl, _ => simp at hl
    | [A], hl, _ => simp at hl
    | A :: D :: r, _, h => show VRel f (.tup (a :: b :: l)) (.tuple (A :: D :: r).toArray); rw [VRel]; exact ⟨_, rfl, by simpa using h⟩
theorem results_run {fn : Func} {ars : List ARes} (hc : compRes P fn.results.toList = some ars) {s : St} {tmps : Array Value} (hm : MRel B f s.mem w) (hf : VRels f s.fr tmps.toList) {vs : List AV} (h : resAll s ars = some vs) :
    ∃ Vs : List Value, VRels f vs Vs ∧ (results fn tmps).run P w = .ok (oneV Vs) w := by
  obtain ⟨Vs, h1, h2⟩ := res_run hc hm hf h
  refine ⟨Vs, h2, ?_⟩
  have h3 : (fn.results.mapM (m := Sem) fun (r : ResultVar) => match r with | .tmp t => pure (tmps.getD t undef) | .cell a t => do loadVar t (← asAddr (tmps.getD a undef))).run P w = .ok Vs.toArray w := by
    rw [Array.mapM_eq_mapM_toList]
    simp only [Sem.run_map]
    rw [h1]; rfl
  unfold results
  rw [Sem.run_bind]
  refine Eq.trans (congrArg (fun r => Result.andThen r _) h3) ?_
  simp only [Result.andThen_ok, Sem.run_pure]
  match Vs with
  | [] => rfl
  | [V] => rfl
  | V :: U :: r => simp [oneV]

theorem compFn_spec {D : Nat → Option (List Nat)} {g : FuncId} {fn : AFun} (h : compFn P D g = some fn) : ∃ (fn0 : Func) (c : Code) (n : Nat), P.funcs[g]? = some fn0 ∧ fn0.body = some c ∧ comp P D c 0 = some (fn.code, n) ∧ compRes P fn0.results.toList = some fn.results ∧ fn.ntmps = fn0.ntmps ∧ fn0.name ≠ "runtime.NumGoroutine" := by
  unfold compFn at h
  split at h
  case h_2 => cases h
  rename_i fn0 hfn
  split at h
  case h_2 => cases h
  rename_i c hb
  split at h
  case h_2 => cases h
  rename_i c' n r h1 h2
  split at h
  · cases h
  · rename_i hne
    obtain rfl := Option.some.inj h
    exact ⟨fn0, c, n, hfn, hb, h1, h2, rfl, hne⟩
theorem runF_ok (hP : P.follows .mixedOrders = true) (hC : OrcOK P C) {D : Nat → Option (List Nat)} {g : FuncId} {fn : AFun} (hfn : compFn P D g = some fn) {N : Nat} {args : List AV} {M M' : Mem} {v : AV} (h : runF C noL N fn args M = some (v, M')) :
    (∃ fn, P.funcs[g]? = some fn ∧ fn.name ≠ "runtime.NumGoroutine" ∧ fn.body.isSome = true) ∧ M.length ≤ M'.length ∧ (∀ (i : Nat) (b b' : Blk), M[i]? = some b → M'[i]? = some b' → b'.dirty = false → b' = b) ∧
    ∀ (B : Nat) (f : FM) (w : World) (Vs : Array Value), MRel B f M w → B ≤ w.heap.size → VRels f args Vs.toList → Calls P g Vs w (fun e w' => ∃ f' V, e = .returned V ∧ Sub f f' ∧ MRel B f' M' w' ∧ VRel f' v V ∧ Went f M w f' M' w') := by
  obtain ⟨fn0, c, n, h1, h2, h3, h4, h5, h6⟩ := compFn_spec hfn
  -- the run
  have key : ∃ x s vs vs', (x = .norm ∨ x = .ret) ∧ exec C noL M.length N fn.code ⟨frame0 fn args, M⟩ = some (x, s) ∧ resAll s fn.results = some vs ∧ cramp M.length vs s.mem = some (vs', M') ∧ v = oneA vs' := by
    unfold runF at h
    split at h
    · rename_i s he
      split at h
      · rename_i vs hr
        split at h
        · rename_i vs' m hcr
          simp only [Option.some.injEq, Prod.mk.injEq] at h
          obtain ⟨rfl, rfl⟩ := h
          exact ⟨.norm, s, vs, _, .inl rfl, he, hr, hcr, rfl⟩
        · cases h
      · cases h
    · rename_i s he
      split at h
      · rename_i vs hr
        split at h
        · rename_i vs' m hcr
          simp only [Option.some.injEq, Prod.mk.injEq] at h
          obtain ⟨rfl, rfl⟩ := h
          exact ⟨.ret, s, vs, _, .inr rfl, he, hr, hcr, rfl⟩
        · cases h
      · cases h
    · cases h
  obtain ⟨x, s, vs, vs', hx, he, hr, hcr, rfl⟩ := key
  have hcl := ((exec_clean (n0 := M.length) _ _ _ _ he).trans (cramp_clean hcr)) (Nat.le_refl _)
  refine ⟨⟨fn0, h1, h6, by rw [h2]; rfl⟩, hcl.1, fun i b b' hb hb' hd => ?_, fun B f w Vs hm hB hv => ?_⟩
  · have := hcl.2 i b' (lt_of_get hb) hb' hd
    rw [hb] at this
    exact (Option.some.inj this).symm
  · refine calls_of_wp h1 h2 ?_
    have hargs : args.length = Vs.size := by have := hv.length; simpa using this
    have hf0 : VRels f (frame0 fn args) (Vs ++ Array.replicate (fn0.ntmps - Vs.size) undef).toList := by
      unfold frame0
      rw [Array.toList_append, Array.toList_replicate, h5, hargs]
      exact hv.app (VRels.rep undef_rel _)
    refine wp_mono (exec_ok (a := { tmps := Vs ++ Array.replicate (fn0.ntmps - Vs.size) undef, defers := [] }) hP hC c 0 n fn.code ⟨frame0 fn args, M⟩ s x f w h3 he hm hf0 rfl hB (Nat.le_refl _)) ?_
    rintro e a' w' ⟨rfl, f1, g1, g2, g3, g4, g5, g6⟩
    obtain ⟨Us, r1, r2⟩ := results_run (fn := fn0) h4 g2 g3 hr
    obtain ⟨f2, k1, k2, k3, k4, k5, _⟩ := crampBy_ok hcr g2 g6 r1
    have hkeep := g1.trans k1
    have hpre : Sub f f2 := fun i x hx => hkeep i x (hm.dom i x hx) hx
    have fin : ∃ v, (results fn0 a'.tmps).run P w' = .ok v w' ∧ (fun (e : Ending) w' => ∃ f' V, e = .returned V ∧ Sub f f' ∧ MRel B f' M' w' ∧ VRel f' (oneA vs') V ∧ Went f M w f' M' w') (.returned v) w' :=
      ⟨_, r2, f2, _, rfl, hpre, k2, one_rel k3, g5.trans k4⟩
    rcases hx with rfl | rfl
    · exact ⟨g4, fin⟩
    · exact ⟨g4, fin⟩
end

/-! ### The functions of a program, as deep as n -/
/-- Called with no more than n calls within one another. -/
def orcN (P : Program) (D : FuncId → Nat → Option (List Nat)) (N : Nat) (C : Orc) : Nat → Orc
  | 0 => C
  | n + 1 => fun f args M => match C f args M with
    | some r => some r
    | none => match compFn P (D f) f with
      | some fn => runF (orcN P D N C n) noL N fn args M
      | none => none
theorem orcN_ok {P : Program} (hP : P.follows .mixedOrders = true) {D : FuncId → Nat → Option (List Nat)} {N : Nat} {C : Orc} (hC : OrcOK P C) : ∀ n, OrcOK P (orcN P D N C n)
  | 0 => hC
  | n + 1 => by
    intro g args M v M' h hcl
    simp only [orcN] at h
    split at h
    · rename_i r hr
      obtain rfl := Option.some.inj h
      exact hC g args M v M' hr hcl
    · split at h
      · rename_i fn hfn
        exact runF_ok hP (orcN_ok hP hC n) hfn h
      · cases h
def noC : Orc := fun _ _ _ => none
theorem noC_ok (P : Program) : OrcOK P noC := fun _ _ _ _ _ h => by cases h
end Go.Proofs.Ytfdhfhgljhnhlaa
/- What a law's run on the small machine says of the law. No condition. -/
namespace Go.Proofs.Ytfdhfhgljhnhlaa
open Go Go.RowKit

theorem mrel_nil (w : World) (B : Nat) : MRel B noF [] w := ⟨fun _ _ h => by simp [noF] at h, by simp, by simp, by simp, by simp⟩
theorem law_ok {P : Program} {C : Orc} (hC : OrcOK P C) {g : FuncId} {args : List AV} {M M' : Mem} (h : C g args M = some (.bool true, M')) (hcl : ∀ b ∈ M, b.dirty = false) {f : FM} {W : World} (hm : MRel W.heap.size f M W) {Vs : Array Value} (hv : VRels f args Vs.toList) :
    Calls P g Vs W (fun e w' => e = .returned (.bool true) ∧ Below W.heap.size W w') := by
  obtain ⟨_, _, _, h4⟩ := hC g args M _ M' h hcl
  refine (h4 W.heap.size f W Vs hm (Nat.le_refl _) hv).mono ?_
  rintro e w' ⟨f', V, rfl, _, _, hV, hw⟩
  rw [VRel] at hV; subst hV
  exact ⟨rfl, hw.below hm (Nat.le_refl _)⟩
def isTrue : Option (AV × Mem) → Bool
  | some (.bool true, _) => true
  | _ => false
theorem isTrue_spec {r : Option (AV × Mem)} (h : isTrue r = true) : ∃ M', r = some (.bool true, M') := by
  unfold isTrue at h
  split at h
  · exact ⟨_, rfl⟩
  · cases h
theorem law_closed {P : Program} {C : Orc} (hC : OrcOK P C) {g : FuncId} (h : isTrue (C g [] []) = true) (W : World) : Calls P g #[] W (fun e w' => e = .returned (.bool true) ∧ Below W.heap.size W w') := by
  obtain ⟨M', h⟩ := isTrue_spec h
  exact law_ok hC h (by simp) (mrel_nil W _) (by simp [VRels])
end Go.Proofs.Ytfdhfhgljhnhlaa
/- The small machine with conditions: what a run asks for is gathered as a proposition; what a table of functions says may hang on conditions; a loop may be taken by its states. No condition. -/
namespace Go.Proofs.Ytfdhfhgljhnhlaa
open Go Go.RowKit

/-! ### Tables with conditions -/
abbrev OrcP := FuncId → List AV → Mem → Option (Option Prop × AV × Mem)
def holds : Option Prop → Prop
  | none => True
  | some q => q
def forget (C : OrcP) : Orc := fun g a M => match C g a M with
  | some (_, v, M') => some (v, M')
  | none => none
abbrev Dec := ∀ q : Option Prop, Decidable (holds q)
def clC (dec : Dec) (C : OrcP) : Orc := fun g a M => match C g a M with
  | some (q, v, M') => @ite _ (holds q) (dec q) (some (v, M')) none
  | none => none
def OrcPOK (P : Program) (C : OrcP) : Prop := ∀ dec : Dec, OrcOK P (clC dec C)
def preC (C : OrcP) (g : FuncId) (a : List AV) (M : Mem) (K : Prop) : Prop := match C g a M with
  | some (some q, _) => q ∧ K
  | _ => K
def preOn (C : OrcP) (g : FuncId) (args : List AV) (M : Mem) (is : List Nat) (K : Prop) : Prop :=
  match renL (fun i => placeOf i is) args, pickM M is with
  | some a', some l => match renM (fun i => placeOf i is) (cleanM l) with
    | some l' => preC C g a' l' K
    | none => K
  | _, _ => K
def preA (C : OrcP) (g : FuncId) (args : List AV) (M : Mem) (K : Prop) : Prop :=
  match refsL args with
  | [] => preC C g args [] K
  | rs => preOn C g args M (reach 0 M 10000 rs []) K
def preW (C : OrcP) (p : Prim) (vs : List AV) (M : Mem) (K : Prop) : Prop :=
  match p with
  | .callf g => preA C g vs M K
  | .callv => match vs with
    | .fn g fs cs :: vs => preA C g (fs ++ vs ++ cs) M K
    | _ => K
  | _ => K

/-! ### Runs that ask -/
inductive VH where
  | val (v : AV)
  | op (v : AV) (m : Mem) (ft : Foot)
  | ask
  | askv (v : AV)
  | askp (v : AV)
/-- Operations that are carried out under a condition, where that cannot be reckoned. -/
def psemQ (p : Prim) (vs : List AV) (M : Mem) : Option (Prop × AV × Mem × Foot) :=
  match p with
  | .add64 => match vs with
    | [.int _ x, .int _ y, .int _ c] => some (c.toNat ≤ 1, .tup [.int .u64 (((x.toNat + y.toNat + c.toNat) % 18446744073709551616 : Nat) : Int), .int .u64 (((x.toNat + y.toNat + c.toNat) / 18446744073709551616 : Nat) : Int)], M, ⟨[], [], false, false⟩)
    | _ => none
  | .sub64 => match vs with
    | [.int _ x, .int _ y, .int _ c] => some (c.toNat ≤ 1, .tup [.int .u64 (((x.toNat + 18446744073709551616 - y.toNat - c.toNat) % 18446744073709551616 : Nat) : Int), .int .u64 ((if x.toNat < y.toNat + c.toNat then 1 else 0 : Nat) : Int)], M, ⟨[], [], false, false⟩)
    | _ => none
  | .idxA len esz => match vs with
    | [.ptr i off, .int _ n] => some (inR n len = some n.toNat, .ptr i (off + n.toNat * esz), M, ⟨[], [], false, false⟩)
    | _ => none
  | .idxS esz => match vs with
    | [.sl i off _ len e _, .int _ n] => some (e = esz ∧ inR n len = some n.toNat, .ptr i (off + n.toNat * esz), M, ⟨[], [], false, false⟩)
    | _ => none
  | .idxV len esz none => match vs with
    | [.nums k l, .int _ n] => some (inR n len = some n.toNat ∧ n.toNat * esz < l.length, .int k (l.getD (n.toNat * esz) 0), M, ⟨[], [], false, false⟩)
    | _ => none
  | .load none => match vs with
    | [.ptr i off] => match liveB M i with
      | some b => match b.cells with
        | .nums k l => some (off < l.length, .int k (l.getD off 0), M, ⟨[i], [], false, false⟩)
        | .at o (.nums k l) => some (o ≤ off ∧ off - o < l.length, .int k (l.getD (off - o) 0), M, ⟨[i], [], false, false⟩)
        | _ => none
      | none => none
    | _ => none
  | .load (some (n, _)) => match vs with
    | [.ptr i off] => match liveB M i with
      | some b => match b.cells with
        | .nums k l => some (off = 0 ∧ l.length = n, .nums k l, M, ⟨[i], [], false, false⟩)
        | .at o (.nums k l) => some (o ≤ off ∧ off - o + n ≤ l.length, .nums k ((l.drop (off - o)).take n), M, ⟨[i], [], false, false⟩)
        | _ => none
      | none => none
    | _ => none
  | .store n => match vs with
    | [.ptr i off, .int k' x] => match ownB M i with
      | some b => match b.cells with
        | .nums k l => some (k = k' ∧ n = 1 ∧ off < l.length, undefA, M.set i ⟨.nums k (l.set off x), b.kind, true⟩, ⟨[], [i], true, false⟩)
        | _ => none
      | none => none
    | [.ptr i off, .nums k' l'] => match ownB M i with
      | some b => match b.cells with
        | .nums k l => some (k = k' ∧ off = 0 ∧ l'.length = n ∧ l.length = n, undefA, M.set i ⟨.nums k l', b.kind, true⟩, ⟨[], [i], true, false⟩)
        | _ => none
      | none => none
    | _ => none
  | .eqv neg (.cells n) => match vs with
    | [.nums k l, .nums k' l'] => some (k = k' ∧ l.length = n ∧ l'.length = n, .bool (bif neg then !(l == l') else (l == l')), M, ⟨[], [], false, false⟩)
    | _ => none
  | .slS esz false true => match vs with
    | [.sl i off base len e lim, .int _ h] => some (e = esz ∧ inB h len = some h.toNat, .sl i off base h.toNat esz lim, M, ⟨[], [], false, false⟩)
    | _ => none
  | .slS esz true false => match vs with
    | [.sl i off base len e lim, .int _ h] => some (e = esz ∧ inB h len = some h.toNat, .sl i (off + h.toNat * esz) (bif Nat.beq h.toNat 0 then base else off) (len - h.toNat) esz lim, M, ⟨[], [], false, false⟩)
    | _ => none
  | _ => none
theorem psemQ_ok {C : Orc} {p : Prim} {vs : List AV} {M : Mem} {q : Prop} {v : AV} {m : Mem} {ft : Foot} (h : psemQ p vs M = some (q, v, m, ft)) (hq : q) : psem C p vs M = some (v, m, ft) := by
  unfold psemQ at h
  split at h
  · split at h
    case h_2 => cases h
    simp only [Option.some.injEq, Prod.mk.injEq] at h
    obtain ⟨rfl, rfl, rfl, rfl⟩ := h
    have : ∀ c : Int, c.toNat ≤ 1 → Nat.ble c.toNat 1 = true := fun c hc => by simpa using hc
    simp only [psem, this _ hq, cond_true]; rfl
  · split at h
    case h_2 => cases h
    simp only [Option.some.injEq, Prod.mk.injEq] at h
    obtain ⟨rfl, rfl, rfl, rfl⟩ := h
    have : ∀ c : Int, c.toNat ≤ 1 → Nat.ble c.toNat 1 = true := fun c hc => by simpa using hc
    simp only [psem, this _ hq, cond_true]; rfl
  · split at h
    case h_2 => cases h
    simp only [Option.some.injEq, Prod.mk.injEq] at h
    obtain ⟨rfl, rfl, rfl, rfl⟩ := h
    simp only [psem, hq]; rfl
  · split at h
    case h_2 => cases h
    simp only [Option.some.injEq, Prod.mk.injEq] at h
    obtain ⟨rfl, rfl, rfl, rfl⟩ := h
    obtain ⟨rfl, hq⟩ := hq
    have : ∀ n : Nat, Nat.beq n n = true := Nat.beq_refl
    simp only [psem, hq, this, cond_true]; rfl
  · split at h
    case h_2 => cases h
    simp only [Option.some.injEq, Prod.mk.injEq] at h
    obtain ⟨rfl, rfl, rfl, rfl⟩ := h
    obtain ⟨hq, hl⟩ := hq
    simp only [psem, hq, AV.isAgg, cond_true, AV.part, AV.get?, List.getElem?_eq_getElem hl, List.getD, Option.getD_some, Option.map_some]; rfl
  · split at h
    case h_2 => cases h
    split at h
    case h_2 => cases h
    rename_i b hb
    split at h
    case h_3 => cases h
    · rename_i k l hc
      simp only [Option.some.injEq, Prod.mk.injEq] at h
      obtain ⟨rfl, rfl, rfl, rfl⟩ := h
      simp only [psem, hb, hc, AV.part, AV.get?, List.getElem?_eq_getElem hq, List.getD, Option.getD_some, Option.map_some]
    · rename_i o' k l hc
      simp only [Option.some.injEq, Prod.mk.injEq] at h
      obtain ⟨rfl, rfl, rfl, rfl⟩ := h
      have h1 : ∀ a b : Nat, a ≤ b → Nat.ble a b = true := fun a b h => by simpa using h
      simp only [psem, hb, hc, AV.part, AV.get?, h1 _ _ hq.1, cond_true, List.getElem?_eq_getElem hq.2, List.getD, Option.getD_some, Option.map_some]
  · split at h
    case h_2 => cases h
    split at h
    case h_2 => cases h
    rename_i b hb
    split at h
    case h_3 => cases h
    · rename_i k l hc
      simp only [Option.some.injEq, Prod.mk.injEq] at h
      obtain ⟨rfl, rfl, rfl, rfl⟩ := h
      obtain ⟨rfl, rfl⟩ := hq
      have h1 : ∀ n : Nat, Nat.ble (0 + n) n = true := fun n => by simp
      simp only [psem, hb, hc, AV.part, AV.sub, h1, if_true, List.drop_zero, List.take_length]
    · rename_i o' k l hc
      simp only [Option.some.injEq, Prod.mk.injEq] at h
      obtain ⟨rfl, rfl, rfl, rfl⟩ := h
      have h1 : ∀ a b : Nat, a ≤ b → Nat.ble a b = true := fun a b h => by simpa using h
      simp only [psem, hb, hc, AV.part, AV.sub, h1 _ _ hq.1, h1 _ _ hq.2, cond_true, if_true]
  · split at h
    case h_3 => cases h
    · split at h
      case h_2 => cases h
      rename_i b hb
      split at h
      case h_2 => cases h
      rename_i k l hc
      simp only [Option.some.injEq, Prod.mk.injEq] at h
      obtain ⟨rfl, rfl, rfl, rfl⟩ := h
      obtain ⟨rfl, rfl, hl⟩ := hq
      have h1 : ∀ n : Nat, Nat.blt n l.length = true ↔ n < l.length := fun n => by simp
      simp only [psem, hb, hc, AV.csize, AV.plain, AV.one, AV.putR, if_true, (h1 _).2 hl]; rfl
    · split at h
      case h_2 => cases h
      rename_i b hb
      split at h
      case h_2 => cases h
      rename_i k l hc
      simp only [Option.some.injEq, Prod.mk.injEq] at h
      obtain ⟨rfl, rfl, rfl, rfl⟩ := h
      obtain ⟨rfl, rfl, rfl, hl⟩ := hq
      have h1 : ∀ n : Nat, Nat.beq n n = true := Nat.beq_refl
      have h2 : ∀ n : Nat, Nat.ble (0 + n) n = true := fun n => by simp
      have h3 : ∀ m : List Int, l.length = m.length → l.drop (0 + m.length) = [] := fun m hm => by rw [Nat.zero_add, ← hm]; exact List.drop_length
      simp only [psem, hb, hc, AV.csize, AV.plain, h1, Bool.and_self, cond_true, AV.putR, if_true, hl, h2, List.take_zero, List.nil_append, h3 _ hl, List.append_nil]
  · split at h
    case h_2 => cases h
    simp only [Option.some.injEq, Prod.mk.injEq] at h
    obtain ⟨rfl, rfl, rfl, rfl⟩ := h
    obtain ⟨rfl, rfl, hl⟩ := hq
    have : ∀ n : Nat, Nat.beq n n = true := Nat.beq_refl
    simp only [psem, eqA, if_true, hl, this, Bool.and_self, cond_true]; rfl
  · split at h
    case h_2 => cases h
    simp only [Option.some.injEq, Prod.mk.injEq] at h
    obtain ⟨rfl, rfl, rfl, rfl⟩ := h
    obtain ⟨rfl, hq⟩ := hq
    have : ∀ n : Nat, Nat.beq n n = true := Nat.beq_refl
    simp only [psem, this, cond_true, boundsA, hq, Nat.zero_mul, Nat.add_zero, Nat.sub_zero]; rfl
  · split at h
    case h_2 => cases h
    simp only [Option.some.injEq, Prod.mk.injEq] at h
    obtain ⟨rfl, rfl, rfl, rfl⟩ := h
    obtain ⟨rfl, hq⟩ := hq
    have : ∀ n : Nat, Nat.beq n n = true := Nat.beq_refl
    simp only [psem, this, cond_true, boundsA, hq]; rfl
  · cases h
/-- Parts of what is not known cell by cell. -/
def psemP (p : Prim) (vs : List AV) (M : Mem) : Option (Prop × AV × Mem × Foot) :=
  match p with
  | .load (some (n, _)) => match vs with
    | [.ptr i off] => match liveB M i with
      | some b => match b.cells with
        | .nums k l => some (off + n ≤ l.length, .nums k ((l.drop off).take n), M, ⟨[i], [], false, false⟩)
        | _ => none
      | none => none
    | _ => none
  | _ => none
theorem psemP_ok {C : Orc} {p : Prim} {vs : List AV} {M : Mem} {q : Prop} {v : AV} {m : Mem} {ft : Foot} (h : psemP p vs M = some (q, v, m, ft)) (hq : q) : psem C p vs M = some (v, m, ft) := by
  unfold psemP at h
  split at h
  · split at h
    case h_2 => cases h
    split at h
    case h_2 => cases h
    rename_i b hb
    split at h
    case h_2 => cases h
    rename_i k l hc
    simp only [Option.some.injEq, Prod.mk.injEq] at h
    obtain ⟨rfl, rfl, rfl, rfl⟩ := h
    have h1 : ∀ a b : Nat, a ≤ b → Nat.ble a b = true := fun a b h => by simpa using h
    simp only [psem, hb, hc, AV.part, AV.sub, h1 _ _ hq, if_true]
  · cases h
structure LoopH where
  n : Nat
  all : Bool
  st : Nat → St
structure Hints where
  val : List (Option Nat) → Nat → Option VH
  loop : List (Option Nat) → Nat → Option LoopH
def noH : Hints := ⟨fun _ _ => none, fun _ _ => none⟩
def keyOf (o : AOper) : Option Nat :=
  match o.dst with
  | some t => some t
  | none => match o.args with
    | .tmp t :: _ => some (100000 + t)
    | _ => none
def hintOf (H : Hints) (it : List (Option Nat)) (o : AOper) : Option VH := match keyOf o with
  | some t => H.val it t
  | none => none
/-- Whether both ways are to be walked (key 200000 + the slot). -/
def splitOf (H : Hints) (it : List (Option Nat)) (c : AOpd) : Bool := match c with
  | .tmp t => match H.val it (200000 + t) with
    | some .ask => true
    | _ => false
  | _ => false
def primW (C : OrcP) (h : Option VH) (p : Prim) (vs : List AV) (M : Mem) (K : AV → Mem → Foot → Prop) : Prop :=
  match h with
  | some (.op v m ft) => psem (forget C) p vs M = some (v, m, ft) ∧ preW C p vs M (K v m ft)
  | some (.val v') => match psem (forget C) p vs M with
    | some (v, m, ft) => preW C p vs M (v = v' ∧ K v' m ft)
    | none => False
  | some .ask => match psemQ p vs M with
    | some (q, v, m, ft) => q ∧ K v m ft
    | none => False
  | some (.askv v') => match psemQ p vs M with
    | some (q, v, m, ft) => q ∧ v = v' ∧ K v' m ft
    | none => False
  | some (.askp v') => match psemP p vs M with
    | some (q, v, m, ft) => q ∧ v = v' ∧ K v' m ft
    | none => False
  | none => match psem (forget C) p vs M with
    | some (v, m, ft) => preW C p vs M (K v m ft)
    | none => False
def stepW (C : OrcP) (h : Option VH) (o : AOper) (s : St) (K : St → Foot → Prop) : Prop :=
  match wantedA s.fr o.guard with
  | some true => primW C h o.prim (o.args.map (evalA s.fr)) s.mem fun v m ft => K ⟨putA s.fr o.dst v, m⟩ ft
  | some false => K ⟨putA s.fr o.dst undefA, s.mem⟩ ⟨[], [], false, false⟩
  | none => False
def stepDW (C : OrcP) (h : Option VH) (o : AOper) (r : Nat) (s : St) (K : St → Foot → Prop) : Prop :=
  match wantedA s.fr o.guard with
  | some true => primW C h o.prim (o.args.map (evalA s.fr)) s.mem fun v m ft => bif ft.fresh then (bif o.prim.isNew then (match m[s.mem.length]? with
        | some b => K ⟨putA s.fr o.dst (reV r v), s.mem.set r ⟨b.cells, b.kind, true⟩⟩ ⟨[], [r], true, true⟩
        | none => False) else False) else K ⟨putA s.fr o.dst v, m⟩ ft
  | some false => K ⟨putA s.fr o.dst undefA, s.mem⟩ ⟨[], [], false, false⟩
  | none => False
def opsW (C : OrcP) (H : Hints) (it : List (Option Nat)) : List AOper → St → (St → Prop) → Prop
  | [], s, K => K s
  | o :: l, s, K => stepW C (hintOf H it o) o s fun s' _ => opsW C H it l s' K
def opsDW (C : OrcP) (H : Hints) (it : List (Option Nat)) : List AOper → Nat → St → (St → List (Foot × Nat) → Prop) → Prop
  | [], _, s, K => K s []
  | o :: l, r, s, K => stepDW C (hintOf H it o) o r s fun s' ft => opsDW C H it l (bif o.prim.isNew then r + 1 else r) s' fun s'' fs => K s'' ((ft, s.mem.length) :: fs)
def allN (F : Nat → Prop) : Nat → Nat → Prop
  | _, 0 => True
  | i, k + 1 => F i ∧ allN F (i + 1) k
def scrubW (n0 : Nat) (dead : Option (List Nat)) (s : St) (K : St → Prop) : Prop := match scrub n0 dead s with
  | some s' => K s'
  | none => False
def iterW (F : Nat → St → (Ex → St → Prop) → Prop) (h : St → (St → Prop) → Prop) : Nat → Nat → St → (Ex → St → Prop) → Prop
  | 0, _, _, _ => False
  | n + 1, i, s, Q => h s fun s' => F i s' fun x s'' => match x with
    | .norm => iterW F h n (i + 1) s'' Q
    | x => Q x s''
def execW (C : OrcP) (H : Hints) (n0 N : Nat) : ACode → List (Option Nat) → St → (Ex → St → Prop) → Prop
  | .skip, _, s, Q => Q .norm s
  | .ops l drawn, it, s, Q => bif drawn then opsDW C H it l s.mem.length ⟨s.fr, padM s.mem (newN l)⟩ (fun s' fs => bif drawnOK l fs then Q .norm s' else False) else opsW C H it l s (fun s' => Q .norm s')
  | .seq a b, it, s, Q => execW C H n0 N a it s fun x s' => match x with
    | .norm => execW C H n0 N b it s' Q
    | x => Q x s'
  | .cond c t e, it, s, Q => match evalA s.fr c with
    | .bool b => (match splitOf H it c with
      | true => (b = true → execW C H n0 N t it s Q) ∧ (b = false → execW C H n0 N e it s Q)
      | false => bif b then execW C H n0 N t it s Q else execW C H n0 N e it s Q)
    | _ => False
  | .block id b, it, s, Q => execW C H n0 N b it s fun x s' => match x with
    | .exit i => bif Nat.beq i id then Q .norm s' else Q (.exit i) s'
    | x => Q x s'
  | .loop id dead b, it, s, Q => match H.loop it id with
    | some lh => bif Nat.blt lh.n N then (scrubW n0 dead s fun s' => s' = lh.st 0) ∧
        (bif lh.all then (∀ i, i < lh.n → execW C H n0 N b (some i :: it) (lh.st i) fun x s'' => match x with
          | .norm => scrubW n0 dead s'' fun s3 => s3 = lh.st (i + 1)
          | _ => False)
        else allN (fun i => execW C H n0 N b (some i :: it) (lh.st i) fun x s'' => match x with
          | .norm => scrubW n0 dead s'' fun s3 => s3 = lh.st (i + 1)
          | _ => False) 0 lh.n) ∧
        (execW C H n0 N b (none :: it) (lh.st lh.n) fun x s'' => match x with
          | .norm => False
          | x => Q x s'') else False
    | none => iterW (fun i => execW C H n0 N b (some i :: it)) (scrubW n0 dead) N 0 s Q
  | .exit id, _, s, Q => Q (.exit id) s
  | .ret, _, s, Q => Q .ret s
def runW (C : OrcP) (H : Hints) (N : Nat) (fn : AFun) (args : List AV) (M : Mem) (R : AV → Mem → Prop) : Prop :=
  execW C H M.length N fn.code [] ⟨frame0 fn args, M⟩ fun x s =>
    match x with
    | .exit _ => False
    | _ => match resAll s fn.results with
      | some vs => (match cramp M.length vs s.mem with
        | some (vs', m) => R (oneA vs') m
        | none => False)
      | none => False
@[irreducible] def specW (P : Program) (D : Nat → Option (List Nat)) (C : OrcP) (H : Hints) (N : Nat) (g : FuncId) (args : List AV) (M : Mem) (R : AV → Mem → Prop) : Prop :=
  match compFn P D g with
  | some fn => runW C H N fn args M R
  | none => False

/-! ### They stand for runs -/
section
variable {C : OrcP} {H : Hints} {dec : Dec}
theorem preC_eq {g : FuncId} {a : List AV} {M : Mem} {K : Prop} (h : preC C g a M K) : clC dec C g a M = forget C g a M ∧ K := by
  unfold preC at h
  unfold clC forget
  cases hc : C g a M with
  | none => rw [hc] at h; exact ⟨rfl, h⟩
  | some r =>
    obtain ⟨q, v, M'⟩ := r
    rw [hc] at h
    cases q with
    | none => exact ⟨by simp [holds], h⟩
    | some q => exact ⟨by simp [holds, h.1], h.2⟩
theorem callOn_congr {C1 C2 : Orc} {g : FuncId} {args : List AV} {M : Mem} {is : List Nat} (h : ∀ a' l l', renL (fun i => placeOf i is) args = some a' → pickM M is = some l → renM (fun i => placeOf i is) (cleanM l) = some l' → C1 g a' l' = C2 g a' l') : callOn C1 g args M is = callOn C2 g args M is := by
  unfold callOn
  split
  · rename_i a' l ha hl
    split
    · rename_i l' hl'
      rw [h a' l l' ha hl hl']
    · rfl
  · rfl
theorem preOn_eq {g : FuncId} {args : List AV} {M : Mem} {is : List Nat} {K : Prop} (h : preOn C g args M is K) : callOn (clC dec C) g args M is = callOn (forget C) g args M is ∧ K := by
  unfold preOn at h
  split at h
  · rename_i a' l ha hl
    split at h
    · rename_i l' hl'
      obtain ⟨h1, h2⟩ := preC_eq (dec := dec) h
      refine ⟨callOn_congr fun a2 l2 l2' e1 e2 e3 => ?_, h2⟩
      rw [ha] at e1; obtain rfl := Option.some.inj e1
      rw [hl] at e2; obtain rfl := Option.some.inj e2
      rw [hl'] at e3; obtain rfl := Option.some.inj e3
      exact h1
    · rename_i hno
      refine ⟨callOn_congr fun a2 l2 l2' e1 e2 e3 => ?_, h⟩
      rw [ha] at e1; obtain rfl := Option.some.inj e1
      rw [hl] at e2; obtain rfl := Option.some.inj e2
      rw [hno] at e3; cases e3
  · rename_i hno
    refine ⟨callOn_congr fun a2 l2 l2' e1 e2 e3 => ?_, h⟩
    exact (hno _ _ e1 e2).elim
theorem preA_eq {g : FuncId} {args : List AV} {M : Mem} {K : Prop} (h : preA C g args M K) : callA (clC dec C) g args M = callA (forget C) g args M ∧ K := by
  unfold preA at h
  unfold callA
  cases hr : refsL args with
  | nil =>
    rw [hr] at h
    obtain ⟨h1, h2⟩ := preC_eq (dec := dec) h
    refine ⟨?_, h2⟩
    have h3 : callOn (clC dec C) g args M [] = callOn (forget C) g args M [] := callOn_congr fun a' l l' e1 e2 e3 => by
      rw [renL_none args hr] at e1; obtain rfl := Option.some.inj e1
      simp only [pickM, Option.some.injEq] at e2; subst e2
      simp only [cleanM, renM, Option.some.injEq] at e3; subst e3
      exact h1
    simp only [h1, h3]
  | cons i rs =>
    rw [hr] at h
    exact preOn_eq (dec := dec) h
theorem preW_eq {p : Prim} {vs : List AV} {M : Mem} {K : Prop} (h : preW C p vs M K) : psem (clC dec C) p vs M = psem (forget C) p vs M ∧ K := by
  cases p
  case callf g => exact preA_eq (dec := dec) h
  case callv =>
    simp only [preW] at h
    simp only [psem]
    split at h
    · exact preA_eq (dec := dec) h
    · rename_i hno
      refine ⟨?_, h⟩
      split
      · exact (hno _ _ _ _ rfl).elim
      · rfl
  case len b => exact ⟨by cases b <;> rfl, h⟩
  all_goals exact ⟨rfl, h⟩
theorem primW_eq {h : Option VH} {p : Prim} {vs : List AV} {M : Mem} {K : AV → Mem → Foot → Prop} (hW : primW C h p vs M K) : ∃ v m ft, psem (clC dec C) p vs M = some (v, m, ft) ∧ K v m ft := by
  unfold primW at hW
  split at hW
  · obtain ⟨h1, h2⟩ := hW
    obtain ⟨h3, h4⟩ := preW_eq (dec := dec) h2
    exact ⟨_, _, _, h3.trans h1, h4⟩
  · split at hW
    · rename_i v m ft hp
      obtain ⟨h3, rfl, h4⟩ := preW_eq (dec := dec) hW
      exact ⟨_, _, _, h3.trans hp, h4⟩
    · cases hW
  · split at hW
    · rename_i q v m ft hp
      exact ⟨_, _, _, psemQ_ok hp hW.1, hW.2⟩
    · cases hW
  · split at hW
    · rename_i q v m ft hp
      obtain ⟨h1, rfl, h2⟩ := hW
      exact ⟨_, _, _, psemQ_ok hp h1, h2⟩
    · cases hW
  · split at hW
    · rename_i q v m ft hp
      obtain ⟨h1, rfl, h2⟩ := hW
      exact ⟨_, _, _, psemP_ok hp h1, h2⟩
    · cases hW
  · split at hW
    · rename_i v m ft hp
      obtain ⟨h3, h4⟩ := preW_eq (dec := dec) hW
      exact ⟨_, _, _, h3.trans hp, h4⟩
    · cases hW
theorem stepW_eq {h : Option VH} {o : AOper} {s : St} {K : St → Foot → Prop} (hW : stepW C h o s K) : ∃ s' ft, stepA (clC dec C) o s = some (s', ft) ∧ K s' ft := by
  unfold stepW at hW
  unfold stepA
  split at hW
  · rename_i hw
    obtain ⟨v, m, ft, h1, h2⟩ := primW_eq (dec := dec) hW
    exact ⟨_, _, by simp only [hw, h1], h2⟩
  · rename_i hw
    exact ⟨_, _, by simp only [hw], hW⟩
  · cases hW
theorem stepDW_eq {h : Option VH} {o : AOper} {r : Nat} {s : St} {K : St → Foot → Prop} (hW : stepDW C h o r s K) : ∃ s' ft, stepD (clC dec C) o r s = some (s', ft) ∧ K s' ft := by
  unfold stepDW at hW
  unfold stepD
  split at hW
  · rename_i hw
    obtain ⟨v, m, ft, h1, h2⟩ := primW_eq (dec := dec) hW
    simp only [hw, h1]
    cases hf : ft.fresh with
    | true =>
      simp only [hf, cond_true] at h2 ⊢
      cases hn : o.prim.isNew with
      | true =>
        simp only [hn, cond_true] at h2 ⊢
        split at h2
        · rename_i b hb
          exact ⟨_, _, by simp only [hb], h2⟩
        · cases h2
      | false => rw [hn, cond_false] at h2; cases h2
    | false =>
      simp only [hf, cond_false] at h2 ⊢
      exact ⟨_, _, rfl, h2⟩
  · rename_i hw
    exact ⟨_, _, by simp only [hw], hW⟩
  · cases hW
theorem opsW_eq {it : List (Option Nat)} : ∀ {l : List AOper} {s : St} {K : St → Prop}, opsW C H it l s K → ∃ s' fs, opsA (clC dec C) l s = some (s', fs) ∧ K s'
  | [], s, K, h => ⟨s, [], rfl, h⟩
  | o :: l, s, K, h => by
    obtain ⟨s1, ft, h1, h2⟩ := stepW_eq (dec := dec) h
    obtain ⟨s2, fs, h3, h4⟩ := opsW_eq h2
    exact ⟨s2, (ft, s.mem.length) :: fs, by simp only [opsA, h1, h3], h4⟩
theorem opsDW_eq {it : List (Option Nat)} : ∀ {l : List AOper} {r : Nat} {s : St} {K : St → List (Foot × Nat) → Prop}, opsDW C H it l r s K → ∃ s' fs, opsD (clC dec C) l r s = some (s', fs) ∧ K s' fs
  | [], r, s, K, h => ⟨s, [], rfl, h⟩
  | o :: l, r, s, K, h => by
    obtain ⟨s1, ft, h1, h2⟩ := stepDW_eq (dec := dec) h
    obtain ⟨s2, fs, h3, h4⟩ := opsDW_eq h2
    exact ⟨s2, (ft, s.mem.length) :: fs, by simp only [opsD, h1, h3], h4⟩
theorem allN_get {F : Nat → Prop} : ∀ {k i : Nat}, allN F i k → ∀ j, i ≤ j → j < i + k → F j
  | 0, i, _, j, h1, h2 => by omega
  | k + 1, i, h, j, h1, h2 => by
    by_cases e : j = i
    · subst e; exact h.1
    · exact allN_get h.2 j (by omega) (by omega)
theorem scrubW_eq {n0 : Nat} {dead : Option (List Nat)} {s : St} {K : St → Prop} (h : scrubW n0 dead s K) : ∃ s', scrub n0 dead s = some s' ∧ K s' := by
  unfold scrubW at h
  split at h
  · rename_i s' hs; exact ⟨s', hs, h⟩
  · cases h
theorem iter_chain {f : St → Option (Ex × St)} {h : St → Option St} {st : Nat → St} {n : Nat} {x : Ex} {sr : St} (hx : x ≠ .norm) (hstep : ∀ i, i < n → ∃ s'', f (st i) = some (.norm, s'') ∧ h s'' = some (st (i + 1))) (hlast : f (st n) = some (x, sr)) :
    ∀ (k j N : Nat) (s : St), j + k = n → k < N → h s = some (st j) → iterA f h N s = some (x, sr) := by
  intro k
  induction k with
  | zero =>
    intro j N s hj hN hs
    obtain rfl : j = n := by omega
    cases N with
    | zero => omega
    | succ N =>
      simp only [iterA, hs, hlast]
      cases x with
      | norm => exact absurd rfl hx
      | exit id => rfl
      | ret => rfl
  | succ k ih =>
    intro j N s hj hN hs
    obtain ⟨s'', h1, h2⟩ := hstep j (by omega)
    cases N with
    | zero => omega
    | succ N =>
      simp only [iterA, hs, h1]
      exact ih (j + 1) N s'' (by omega) (by omega) h2
theorem execW_eq {n0 N : Nat} : ∀ (ac : ACode) (it : List (Option Nat)) (s : St) (Q : Ex → St → Prop), execW C H n0 N ac it s Q → ∃ x s', exec (clC dec C) noL n0 N ac s = some (x, s') ∧ Q x s' := by
  intro ac
  induction ac with
  | skip => intro it s Q h; exact ⟨_, _, rfl, h⟩
  | exit id => intro it s Q h; exact ⟨_, _, rfl, h⟩
  | ret => intro it s Q h; exact ⟨_, _, rfl, h⟩
  | ops l drawn =>
    intro it s Q h
    cases drawn with
    | true =>
      simp only [execW, cond_true] at h
      obtain ⟨s', fs, h1, h2⟩ := opsDW_eq (dec := dec) h
      cases hd : drawnOK l fs with
      | true =>
        rw [hd, cond_true] at h2
        exact ⟨_, _, by simp only [exec, cond_true, h1, hd], h2⟩
      | false => rw [hd, cond_false] at h2; cases h2
    | false =>
      simp only [execW, cond_false] at h
      obtain ⟨s', fs, h1, h2⟩ := opsW_eq (dec := dec) h
      exact ⟨_, _, by simp only [exec, cond_false, h1], h2⟩
  | seq a b iha ihb =>
    intro it s Q h
    simp only [execW] at h
    obtain ⟨x, s1, h1, h2⟩ := iha it s _ h
    cases x with
    | norm =>
      obtain ⟨x2, s2, h3, h4⟩ := ihb it s1 _ h2
      exact ⟨_, _, by simp only [exec, h1, h3], h4⟩
    | exit id => exact ⟨_, _, by simp only [exec, h1], h2⟩
    | ret => exact ⟨_, _, by simp only [exec, h1], h2⟩
  | cond c t e iht ihe =>
    intro it s Q h
    simp only [execW] at h
    split at h
    · rename_i b hb
      have h : bif b then execW C H n0 N t it s Q else execW C H n0 N e it s Q := by
        split at h
        · cases b with
          | true => exact h.1 rfl
          | false => exact h.2 rfl
        · exact h
      cases b with
      | true =>
        obtain ⟨x, s1, h1, h2⟩ := iht it s _ h
        exact ⟨_, _, by simp only [exec, hb, cond_true, h1], h2⟩
      | false =>
        obtain ⟨x, s1, h1, h2⟩ := ihe it s _ h
        exact ⟨_, _, by simp only [exec, hb, cond_false, h1], h2⟩
    · cases h
  | block id b ih =>
    intro it s Q h
    simp only [execW] at h
    obtain ⟨x, s1, h1, h2⟩ := ih it s _ h
    cases x with
    | norm => exact ⟨_, _, by simp only [exec, h1], h2⟩
    | ret => exact ⟨_, _, by simp only [exec, h1], h2⟩
    | exit i =>
      simp only at h2
      cases hq : Nat.beq i id with
      | true => rw [hq, cond_true] at h2; exact ⟨_, _, by simp only [exec, h1, hq, cond_true], h2⟩
      | false => rw [hq, cond_false] at h2; exact ⟨_, _, by simp only [exec, h1, hq, cond_false], h2⟩
  | loop id dead b ih =>
    intro it s Q h
    simp only [execW] at h
    simp only [exec, noL]
    split at h
    · rename_i lh hl
      cases hN : Nat.blt lh.n N with
      | false => rw [hN, cond_false] at h; cases h
      | true =>
      rw [hN, cond_true] at h
      obtain ⟨h1, h2, h3⟩ := h
      obtain ⟨s0, hs0, rfl⟩ := scrubW_eq h1
      have hstep : ∀ i, i < lh.n → ∃ s'', exec (clC dec C) noL n0 N b (lh.st i) = some (.norm, s'') ∧ scrub n0 dead s'' = some (lh.st (i + 1)) := by
        intro i hi
        have h4 : execW C H n0 N b (some i :: it) (lh.st i) fun x s'' => match x with
          | .norm => scrubW n0 dead s'' fun s3 => s3 = lh.st (i + 1)
          | _ => False := by
          cases ha : lh.all with
          | true => rw [ha, cond_true] at h2; exact h2 i hi
          | false => rw [ha, cond_false] at h2; exact allN_get h2 i (Nat.zero_le _) (by omega)
        obtain ⟨x, s'', h7, h8⟩ := ih _ _ _ h4
        cases x with
        | norm =>
          obtain ⟨s3, h9, rfl⟩ := scrubW_eq h8
          exact ⟨s'', h7, h9⟩
        | exit id => cases h8
        | ret => cases h8
      obtain ⟨x, s'', h7, h8⟩ := ih _ _ _ h3
      have hx : x ≠ .norm := fun e => by subst e; cases h8
      refine ⟨x, s'', iter_chain hx hstep h7 lh.n 0 N s (by omega) (blt_true hN) hs0, ?_⟩
      cases x with
      | norm => cases h8
      | exit id => exact h8
      | ret => exact h8
    · have : ∀ (k i : Nat) (s : St), iterW (fun i => execW C H n0 N b (some i :: it)) (scrubW n0 dead) k i s Q → ∃ x s', iterA (exec (clC dec C) noL n0 N b) (scrub n0 dead) k s = some (x, s') ∧ Q x s' := by
        intro k
        induction k with
        | zero => intro i s h; cases h
        | succ k ihk =>
          intro i s h
          simp only [iterW] at h
          obtain ⟨s1, h1, h2⟩ := scrubW_eq h
          obtain ⟨x, s2, h3, h4⟩ := ih _ s1 _ h2
          cases x with
          | norm =>
            obtain ⟨x2, s3, h5, h6⟩ := ihk (i + 1) s2 h4
            exact ⟨x2, s3, by simp only [iterA, h1, h3, h5], h6⟩
          | exit id => exact ⟨_, _, by simp only [iterA, h1, h3], h4⟩
          | ret => exact ⟨_, _, by simp only [iterA, h1, h3], h4⟩
      exact this N 0 s h
theorem runW_eq {N : Nat} {fn : AFun} {args : List AV} {M : Mem} {R : AV → Mem → Prop} (h : runW C H N fn args M R) : ∃ v M', runF (clC dec C) noL N fn args M = some (v, M') ∧ R v M' := by
  unfold runW at h
  obtain ⟨x, s, h1, h2⟩ := execW_eq (dec := dec) _ _ _ _ h
  have fin : ∀ (h3 : match resAll s fn.results with
      | some vs => (match cramp M.length vs s.mem with
        | some (vs', m) => R (oneA vs') m
        | none => False)
      | none => False), ∃ v M', (match resAll s fn.results with
      | some vs => (match cramp M.length vs s.mem with
        | some (vs', m) => some (oneA vs', m)
        | none => none)
      | none => none) = some (v, M') ∧ R v M' := by
    intro h3
    cases hr : resAll s fn.results with
    | none => rw [hr] at h3; cases h3
    | some vs =>
      rw [hr] at h3
      simp only at h3 ⊢
      cases hc : cramp M.length vs s.mem with
      | none => rw [hc] at h3; cases h3
      | some p => rw [hc] at h3; exact ⟨_, _, rfl, h3⟩
  unfold runF
  rw [h1]
  cases x with
  | norm => exact fin h2
  | ret => exact fin h2
  | exit id => cases h2
end

/-! ### Tables of what is known -/
def Spec := List AV → Mem → Option (Option Prop × AV × Mem)
def addS (C : OrcP) (g : FuncId) (S : Spec) : OrcP := fun f a M => bif Nat.beq f g then S a M else C f a M
theorem addS_ok {P : Program} (hP : P.follows .mixedOrders = true) {C C0 : OrcP} (hC : OrcPOK P C) (hC0 : OrcPOK P C0) {g : FuncId} {S : Spec} (h : ∀ a M q v M', S a M = some (q, v, M') → holds q → ∃ D H N, specW P D C0 H N g a M fun v2 M2 => v2 = v ∧ M2 = M') : OrcPOK P (addS C g S) := by
  intro dec f a M v M' hc hcl
  unfold clC addS at hc
  cases hfg : Nat.beq f g with
  | false =>
    rw [hfg, cond_false] at hc
    exact hC dec f a M v M' hc hcl
  | true =>
    obtain rfl := beq_true hfg
    rw [hfg, cond_true] at hc
    cases hs : S a M with
    | none => rw [hs] at hc; cases hc
    | some r =>
      obtain ⟨q, v', M''⟩ := r
      rw [hs] at hc
      simp only at hc
      split at hc
      · rename_i hq
        simp only [Option.some.injEq, Prod.mk.injEq] at hc
        obtain ⟨rfl, rfl⟩ := hc
        obtain ⟨D, H, N, hw⟩ := h a M q v' M'' hs hq
        unfold specW at hw
        split at hw
        · rename_i fn hfn
          obtain ⟨v2, M2, h1, rfl, rfl⟩ := runW_eq (dec := dec) hw
          exact runF_ok hP (hC0 dec) hfn h1
        · cases hw
      · cases hc
/-- What can be told without conditions. -/
def freeC (C : Orc) : OrcP := fun g a M => match C g a M with
  | some (v, M') => some (none, v, M')
  | none => none
theorem freeC_ok {P : Program} {C : Orc} (hC : OrcOK P C) : OrcPOK P (freeC C) := by
  intro dec f a M v M' hc hcl
  unfold clC freeC at hc
  cases hs : C f a M with
  | none => rw [hs] at hc; cases hc
  | some r =>
    obtain ⟨v', M''⟩ := r
    rw [hs] at hc
    simp only at hc
    rw [if_pos (show holds none from trivial)] at hc
    simp only [Option.some.injEq, Prod.mk.injEq] at hc
    obtain ⟨rfl, rfl⟩ := hc
    exact hC f a M _ _ hs hcl
/-- A law that returns true. -/
theorem law_W {P : Program} (hP : P.follows .mixedOrders = true) {C : OrcP} (hC : OrcPOK P C) {D : Nat → Option (List Nat)} {H : Hints} {N : Nat} {g : FuncId} {args : List AV} {M : Mem} (h : specW P D C H N g args M fun v _ => v = .bool true) (hcl : ∀ b ∈ M, b.dirty = false) {f : FM} {W : World} (hm : MRel W.heap.size f M W) {Vs : Array Value} (hv : VRels f args Vs.toList) :
    Calls P g Vs W (fun e w' => e = .returned (.bool true) ∧ Below W.heap.size W w') := by
  unfold specW at h
  split at h
  · rename_i fn hfn
    obtain ⟨v, M', h1, rfl⟩ := runW_eq (dec := fun q => Classical.propDecidable _) h
    obtain ⟨k1, k2, k3, k4⟩ := runF_ok hP (hC _) hfn h1
    have hO : OrcOK P (open Classical in fun g' a M0 => if g' = g ∧ a = args ∧ M0 = M then some (.bool true, M') else none) := by
      intro g' a M0 v0 M0' hc hcl0
      simp only at hc
      split at hc
      · rename_i e1
        obtain ⟨rfl, rfl, rfl⟩ := e1
        simp only [Option.some.injEq, Prod.mk.injEq] at hc
        obtain ⟨rfl, rfl⟩ := hc
        exact ⟨k1, k2, k3, k4⟩
      · cases hc
    exact law_ok hO (M' := M') (by rw [if_pos ⟨rfl, rfl, rfl⟩]) hcl hm hv
  · cases h
end Go.Proofs.Ytfdhfhgljhnhlaa
/- What a law is given, as the small machine takes it: arrays and slices of whole numbers. No condition. -/
namespace Go.Proofs.Ytfdhfhgljhnhlaa
open Go Go.RowKit Go.ChangeShapes Go.WideShapes

def allIntB (P : Program) (k : IntKind) : List TypeId → Bool
  | [] => true
  | u :: l => (match P.underlying u with | some (.int k') => decide (k' = k) | _ => false) && allIntB P k l
theorem allIntB_spec {P : Program} {k : IntKind} : ∀ {l : List TypeId}, allIntB P k l = true → ∀ u ∈ l, P.underlying u = some (.int k)
  | [], _, u, hu => by cases hu
  | v :: l, h, u, hu => by
    simp only [allIntB, Bool.and_eq_true] at h
    rcases List.mem_cons.1 hu with rfl | hu
    · have h1 := h.1
      split at h1
      · rename_i k' hk
        have : k' = k := by simpa using h1
        subst this; exact hk
      · cases h1
    · exact allIntB_spec h.2 u hu
theorem ints_of_vals {k : IntKind} : ∀ {vs : List Value}, (∀ v ∈ vs, ∃ n, v = Value.int k n ∧ k.has n) → ∃ l : List Int, vs = l.map (Value.int k) ∧ ∀ x ∈ l, k.has x
  | [], _ => ⟨[], rfl, fun _ h => by cases h⟩
  | v :: vs, h => by
    obtain ⟨n, rfl, hn⟩ := h v List.mem_cons_self
    obtain ⟨l, rfl, hl⟩ := ints_of_vals fun u hu => h u (List.mem_cons_of_mem _ hu)
    refine ⟨n :: l, rfl, fun x hx => ?_⟩
    rcases List.mem_cons.1 hx with rfl | hx
    · exact hn
    · exact hl x hx
theorem arg_arr {P : Program} {W : World} {r : Reach} {base : Nat} {t e : TypeId} {n : Nat} {k : IntKind} {v : Value} {ts : List TypeId} (hu : P.underlying t = some (.array n e)) (hts : P.cellTypes P.depth t = some ts) (hall : allIntB P k ts = true) (hn : P.cellsOf t = n)
    (h : Value.okWide P W r base t v) : ∃ l : List Int, v = .agg ((l.map (Value.int k)).toArray) ∧ l.length = n ∧ ∀ x ∈ l, k.has x := by
  simp only [Value.okWide, hu] at h
  obtain ⟨cs, rfl, hs, ts', h1, _, h3⟩ := h
  rw [hts] at h1
  obtain rfl := Option.some.inj h1
  have hall := allIntB_spec hall
  obtain ⟨l, hl, hr⟩ := ints_of_vals (k := k) (vs := cs.toList) fun v hv => by
    obtain ⟨i, hi⟩ := List.getElem?_of_mem hv
    obtain ⟨u, hu1, hu2⟩ := h3 i v (by simpa using hi)
    have := hall u (List.mem_of_getElem? hu1)
    simp only [Cell.okWide, this] at hu2
    cases v <;> simp_all [Cell.ok]
  refine ⟨l, by rw [← hl], ?_, hr⟩
  have := congrArg List.length hl
  simp only [List.length_map, Array.length_toList] at this
  omega
theorem wf_has {k : IntKind} {n : Int} (h : (Lit.int k n).wf = true) : k.has n := by
  simpa [Lit.wf, IntKind.has] using h
theorem arg_slice {H : Type} {enc : TypeId × Value → H} {P : Program} {W : World} {held : Bool} {r : Reach} {b0 base0 : Nat} {t e : TypeId} {k : IntKind} {v : Value} {d : DataW H} {ps : List MemPlace} (ht : P.underlying t = some (.slice e)) (he : P.underlying e = some (.int k)) (hc : P.cellsOf e = 1)
    (hval : Value.okWide P W r b0 t v) (hd : DataW.Trod enc P W base0 (fun _ => true) held t v d ps) : v = .slice none 0 0 ∨
    ∃ (x : Nat × Nat) (o base len cap : Nat) (l : List Int), len ≤ cap ∧ cap ≤ maxLen ∧ l.length = cap ∧ (∀ z ∈ l, k.has z) ∧ (∀ (f : FM) (i : Nat), f i = some x → VRel f (.sl i o base len 1 (some (o + cap))) v) ∧ (∀ f : FM, BRel f W ⟨.at o (.nums k l), .ro, false⟩ x) := by
  obtain ⟨fuel, hf⟩ := hd
  rcases open_ints ht he hc hf with ⟨h, _⟩ | ⟨a, len, cap, zs, h, _, hlen, hcap, hzs, _, hcell, hwf⟩
  · left
    obtain ⟨a', len', cap', rfl⟩ := okWide_slice ht hval
    simpa [Value.cells] using h
  · right
    obtain ⟨a', len', cap', rfl⟩ := okWide_slice ht hval
    simp only [Value.cells, List.cons.injEq, and_true] at h
    simp only [Value.slice.injEq] at h
    obtain ⟨rfl, rfl, rfl⟩ := h
    simp only [Value.okWide, ht, Cell.okWide, Cell.ok] at hval
    obtain ⟨_, _, _, hspot, row, cells, hshape, _⟩ := hval
    simp only [if_true] at hzs
    obtain ⟨b, off, spot⟩ := a
    simp only at hspot hshape
    subst hspot
    have hheap : ∃ A fz, W.heap[b]? = some (.cells A row fz) ∧ A.size = cells := by
      unfold World.shape? at hshape
      split at hshape
      · rename_i c elem fz hh
        simp only [Option.some.injEq, Prod.mk.injEq] at hshape
        obtain ⟨rfl, rfl⟩ := hshape
        exact ⟨c, fz, hh, rfl⟩
      · cases hshape
    obtain ⟨A, fz, hh, hA⟩ := hheap
    have hget : ∀ i, i < cap' → A[off + i]? = some (.int k (zs.getD i 0)) := by
      intro i hi
      have := hcell i (by omega)
      rw [addr_add] at this
      unfold World.cell? at this
      simpa [hh] using this
    by_cases h0 : cap' = 0
    · subst h0
      obtain rfl : len' = 0 := by omega
      obtain rfl : zs = [] := List.length_eq_zero_iff.1 (by omega)
      refine ⟨(b, A.size), 0, off, 0, 0, [], Nat.le_refl _, hcap, rfl, fun z hz => (nomatch hz), fun f i hi => ?_, fun f => ?_⟩
      · rw [VRel]
        exact ⟨(b, A.size), 0, hi, by omega, by simp, Nat.le_refl _, rfl⟩
      · refine .inr ⟨A, row, fz, hh, rfl, rfl, fun h => (nomatch h), by simp [AV.csize], by simp [AV.cells, AV.csize, VRels], fun h => (nomatch h)⟩
    · have hsz : off + cap' ≤ A.size := by
        have := hget (cap' - 1) (by omega)
        have := (Array.getElem?_eq_some_iff.1 this).1
        omega
      refine ⟨(b, A.size), off, off, len', cap', zs, hlen, hcap, hzs, fun z hz => wf_has (hwf z hz), fun f i hi => ?_, fun f => ?_⟩
      · rw [VRel]
        exact ⟨(b, A.size), cap', hi, by omega, by simp, hlen, by rw [if_neg h0]⟩
      · refine .inr ⟨A, row, fz, hh, rfl, rfl, fun h => (nomatch h), by simp only [AV.csize]; omega, ?_, fun h => (nomatch h)⟩
        simp only [AV.cells, AV.csize, hzs]
        have hsplit : A.toList.take (off + cap') = A.toList.take off ++ (A.toList.drop off).take cap' := by
          rw [List.take_add]
        rw [hsplit]
        refine VRels.app ?_ ?_
        · have : ∀ (n : Nat) (L : List Value), L.length = n → VRels f (List.replicate n .junk) L := by
            intro n
            induction n with
            | zero => intro L hL; obtain rfl := List.length_eq_zero_iff.1 hL; exact VRels.nil
            | succ n ih =>
              intro L hL
              cases L with
              | nil => simp at hL
              | cons V L => exact VRels.cons (by simp [VRel]) (ih L (by simpa using hL))
          exact this off _ (by simp; omega)
        · have : (A.toList.drop off).take cap' = zs.map (Value.int k) := by
            apply List.ext_getElem?
            intro i
            by_cases hi : i < cap'
            · rw [List.getElem?_take, if_pos hi, List.getElem?_drop, List.getElem?_map]
              have := hget i hi
              rw [Array.getElem?_toList, this]
              have hz : i < zs.length := by omega
              simp [List.getD, List.getElem?_eq_getElem hz]
            · rw [List.getElem?_eq_none (by simp; omega), List.getElem?_eq_none (by simp; omega)]
          rw [this]
          exact VRels.nums k zs
theorem has_u8 {n : Int} (h : IntKind.u8.has n) : 0 ≤ n ∧ n < 256 := by
  have h1 : IntKind.u8.min = 0 := by decide
  have h2 : IntKind.u8.max = 255 := by decide
  unfold IntKind.has at h
  rw [h1, h2] at h
  omega
theorem has_u64 {n : Int} (h : IntKind.u64.has n) : 0 ≤ n ∧ n < 18446744073709551616 := by
  have h1 : IntKind.u64.min = 0 := by decide
  have h2 : IntKind.u64.max = 18446744073709551615 := by decide
  unfold IntKind.has at h
  rw [h1, h2] at h
  omega
theorem has_i64 {n : Int} (h : IntKind.i64.has n) : -9223372036854775808 ≤ n ∧ n < 9223372036854775808 := by
  have h1 : IntKind.i64.min = -9223372036854775808 := by decide
  have h2 : IntKind.i64.max = 9223372036854775807 := by decide
  unfold IntKind.has at h
  rw [h1, h2] at h
  omega
/-- A memory of what may only be read. -/
theorem mrel_ro {B : Nat} {f : FM} {M : Mem} {w : World} (hd : ∀ (i : Nat) (x : Nat × Nat), f i = some x → i < M.length) (hro : ∀ b ∈ M, b.kind = .ro) (hb : ∀ (i : Nat) (b : Blk), M[i]? = some b → ∃ x, f i = some x ∧ BRel f w b x) : MRel B f M w := by
  have ro : ∀ (i : Nat) (b : Blk), M[i]? = some b → b.kind.mine = false := fun i b h => by rw [hro b (List.mem_of_getElem? h)]; rfl
  refine ⟨hd, fun i b h _ => ?_, fun i b x h1 h2 => ?_, fun i b x h1 _ h3 => ?_, fun i j b c x y h1 _ _ _ _ h3 => ?_⟩
  · obtain ⟨x, h1, _⟩ := hb i b h; exact ⟨x, h1⟩
  · obtain ⟨y, h3, h4⟩ := hb i b h1
    rw [h2] at h3
    obtain rfl := Option.some.inj h3
    exact h4
  · rw [ro i b h1] at h3; cases h3
  · rw [ro i b h1] at h3; cases h3
theorem mrel_1 {B : Nat} {w : World} {x : Nat × Nat} {c : AV} (h : ∀ f : FM, BRel f w ⟨c, .ro, false⟩ x) : MRel B (fun i => if i = 0 then some x else none) [⟨c, .ro, false⟩] w := by
  refine mrel_ro (fun i y hi => ?_) (by simp) fun i b hb => ?_
  · split at hi
    · simp_all
    · cases hi
  · rcases i with _ | i
    · simp only [List.getElem?_cons_zero, Option.some.injEq] at hb; subst hb; exact ⟨x, rfl, h _⟩
    · simp at hb
theorem mrel_2 {B : Nat} {w : World} {x y : Nat × Nat} {c d : AV} (h : ∀ f : FM, BRel f w ⟨c, .ro, false⟩ x) (h2 : ∀ f : FM, BRel f w ⟨d, .ro, false⟩ y) : MRel B (fun i => if i = 0 then some x else if i = 1 then some y else none) [⟨c, .ro, false⟩, ⟨d, .ro, false⟩] w := by
  refine mrel_ro (fun i z hi => ?_) (by simp) fun i b hb => ?_
  · split at hi
    · simp_all
    · split at hi
      · simp_all
      · cases hi
  · rcases i with _ | _ | i
    · simp only [List.getElem?_cons_zero, Option.some.injEq] at hb; subst hb; exact ⟨x, rfl, h _⟩
    · simp only [List.getElem?_cons_succ, List.getElem?_cons_zero, Option.some.injEq] at hb; subst hb; exact ⟨y, rfl, h2 _⟩
    · simp at hb
theorem mrel_3 {B : Nat} {w : World} {x y z : Nat × Nat} {c d e : AV} (h : ∀ f : FM, BRel f w ⟨c, .ro, false⟩ x) (h2 : ∀ f : FM, BRel f w ⟨d, .ro, false⟩ y) (h3 : ∀ f : FM, BRel f w ⟨e, .ro, false⟩ z) : MRel B (fun i => if i = 0 then some x else if i = 1 then some y else if i = 2 then some z else none) [⟨c, .ro, false⟩, ⟨d, .ro, false⟩, ⟨e, .ro, false⟩] w := by
  refine mrel_ro (fun i z hi => ?_) (by simp) fun i b hb => ?_
  · split at hi
    · simp_all
    · split at hi
      · simp_all
      · split at hi
        · simp_all
        · cases hi
  · rcases i with _ | _ | _ | i
    · simp only [List.getElem?_cons_zero, Option.some.injEq] at hb; subst hb; exact ⟨x, rfl, h _⟩
    · simp only [List.getElem?_cons_succ, List.getElem?_cons_zero, Option.some.injEq] at hb; subst hb; exact ⟨y, rfl, h2 _⟩
    · simp only [List.getElem?_cons_succ, List.getElem?_cons_zero, Option.some.injEq] at hb; subst hb; exact ⟨z, rfl, h3 _⟩
    · simp at hb
end Go.Proofs.Ytfdhfhgljhnhlaa
/- Operations on lists that are not known cell by cell. No condition. -/
namespace Go.Proofs.Ytfdhfhgljhnhlaa
open Go Go.RowKit

/-- Hints by rounds. -/
def eqIt : List (Option Nat) → List (Option Nat) → Bool
  | [], [] => true
  | some a :: l, some b :: m => Nat.beq a b && eqIt l m
  | none :: l, none :: m => eqIt l m
  | _, _ => false
def lkH : List (List (Option Nat) × VH) → List (Option Nat) → Option VH
  | [], _ => none
  | (p, v) :: l, it => bif eqIt p it then some v else lkH l it
/-- n bytes of a block, from off on. -/
def seg (l : List Int) (off n : Nat) : List Int := (l.drop off).take n
theorem ble_ok {a b : Nat} (h : a ≤ b) : Nat.ble a b = true := by simpa using h
theorem blt_ok {a b : Nat} (h : a < b) : Nat.blt a b = true := by simpa using h
theorem beq_ok (n : Nat) : Nat.beq n n = true := Nat.beq_refl n
theorem beq_no {a b : Nat} (h : a ≠ b) : Nat.beq a b = false := by
  cases hq : Nat.beq a b with
  | false => rfl
  | true => exact absurd (Nat.eq_of_beq_eq_true hq) h
theorem room_ok {n esz bytes : Nat} (h : n * (bytes + esz) ≤ 68719476736) : roomA n esz bytes = true := ble_ok h
theorem sub_nums {k : IntKind} {l : List Int} {off n : Nat} (h : off + n ≤ l.length) : (AV.nums k l).sub off n none = some (.nums k (seg l off n)) := by
  simp only [AV.sub, ble_ok h, if_true, seg]
theorem sub_at {k : IntKind} {o : Nat} {l : List Int} {off n : Nat} (ho : o ≤ off) (h : off - o + n ≤ l.length) : (AV.at o (.nums k l)).sub off n none = some (.nums k (seg l (off - o) n)) := by
  simp only [AV.sub, ble_ok ho, ble_ok h, cond_true, if_true, seg]
theorem src_nums {M : Mem} {j off b n : Nat} {lim : Option Nat} {k : IntKind} {l : List Int} {kd : BK} {d : Bool} (hj : liveB M j = some ⟨.nums k l, kd, d⟩) (h : off + n ≤ l.length) : srcA 1 n M (.sl j off b n 1 lim) = some (.nums k (seg l off n), [j]) := by
  simp only [srcA, beq_ok, ble_ok (Nat.le_refl n), Bool.and_self, cond_true, hj, Nat.mul_one, sub_nums h]
theorem src_at {M : Mem} {j off b n o : Nat} {lim : Option Nat} {k : IntKind} {l : List Int} {kd : BK} {d : Bool} (hj : liveB M j = some ⟨.at o (.nums k l), kd, d⟩) (ho : o ≤ off) (h : off - o + n ≤ l.length) : srcA 1 n M (.sl j off b n 1 lim) = some (.nums k (seg l (off - o) n), [j]) := by
  simp only [srcA, beq_ok, ble_ok (Nat.le_refl n), Bool.and_self, cond_true, hj, Nat.mul_one, sub_at ho h]
/-- To a slice that grows. -/
theorem app_grow {C : Orc} {M : Mem} {i base len n by' : Nat} {k : IntKind} {l c : List Int} {d : Bool} {x : AV} {rs : List Nat} (hi : liveB M i = some ⟨.nums k l, .grow, d⟩) (hl : l.length = len) (hx : lenA x = some n) (hs : srcA 1 n M x = some (.nums k c, rs)) (hr : (len + n) * (by' + 1) ≤ 68719476736) :
    psem C (.append 1 by') [.sl i 0 base len 1 none, x] M = some (.sl M.length 0 base (len + n) 1 none, M.set i ⟨.junk, .dead, true⟩ ++ [⟨.nums k (l ++ c), .grow, false⟩], ⟨[], [i], true, false⟩) := by
  have hj : joinD (.nums k l) (.nums k c) = some (.nums k (l ++ c)) := by simp only [joinD, AV.join, if_true]
  simp only [psem, appendA, hx, hs, beq_ok, room_ok hr, Bool.and_self, cond_true, hi, Nat.mul_one, AV.csize, hl, AV.isAgg, AV.plain, hj]
theorem app_grow_nil {C : Orc} {M : Mem} {i base len by' : Nat} {k : IntKind} {l : List Int} {d : Bool} (hi : liveB M i = some ⟨.nums k l, .grow, d⟩) (hl : l.length = len) (hr : len * (by' + 1) ≤ 68719476736) :
    psem C (.append 1 by') [.sl i 0 base len 1 none, .nilsl] M = some (.sl M.length 0 base len 1 none, M.set i ⟨.junk, .dead, true⟩ ++ [⟨.nums k l, .grow, false⟩], ⟨[], [i], true, false⟩) := by
  have hs : srcA 1 0 M .nilsl = some (.agg [], []) := rfl
  have hj : joinD (.nums k l) (.agg []) = some (.nums k l) := rfl
  have hp : (AV.agg []).plain = true := rfl
  simp only [psem, appendA, lenA, hs, beq_ok, room_ok hr, Nat.add_zero, Bool.and_self, cond_true, hi, Nat.mul_one, AV.csize, hl, AV.isAgg, hp, hj]
/-- To a whole array. -/
theorem app_own {C : Orc} {M : Mem} {i off base len n by' : Nat} {k : IntKind} {l c : List Int} {d : Bool} {x : AV} {rs : List Nat} (hi : liveB M i = some ⟨.nums k l, .own, d⟩) (hl : l.length = off + len) (hx : lenA x = some n) (h0 : n ≠ 0) (hs : srcA 1 n M x = some (.nums k c, rs)) (hr : (len + n) * (by' + 1) ≤ 68719476736) :
    psem C (.append 1 by') [.sl i off base len 1 none, x] M = some (.sl M.length 0 0 (len + n) 1 none, M ++ [⟨.nums k (seg l off len ++ c), .grow, false⟩], ⟨[i], [], true, false⟩) := by
  have hj : ∀ a, joinD (.nums k a) (.nums k c) = some (.nums k (a ++ c)) := fun a => by simp only [joinD, AV.join, if_true]
  simp only [psem, appendA, hx, hs, beq_ok, room_ok hr, Bool.and_self, cond_true, hi, Nat.mul_one, AV.csize, hl, beq_no h0, cond_false, sub_nums (Nat.le_of_eq hl.symm), hj]
/-- To a slice of an array, up to its end. -/
theorem app_lim {C : Orc} {M : Mem} {i off base len n by' : Nat} {k : IntKind} {l c : List Int} {kd : BK} {d : Bool} {x : AV} {rs : List Nat} (hi : liveB M i = some ⟨.nums k l, kd, d⟩) (hl : off + len ≤ l.length) (hx : lenA x = some n) (h0 : n ≠ 0) (hs : srcA 1 n M x = some (.nums k c, rs)) (hr : (len + n) * (by' + 1) ≤ 68719476736) :
    psem C (.append 1 by') [.sl i off base len 1 (some (off + len)), x] M = some (.sl M.length 0 0 (len + n) 1 none, M ++ [⟨.nums k (seg l off len ++ c), .grow, false⟩], ⟨[i], [], true, false⟩) := by
  have hj : ∀ a, joinD (.nums k a) (.nums k c) = some (.nums k (a ++ c)) := fun a => by simp only [joinD, AV.join, if_true]
  simp only [psem, appendA, hx, hs, beq_ok, room_ok hr, Bool.and_self, cond_true, hi, Nat.mul_one, beq_no h0, cond_false, sub_nums hl, hj]
/-- To none. -/
theorem app_nil {C : Orc} {M : Mem} {n by' : Nat} {c : AV} {x : AV} {rs : List Nat} (hx : lenA x = some n) (h0 : n ≠ 0) (hs : srcA 1 n M x = some (c, rs)) (hr : n * (by' + 1) ≤ 68719476736) :
    psem C (.append 1 by') [.nilsl, x] M = some (.sl M.length 0 0 n 1 none, M ++ [⟨c, .grow, false⟩], ⟨[], [], true, false⟩) := by
  simp only [psem, appendA, hx, hs, beq_no h0, cond_false, room_ok hr, cond_true]
/-- A slice's bytes as a string. -/
def bytesOf (l : List Int) : List UInt8 := l.map fun n => UInt8.ofNat n.toNat
theorem b2s_nums {C : Orc} {M : Mem} {j off b n : Nat} {lim : Option Nat} {l : List Int} {kd : BK} {d : Bool} (hj : liveB M j = some ⟨.nums .u8 l, kd, d⟩) (h : off + n ≤ l.length) : psem C .b2s [.sl j off b n 1 lim] M = some (.str (bytesOf (seg l off n)), M, ⟨[j], [], false, false⟩) := by
  have : (AV.nums .u8 l).sub off n (some .u8) = some (.nums .u8 (seg l off n)) := by simp only [AV.sub, ble_ok h, if_true, seg]
  simp only [psem, beq_ok, cond_true, hj, this, bytesOf]
theorem b2s_at {C : Orc} {M : Mem} {j off b n o : Nat} {lim : Option Nat} {l : List Int} {kd : BK} {d : Bool} (hj : liveB M j = some ⟨.at o (.nums .u8 l), kd, d⟩) (ho : o ≤ off) (h : off - o + n ≤ l.length) : psem C .b2s [.sl j off b n 1 lim] M = some (.str (bytesOf (seg l (off - o) n)), M, ⟨[j], [], false, false⟩) := by
  have : (AV.at o (.nums .u8 l)).sub off n (some .u8) = some (.nums .u8 (seg l (off - o) n)) := by simp only [AV.sub, ble_ok ho, ble_ok h, cond_true, if_true, seg]
  simp only [psem, beq_ok, cond_true, hj, this, bytesOf]
end Go.Proofs.Ytfdhfhgljhnhlaa
