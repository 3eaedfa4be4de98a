/- Runs that ask, with calls of several outcomes and loops of several shapes. No condition. -/
import Derived.Test.YtnfglcfjjemjmaaAm22
namespace Go.Proofs.Ytnfglcfjjemjmaa
open Go Go.RowKit

/-! ### Several outcomes -/
inductive Tr where
  | leaf (v : AV) (m : Mem)
  | br (b : Bool) (t e : Tr)
def Tr.eval : Tr → AV × Mem
  | .leaf v m => (v, m)
  | .br b t e => bif b then t.eval else e.eval
def Tr.has : Tr → AV → Mem → Prop
  | .leaf v' m', v, m => v = v' ∧ m = m'
  | .br b t e, v, m => (b = true → t.has v m) ∧ (b = false → e.has v m)
theorem Tr.has_eval : ∀ {t : Tr} {v : AV} {m : Mem}, t.has v m → v = t.eval.1 ∧ m = t.eval.2
  | .leaf _ _, _, _, h => h
  | .br true t _, _, _, h => Tr.has_eval (t := t) (h.1 rfl)
  | .br false _ e, _, _, h => Tr.has_eval (t := e) (h.2 rfl)
abbrev OrcT := FuncId → List AV → Mem → Option (Option Prop × Tr)
def flatT (C : OrcT) : OrcP := fun g a M => match C g a M with
  | some (q, t) => some (q, t.eval.1, t.eval.2)
  | none => none
def leafT (C : OrcP) : OrcT := fun g a M => match C g a M with
  | some (q, v, m) => some (q, .leaf v m)
  | none => none
theorem flat_leaf (C : OrcP) : flatT (leafT C) = C := by
  funext g a M
  unfold flatT leafT
  cases C g a M with
  | none => rfl
  | some r => obtain ⟨q, v, m⟩ := r; rfl
def OrcTOK (P : Program) (C : OrcT) : Prop := OrcPOK P (flatT C)
theorem leafT_ok {P : Program} {C : OrcP} (h : OrcPOK P C) : OrcTOK P (leafT C) := by
  unfold OrcTOK; rw [flat_leaf]; exact h
def treeW : Tr → (AV → Mem → Prop) → Prop
  | .leaf v m, K => K v m
  | .br b t e, K => (b = true → treeW t K) ∧ (b = false → treeW e K)
theorem treeW_eq : ∀ {t : Tr} {K : AV → Mem → Prop}, treeW t K → K t.eval.1 t.eval.2
  | .leaf _ _, _, h => h
  | .br true t _, _, h => treeW_eq (t := t) (h.1 rfl)
  | .br false _ e, _, h => treeW_eq (t := e) (h.2 rfl)
def qW (q : Option Prop) (K : Prop) : Prop := match q with
  | some q => q ∧ K
  | none => K
theorem qW_eq {q : Option Prop} {K : Prop} (h : qW q K) : holds q ∧ K := by
  cases q with
  | none => exact ⟨trivial, h⟩
  | some q => exact h
def backOn (M : Mem) (is : List Nat) (l : List Blk) (v : AV) (m : Mem) : Option (AV × Mem × Foot) :=
  let n := M.length
  let d := is.length
  let s : Nat → Option Nat := fun k => bif Nat.blt k d then is[k]? else some (n + (k - d))
  match v.ren s, renM s m with
  | some v', some m' => match backM M is m' with
    | some M' => bif nodupN is && kindsOK l m' then some (v', M' ++ m'.drop d, ⟨is, dirtyOf is m', true, false⟩) else none
    | none => none
  | _, _ => none
def callOnT (C : OrcT) (g : FuncId) (args : List AV) (M : Mem) (is : List Nat) (K : AV → Mem → Foot → Prop) : Prop :=
  match renL (fun i => placeOf i is) args, pickM M is with
  | some a', some l => match renM (fun i => placeOf i is) (cleanM l) with
    | some l' => match C g a' l' with
      | some (q, t) => qW q (treeW t fun v m => match backOn M is l v m with
        | some (v', M', ft) => K v' M' ft
        | none => False)
      | none => False
    | none => False
  | _, _ => False
def callAT (C : OrcT) (g : FuncId) (args : List AV) (M : Mem) (K : AV → Mem → Foot → Prop) : Prop :=
  match refsL args with
  | [] => match C g args [] with
    | some (q, t) => qW q (treeW t fun v m => match m with
      | [] => (match v.refs with
        | [] => K v M ⟨[], [], false, false⟩
        | _ => False)
      | m => match backOn M [] [] v m with
        | some (v', M', ft) => K v' M' ft
        | none => False)
    | none => False
  | rs => callOnT C g args M (reach 0 M 10000 rs []) K
section
variable {C : OrcT} {dec : Dec}
theorem cl_flat {g : FuncId} {a : List AV} {M : Mem} {q : Option Prop} {t : Tr} (h : C g a M = some (q, t)) (hq : holds q) : clC dec (flatT C) g a M = some t.eval := by
  unfold clC flatT
  simp only [h]
  rw [if_pos hq]
theorem callOnT_eq {g : FuncId} {args : List AV} {M : Mem} {is : List Nat} {K : AV → Mem → Foot → Prop} (h : callOnT C g args M is K) : ∃ v m ft, callOn (clC dec (flatT C)) g args M is = some (v, m, ft) ∧ K v m ft := by
  unfold callOnT at h
  split at h
  · rename_i a' l ha hl
    split at h
    · rename_i l' hl'
      split at h
      · rename_i q t hc
        obtain ⟨h1, h2⟩ := qW_eq h
        have h3 := treeW_eq h2
        split at h3
        · rename_i v' M' ft hb
          refine ⟨v', M', ft, ?_, h3⟩
          unfold callOn
          simp only [ha, hl, hl', cl_flat (dec := dec) hc h1]
          unfold backOn at hb
          exact hb
        · cases h3
      · cases h
    · cases h
  · cases h
theorem callAT_eq {g : FuncId} {args : List AV} {M : Mem} {K : AV → Mem → Foot → Prop} (h : callAT C g args M K) : ∃ v m ft, callA (clC dec (flatT C)) g args M = some (v, m, ft) ∧ K v m ft := by
  unfold callAT at h
  split at h
  · rename_i hr
    split at h
    · rename_i q t hc
      obtain ⟨h1, h2⟩ := qW_eq h
      have h3 := treeW_eq h2
      have h4 := cl_flat (dec := dec) hc h1
      split at h3
      · rename_i hm
        split at h3
        · rename_i hv
          refine ⟨_, _, _, ?_, h3⟩
          unfold callA
          have h5 : clC dec (flatT C) g args [] = some (t.eval.1, []) := by rw [h4, ← hm]
          simp only [hr, h5, hv]; rfl
        · cases h3
      · rename_i m hm
        split at h3
        · rename_i v' M' ft hb
          refine ⟨v', M', ft, ?_, h3⟩
          unfold callA
          have h5 : clC dec (flatT C) g args [] = some (t.eval.1, t.eval.2) := h4
          have h6 : callOn (clC dec (flatT C)) g args M [] = some (v', M', ft) := by
            unfold callOn
            simp only [renL_none args hr, pickM, cleanM, renM, h5]
            unfold backOn at hb
            exact hb
          simp only [hr, h5]
          split
          · rename_i v0 e
            simp only [Option.some.injEq, Prod.mk.injEq] at e
            exact (hm e.2).elim
          · exact h6
        · cases h3
    · cases h
  · rename_i hr
    obtain ⟨v, m, ft, h1, h2⟩ := callOnT_eq (dec := dec) h
    refine ⟨v, m, ft, ?_, h2⟩
    unfold callA
    split
    · rename_i e; exact (hr e).elim
    · exact h1
end
def primT (C : OrcT) (h : Option VH) (p : Prim) (vs : List AV) (M : Mem) (K : AV → Mem → Foot → Prop) : Prop :=
  match h, p with
  | none, .callf g => callAT C g vs M K
  | none, .callv => (match vs with
    | .fn g fs cs :: vs => callAT C g (fs ++ vs ++ cs) M K
    | _ => False)
  | h, p => primW (flatT C) h p vs M K
/-- A truth that is not known is taken both ways. -/
def spl (sp : Bool) (K : AV → Mem → Foot → Prop) (v : AV) (m : Mem) (ft : Foot) : Prop :=
  match sp with
  | false => K v m ft
  | true => match v with
    | .bool b => (b = true → K (.bool true) m ft) ∧ (b = false → K (.bool false) m ft)
    | v => K v m ft
theorem spl_eq {sp : Bool} {K : AV → Mem → Foot → Prop} {v : AV} {m : Mem} {ft : Foot} (h : spl sp K v m ft) : K v m ft := by
  unfold spl at h
  split at h
  · exact h
  · split at h
    · rename_i b
      cases b with
      | true => exact h.1 rfl
      | false => exact h.2 rfl
    · exact h
def stepT (C : OrcT) (h : Option VH) (sp : Bool) (o : AOper) (s : St) (K : St → Foot → Prop) : Prop :=
  match wantedA s.fr o.guard with
  | some true => primT C h o.prim (o.args.map (evalA s.fr)) s.mem (spl sp fun v m ft => K ⟨putA s.fr o.dst v, m⟩ ft)
  | some false => K ⟨putA s.fr o.dst undefA, s.mem⟩ ⟨[], [], false, false⟩
  | none => False
def stepDT (C : OrcT) (h : Option VH) (sp : Bool) (o : AOper) (r : Nat) (s : St) (K : St → Foot → Prop) : Prop :=
  match wantedA s.fr o.guard with
  | some true => primT C h o.prim (o.args.map (evalA s.fr)) s.mem (spl sp fun v m ft => bif ft.fresh then (bif o.prim.isNew then (match m[s.mem.length]? with
        | some b => K ⟨putA s.fr o.dst (reV r v), s.mem.set r ⟨b.cells, b.kind, true⟩⟩ ⟨[], [r], true, true⟩
        | none => False) else False) else K ⟨putA s.fr o.dst v, m⟩ ft)
  | some false => K ⟨putA s.fr o.dst undefA, s.mem⟩ ⟨[], [], false, false⟩
  | none => False
/-- Where a run is: in which round of a loop (or behind the last), in which shape, with which data. -/
structure Key (D : Type) where
  fin : Bool
  i : Nat
  sh : Nat
  d : D
abbrev Shapes (D : Type) := List ((Nat → D → Prop) × (Nat → D → St))
structure LoopT (D : Type) where
  n : Nat
  shapes : Shapes D
structure HintsT (D : Type) where
  val : List (Key D) → Nat → Option VH
  loop : List (Key D) → Nat → Option (LoopT D)
  dflt : D
section
variable {D : Type}
def anyS : Shapes D → Nat → St → Prop
  | [], _, _ => False
  | p :: l, i, s => (∃ d, p.1 i d ∧ s = p.2 i d) ∨ anyS l i s
def stepS (n : Nat) (F : Nat → Nat → D → St → Prop) : Nat → Shapes D → Prop
  | _, [] => True
  | j, p :: l => (∀ i d, i < n → p.1 i d → F j i d (p.2 i d)) ∧ stepS n F (j + 1) l
def endS (n : Nat) (F : Nat → D → St → Prop) : Nat → Shapes D → Prop
  | _, [] => True
  | j, p :: l => (∀ d, p.1 n d → F j d (p.2 n d)) ∧ endS n F (j + 1) l
def hintT (H : HintsT D) (it : List (Key D)) (o : AOper) : Option VH := match keyOf o with
  | some t => H.val it t
  | none => none
def splitV (H : HintsT D) (it : List (Key D)) (o : AOper) : Bool := match keyOf o with
  | some t => (match H.val it (300000 + t) with
    | some .ask => true
    | _ => false)
  | none => false
def splitT (H : HintsT D) (it : List (Key D)) (c : AOpd) : Bool := match c with
  | .tmp t => match H.val it (200000 + t) with
    | some .ask => true
    | _ => false
  | _ => false
def opsT (C : OrcT) (H : HintsT D) (it : List (Key D)) : List AOper → St → (St → Prop) → Prop
  | [], s, K => K s
  | o :: l, s, K => stepT C (hintT H it o) (splitV H it o) o s fun s' _ => opsT C H it l s' K
def opsDT (C : OrcT) (H : HintsT D) (it : List (Key D)) : List AOper → Nat → St → (St → List (Foot × Nat) → Prop) → Prop
  | [], _, s, K => K s []
  | o :: l, r, s, K => stepDT C (hintT H it o) (splitV H it o) o r s fun s' ft => opsDT C H it l (bif o.prim.isNew then r + 1 else r) s' fun s'' fs => K s'' ((ft, s.mem.length) :: fs)
def execT (C : OrcT) (H : HintsT D) (n0 N : Nat) : ACode → List (Key D) → St → (List (Key D) → Ex → St → Prop) → Prop
  | .skip, it, s, Q => Q it .norm s
  | .ops l drawn, it, s, Q => bif drawn then opsDT C H it l s.mem.length ⟨s.fr, padM s.mem (newN l)⟩ (fun s' fs => bif drawnOK l fs then Q it .norm s' else False) else opsT C H it l s (fun s' => Q it .norm s')
  | .seq a b, it, s, Q => execT C H n0 N a it s fun it x s' => match x with
    | .norm => execT C H n0 N b it s' Q
    | x => Q it x s'
  | .cond c t e, it, s, Q => match evalA s.fr c with
    | .bool b => (match splitT H it c with
      | true => (b = true → execT C H n0 N t it s Q) ∧ (b = false → execT C H n0 N e it s Q)
      | false => bif b then execT C H n0 N t it s Q else execT C H n0 N e it s Q)
    | _ => False
  | .block id b, it, s, Q => execT C H n0 N b it s fun it x s' => match x with
    | .exit i => bif Nat.beq i id then Q it .norm s' else Q it (.exit i) s'
    | x => Q it x s'
  | .loop id dead b, it, s, Q => match H.loop it id with
    | some lh => bif Nat.blt lh.n N then (scrubW n0 dead s fun s' => anyS lh.shapes 0 s') ∧
        stepS lh.n (fun j i d s' => execT C H n0 N b (⟨false, i, j, d⟩ :: it) s' fun it2 x s'' => match x with
          | .norm => scrubW n0 dead s'' fun s3 => anyS lh.shapes (i + 1) s3
          | x => Q it2 x s'') 0 lh.shapes ∧
        endS lh.n (fun j d s' => execT C H n0 N b (⟨true, lh.n, j, d⟩ :: it) s' fun it2 x s'' => match x with
          | .norm => False
          | x => Q it2 x s'') 0 lh.shapes else False
    | none => iterW (fun i s' Q' => execT C H n0 N b (⟨false, i, 0, H.dflt⟩ :: it) s' fun _ x s'' => Q' x s'') (scrubW n0 dead) N 0 s (Q it)
  | .exit id, it, s, Q => Q it (.exit id) s
  | .ret, it, s, Q => Q it .ret s
def runT (C : OrcT) (H : HintsT D) (N : Nat) (fn : AFun) (args : List AV) (M : Mem) (R : AV → Mem → Prop) : Prop :=
  execT C H M.length N fn.code [] ⟨frame0 fn args, M⟩ fun _ x s =>
    match x with
    | .exit _ => False
    | _ => match resAll s fn.results with
      | some vs => (match cramp M.length vs s.mem with
        | some (vs', m) => R (oneA vs') m
        | none => False)
      | none => False
@[irreducible] def specT (P : Program) (E : Nat → Option (List Nat)) (C : OrcT) (H : HintsT D) (N : Nat) (g : FuncId) (args : List AV) (M : Mem) (R : AV → Mem → Prop) : Prop :=
  match compFn P E g with
  | some fn => runT C H N fn args M R
  | none => False

/-! ### They stand for runs -/
variable {C : OrcT} {H : HintsT D} {dec : Dec}
theorem primT_eq {h : Option VH} {p : Prim} {vs : List AV} {M : Mem} {K : AV → Mem → Foot → Prop} (hW : primT C h p vs M K) : ∃ v m ft, psem (clC dec (flatT C)) p vs M = some (v, m, ft) ∧ K v m ft := by
  unfold primT at hW
  split at hW
  · exact callAT_eq (dec := dec) hW
  · split at hW
    · exact callAT_eq (dec := dec) hW
    · cases hW
  · exact primW_eq (dec := dec) hW
theorem stepT_eq {h : Option VH} {sp : Bool} {o : AOper} {s : St} {K : St → Foot → Prop} (hW : stepT C h sp o s K) : ∃ s' ft, stepA (clC dec (flatT C)) o s = some (s', ft) ∧ K s' ft := by
  unfold stepT at hW
  unfold stepA
  split at hW
  · rename_i hw
    obtain ⟨v, m, ft, h1, h2⟩ := primT_eq (dec := dec) hW
    have h2 := spl_eq h2
    exact ⟨_, _, by simp only [hw, h1], h2⟩
  · rename_i hw
    exact ⟨_, _, by simp only [hw], hW⟩
  · cases hW
theorem stepDT_eq {h : Option VH} {sp : Bool} {o : AOper} {r : Nat} {s : St} {K : St → Foot → Prop} (hW : stepDT C h sp o r s K) : ∃ s' ft, stepD (clC dec (flatT C)) o r s = some (s', ft) ∧ K s' ft := by
  unfold stepDT at hW
  unfold stepD
  split at hW
  · rename_i hw
    obtain ⟨v, m, ft, h1, h2⟩ := primT_eq (dec := dec) hW
    have h2 := spl_eq h2
    simp only [hw, h1]
    cases hf : ft.fresh with
    | true =>
      simp only [hf, cond_true] at h2 ⊢
      cases hn : o.prim.isNew with
      | true =>
        simp only [hn, cond_true] at h2 ⊢
        split at h2
        · rename_i b hb
          exact ⟨_, _, by simp only [hb], h2⟩
        · cases h2
      | false => rw [hn, cond_false] at h2; cases h2
    | false =>
      simp only [hf, cond_false] at h2 ⊢
      exact ⟨_, _, rfl, h2⟩
  · rename_i hw
    exact ⟨_, _, by simp only [hw], hW⟩
  · cases hW
theorem opsT_eq {it : List (Key D)} : ∀ {l : List AOper} {s : St} {K : St → Prop}, opsT C H it l s K → ∃ s' fs, opsA (clC dec (flatT C)) l s = some (s', fs) ∧ K s'
  | [], s, K, h => ⟨s, [], rfl, h⟩
  | o :: l, s, K, h => by
    obtain ⟨s1, ft, h1, h2⟩ := stepT_eq (dec := dec) h
    obtain ⟨s2, fs, h3, h4⟩ := opsT_eq h2
    exact ⟨s2, (ft, s.mem.length) :: fs, by simp only [opsA, h1, h3], h4⟩
theorem opsDT_eq {it : List (Key D)} : ∀ {l : List AOper} {r : Nat} {s : St} {K : St → List (Foot × Nat) → Prop}, opsDT C H it l r s K → ∃ s' fs, opsD (clC dec (flatT C)) l r s = some (s', fs) ∧ K s' fs
  | [], r, s, K, h => ⟨s, [], rfl, h⟩
  | o :: l, r, s, K, h => by
    obtain ⟨s1, ft, h1, h2⟩ := stepDT_eq (dec := dec) h
    obtain ⟨s2, fs, h3, h4⟩ := opsDT_eq h2
    exact ⟨s2, (ft, s.mem.length) :: fs, by simp only [opsD, h1, h3], h4⟩
theorem stepS_get {n : Nat} {F : Nat → Nat → D → St → Prop} {G : Nat → St → Prop} (hG : ∀ j i d s, F j i d s → G i s) : ∀ {j : Nat} {l : Shapes D}, stepS n F j l → ∀ i s, i < n → anyS l i s → G i s
  | _, [], _, _, _, _, h => h.elim
  | j, p :: l, h, i, s, hi, hs => by
    rcases hs with ⟨d, h1, rfl⟩ | hs
    · exact hG _ _ _ _ (h.1 i d hi h1)
    · exact stepS_get hG h.2 i s hi hs
theorem endS_get {n : Nat} {F : Nat → D → St → Prop} {G : St → Prop} (hG : ∀ j d s, F j d s → G s) : ∀ {j : Nat} {l : Shapes D}, endS n F j l → ∀ s, anyS l n s → G s
  | _, [], _, _, h => h.elim
  | j, p :: l, h, s, hs => by
    rcases hs with ⟨d, h1, rfl⟩ | hs
    · exact hG _ _ _ (h.1 d h1)
    · exact endS_get hG h.2 s hs
theorem iter_inv {f : St → Option (Ex × St)} {h : St → Option St} {I : Nat → St → Prop} {n : Nat} {Q : Ex → St → Prop}
    (hstep : ∀ i s, i < n → I i s → ∃ x s'', f s = some (x, s'') ∧ (match x with | .norm => ∃ s3, h s'' = some s3 ∧ I (i + 1) s3 | x => Q x s''))
    (hend : ∀ s, I n s → ∃ x s'', f s = some (x, s'') ∧ (match x with | .norm => False | x => Q x s'')) :
    ∀ (k j N : Nat) (s s' : St), j + k = n → k < N → h s = some s' → I j s' → ∃ x sr, iterA f h N s = some (x, sr) ∧ Q x sr := by
  intro k
  induction k with
  | zero =>
    intro j N s s' hj hN hs hI
    obtain rfl : j = n := by omega
    cases N with
    | zero => omega
    | succ N =>
      obtain ⟨x, s2, h1, h2⟩ := hend s' hI
      cases x with
      | norm => cases h2
      | exit id => exact ⟨_, _, by simp only [iterA, hs, h1], h2⟩
      | ret => exact ⟨_, _, by simp only [iterA, hs, h1], h2⟩
  | succ k ih =>
    intro j N s s' hj hN hs hI
    cases N with
    | zero => omega
    | succ N =>
      obtain ⟨x, s2, h1, h2⟩ := hstep j s' (by omega) hI
      cases x with
      | norm =>
        obtain ⟨s3, h3, h4⟩ := h2
        obtain ⟨x2, sr, h5, h6⟩ := ih (j + 1) N s2 s3 (by omega) (by omega) h3 h4
        exact ⟨x2, sr, by simp only [iterA, hs, h1]; exact h5, h6⟩
      | exit id => exact ⟨_, _, by simp only [iterA, hs, h1], h2⟩
      | ret => exact ⟨_, _, by simp only [iterA, hs, h1], h2⟩
theorem execT_eq {n0 N : Nat} : ∀ (ac : ACode) (it : List (Key D)) (s : St) (Q : List (Key D) → Ex → St → Prop), execT C H n0 N ac it s Q → ∃ x s', exec (clC dec (flatT C)) noL n0 N ac s = some (x, s') ∧ ∃ it2, Q it2 x s' := by
  intro ac
  induction ac with
  | skip => intro it s Q h; exact ⟨_, _, rfl, _, h⟩
  | exit id => intro it s Q h; exact ⟨_, _, rfl, _, h⟩
  | ret => intro it s Q h; exact ⟨_, _, rfl, _, h⟩
  | ops l drawn =>
    intro it s Q h
    cases drawn with
    | true =>
      simp only [execT, cond_true] at h
      obtain ⟨s', fs, h1, h2⟩ := opsDT_eq (dec := dec) h
      cases hd : drawnOK l fs with
      | true =>
        rw [hd, cond_true] at h2
        exact ⟨_, _, by simp only [exec, cond_true, h1, hd], _, h2⟩
      | false => rw [hd, cond_false] at h2; cases h2
    | false =>
      simp only [execT, cond_false] at h
      obtain ⟨s', fs, h1, h2⟩ := opsT_eq (dec := dec) h
      exact ⟨_, _, by simp only [exec, cond_false, h1], _, h2⟩
  | seq a b iha ihb =>
    intro it s Q h
    simp only [execT] at h
    obtain ⟨x, s1, h1, it2, h2⟩ := iha it s _ h
    cases x with
    | norm =>
      obtain ⟨x2, s2, h3, h4⟩ := ihb it2 s1 _ h2
      exact ⟨_, _, by simp only [exec, h1, h3], h4⟩
    | exit id => exact ⟨_, _, by simp only [exec, h1], _, h2⟩
    | ret => exact ⟨_, _, by simp only [exec, h1], _, h2⟩
  | cond c t e iht ihe =>
    intro it s Q h
    simp only [execT] at h
    split at h
    · rename_i b hb
      have h : bif b then execT C H n0 N t it s Q else execT C H n0 N e it s Q := by
        split at h
        · cases b with
          | true => exact h.1 rfl
          | false => exact h.2 rfl
        · exact h
      cases b with
      | true =>
        obtain ⟨x, s1, h1, h2⟩ := iht it s _ h
        exact ⟨_, _, by simp only [exec, hb, cond_true, h1], h2⟩
      | false =>
        obtain ⟨x, s1, h1, h2⟩ := ihe it s _ h
        exact ⟨_, _, by simp only [exec, hb, cond_false, h1], h2⟩
    · cases h
  | block id b ih =>
    intro it s Q h
    simp only [execT] at h
    obtain ⟨x, s1, h1, it2, h2⟩ := ih it s _ h
    cases x with
    | norm => exact ⟨_, _, by simp only [exec, h1], _, h2⟩
    | ret => exact ⟨_, _, by simp only [exec, h1], _, h2⟩
    | exit i =>
      simp only at h2
      cases hq : Nat.beq i id with
      | true => rw [hq, cond_true] at h2; exact ⟨_, _, by simp only [exec, h1, hq, cond_true], _, h2⟩
      | false => rw [hq, cond_false] at h2; exact ⟨_, _, by simp only [exec, h1, hq, cond_false], _, h2⟩
  | loop id dead b ih =>
    intro it s Q h
    simp only [execT] at h
    simp only [exec, noL]
    split at h
    · rename_i lh hl
      cases hN : Nat.blt lh.n N with
      | false => rw [hN, cond_false] at h; cases h
      | true =>
      rw [hN, cond_true] at h
      obtain ⟨h1, h2, h3⟩ := h
      obtain ⟨s0, hs0, hI⟩ := scrubW_eq h1
      have key := iter_inv (f := exec (clC dec (flatT C)) noL n0 N b) (h := scrub n0 dead) (I := anyS lh.shapes) (n := lh.n) (Q := fun x s' => ∃ it2, Q it2 x s') (fun i s1 hi hs1 => ?_) (fun s1 hs1 => ?_) lh.n 0 N s s0 (by omega) (blt_true hN) hs0 hI
      · exact key
      · refine stepS_get (G := fun i s1 => ∃ x s'', exec (clC dec (flatT C)) noL n0 N b s1 = some (x, s'') ∧ (match x with | .norm => ∃ s3, scrub n0 dead s'' = some s3 ∧ anyS lh.shapes (i + 1) s3 | x => ∃ it2, Q it2 x s'')) (fun j i d s1 hF => ?_) h2 i s1 hi hs1
        obtain ⟨x, s2, h4, it2, h5⟩ := ih _ _ _ hF
        refine ⟨x, s2, h4, ?_⟩
        cases x with
        | norm => exact scrubW_eq h5
        | exit id => exact ⟨_, h5⟩
        | ret => exact ⟨_, h5⟩
      · refine endS_get (G := fun s1 => ∃ x s'', exec (clC dec (flatT C)) noL n0 N b s1 = some (x, s'') ∧ (match x with | .norm => False | x => ∃ it2, Q it2 x s'')) (fun j d s1 hF => ?_) h3 s1 hs1
        obtain ⟨x, s2, h4, it2, h5⟩ := ih _ _ _ hF
        refine ⟨x, s2, h4, ?_⟩
        cases x with
        | norm => exact h5
        | exit id => exact ⟨_, h5⟩
        | ret => exact ⟨_, h5⟩
    · have : ∀ (k i : Nat) (s : St), iterW (fun i s' Q' => execT C H n0 N b (⟨false, i, 0, H.dflt⟩ :: it) s' fun _ x s'' => Q' x s'') (scrubW n0 dead) k i s (Q it) → ∃ x s', iterA (exec (clC dec (flatT C)) noL n0 N b) (scrub n0 dead) k s = some (x, s') ∧ ∃ it2, Q it2 x s' := by
        intro k
        induction k with
        | zero => intro i s h; cases h
        | succ k ihk =>
          intro i s h
          simp only [iterW] at h
          obtain ⟨s1, h1, h2⟩ := scrubW_eq h
          obtain ⟨x, s2, h3, it2, h4⟩ := ih _ s1 _ h2
          cases x with
          | norm =>
            obtain ⟨x2, s3, h5, h6⟩ := ihk (i + 1) s2 h4
            exact ⟨x2, s3, by simp only [iterA, h1, h3, h5], h6⟩
          | exit id => exact ⟨_, _, by simp only [iterA, h1, h3], _, h4⟩
          | ret => exact ⟨_, _, by simp only [iterA, h1, h3], _, h4⟩
      exact this N 0 s h
theorem runT_eq {N : Nat} {fn : AFun} {args : List AV} {M : Mem} {R : AV → Mem → Prop} (h : runT C H N fn args M R) : ∃ v M', runF (clC dec (flatT C)) noL N fn args M = some (v, M') ∧ R v M' := by
  unfold runT at h
  obtain ⟨x, s, h1, _, h2⟩ := execT_eq (dec := dec) _ _ _ _ h
  have fin : ∀ (h3 : match resAll s fn.results with
      | some vs => (match cramp M.length vs s.mem with
        | some (vs', m) => R (oneA vs') m
        | none => False)
      | none => False), ∃ v M', (match resAll s fn.results with
      | some vs => (match cramp M.length vs s.mem with
        | some (vs', m) => some (oneA vs', m)
        | none => none)
      | none => none) = some (v, M') ∧ R v M' := by
    intro h3
    cases hr : resAll s fn.results with
    | none => rw [hr] at h3; cases h3
    | some vs =>
      rw [hr] at h3
      simp only at h3 ⊢
      cases hc : cramp M.length vs s.mem with
      | none => rw [hc] at h3; cases h3
      | some p => rw [hc] at h3; exact ⟨_, _, rfl, h3⟩
  unfold runF
  rw [h1]
  cases x with
  | norm => exact fin h2
  | ret => exact fin h2
  | exit id => cases h2
end

/-! ### Tables -/
def SpecT := List AV → Mem → Option (Option Prop × Tr)
def addT (C : OrcT) (g : FuncId) (S : SpecT) : OrcT := fun f a M => bif Nat.beq f g then S a M else C f a M
theorem addT_ok {P : Program} (hP : P.follows .mixedOrders = true) {C C0 : OrcT} (hC : OrcTOK P C) (hC0 : OrcTOK P C0) {g : FuncId} {S : SpecT} (h : ∀ a M q t, S a M = some (q, t) → holds q → ∃ (D : Type) (E : Nat → Option (List Nat)) (H : HintsT D) (N : Nat), specT P E C0 H N g a M t.has) : OrcTOK P (addT C g S) := by
  intro dec f a M v M' hc hcl
  unfold clC flatT addT at hc
  cases hfg : Nat.beq f g with
  | false =>
    rw [hfg, cond_false] at hc
    exact hC dec f a M v M' hc hcl
  | true =>
    obtain rfl := beq_true hfg
    rw [hfg, cond_true] at hc
    cases hs : S a M with
    | none => rw [hs] at hc; cases hc
    | some r =>
      obtain ⟨q, t⟩ := r
      rw [hs] at hc
      simp only at hc
      split at hc
      · rename_i hq
        simp only [Option.some.injEq, Prod.mk.injEq] at hc
        obtain ⟨D, E, H, N, hw⟩ := h a M q t hs hq
        unfold specT at hw
        split at hw
        · rename_i fn hfn
          obtain ⟨v2, M2, h1, h2⟩ := runT_eq (dec := dec) hw
          obtain ⟨e1, e2⟩ := Tr.has_eval h2
          rw [hc.1] at e1
          rw [hc.2] at e2
          subst e1; subst e2
          exact runF_ok hP (hC0 dec) hfn h1
        · cases hw
      · cases hc
/-- Memories of the same cells, of which more may count as written. -/
def likeD : Nat → Mem → Mem → Prop
  | _, [], [] => True
  | n, a :: l, b :: m => (a = b ∨ ((n = 0 ∨ b.dirty = true) ∧ a.kind = b.kind ∧ b.cells.mem3 = true ∧ a.cells.cells = b.cells.cells)) ∧ likeD (n - 1) l m
  | _, _, _ => False
theorem likeD_refl : ∀ (n : Nat) (M : Mem), likeD n M M
  | _, [] => trivial
  | n, a :: l => ⟨.inl rfl, likeD_refl (n - 1) l⟩
theorem likeD_len : ∀ {n : Nat} {M M' : Mem}, likeD n M M' → M.length = M'.length
  | _, [], [], _ => rfl
  | n, a :: l, b :: m, h => by simp only [List.length_cons, likeD_len h.2]
  | _, [], _ :: _, h => h.elim
  | _, _ :: _, [], h => h.elim
theorem likeD_get : ∀ {n : Nat} {M M' : Mem} {i : Nat} {b : Blk}, likeD n M M' → M'[i]? = some b → ∃ a, M[i]? = some a ∧ (a = b ∨ ((n ≤ i ∨ b.dirty = true) ∧ a.kind = b.kind ∧ b.cells.mem3 = true ∧ a.cells.cells = b.cells.cells))
  | _, [], [], i, b, _, hb => by simp at hb
  | n, a :: l, b' :: m, i, b, h, hb => by
    cases i with
    | zero =>
      simp at hb; subst hb
      refine ⟨a, by simp, h.1.imp id fun h1 => ⟨h1.1.imp (fun e => by omega) id, h1.2⟩⟩
    | succ i =>
      obtain ⟨a', h1, h2⟩ := likeD_get (i := i) h.2 (by simpa using hb)
      exact ⟨a', by simpa using h1, h2.imp id fun h3 => ⟨h3.1.imp (fun e => by omega) id, h3.2⟩⟩
  | _, [], _ :: _, _, _, h, _ => h.elim
  | _, _ :: _, [], _, _, h, _ => h.elim
theorem likeD_kind {n : Nat} {M M' : Mem} (h : likeD n M M') {i : Nat} {b : Blk} (hb : M'[i]? = some b) : ∃ a, M[i]? = some a ∧ a.kind = b.kind ∧ (a = b ∨ (b.cells.mem3 = true ∧ a.cells.cells = b.cells.cells)) := by
  obtain ⟨a, h1, h2⟩ := likeD_get h hb
  rcases h2 with rfl | ⟨_, h3, h4, h5⟩
  · exact ⟨a, h1, rfl, .inl rfl⟩
  · exact ⟨a, h1, h3, .inr ⟨h4, h5⟩⟩
theorem likeD_mrel {B n : Nat} {f : FM} {M' M'' : Mem} {w : World} (h : likeD n M' M'') (hm : MRel B f M' w) : MRel B f M'' w := by
  refine ⟨fun i x hx => by rw [← likeD_len h]; exact hm.dom i x hx, fun i b hb hk => ?_, fun i b x hb hx => ?_, fun i b x hb hx hmine => ?_, fun i j b c x y hb hc hx hy hne hmine hd => ?_⟩
  · obtain ⟨a, h1, h2, _⟩ := likeD_kind h hb
    exact hm.tot i a h1 (by rw [h2]; exact hk)
  · obtain ⟨a, h1, h2, h4⟩ := likeD_kind h hb
    have hr := hm.blk i a x h1 hx
    rcases h4 with rfl | ⟨h4, h5⟩
    · exact hr
    · have hcs : a.cells.csize = b.cells.csize := by rw [← csize_cells, ← csize_cells, h5]
      rcases hr with hr | ⟨A, t, fz, g1, g2, g3, g4, g5, g6, g7⟩
      · exact .inl (by rw [← h2]; exact hr)
      · exact .inr ⟨A, t, fz, g1, g2, h4, by rw [← h2, ← hcs]; exact g4, by rw [← hcs]; exact g5, by rw [← hcs, ← h5]; exact g6, by rw [← h2]; exact g7⟩
  · obtain ⟨a, h1, h2, _⟩ := likeD_kind h hb
    exact hm.fresh i a x h1 hx (by rw [h2]; exact hmine)
  · obtain ⟨a, h1, h2, _⟩ := likeD_kind h hb
    obtain ⟨d, h3, h4, _⟩ := likeD_kind h hc
    exact hm.inj i j a d x y h1 h3 hx hy hne (by rw [h2]; exact hmine) (by rw [h4]; exact hd)
theorem likeD_went {n : Nat} {f f' : FM} {M M' M'' : Mem} {w w' : World} (h : likeD n M' M'') (hw : Went f M w f' M' w') : Went f M w f' M'' w' :=
  ⟨hw.os, hw.tape, hw.output, hw.size, hw.other, fun b hb => hw.own b (by
    obtain ⟨i, k, x, h1, h2, h3, h4⟩ := hb
    obtain ⟨a, g1, g2, _⟩ := likeD_kind h h1
    exact ⟨i, a, x, g1, by rw [g2]; exact h2, h3, h4⟩)⟩
def Tr.hasL (n : Nat) : Tr → AV → Mem → Prop
  | .leaf v' m', v, m => v = v' ∧ likeD n m m'
  | .br b t e, v, m => (b = true → t.hasL n v m) ∧ (b = false → e.hasL n v m)
theorem Tr.hasL_eval {n : Nat} : ∀ {t : Tr} {v : AV} {m : Mem}, t.hasL n v m → v = t.eval.1 ∧ likeD n m t.eval.2
  | .leaf _ _, _, _, h => h
  | .br true t _, _, _, h => Tr.hasL_eval (t := t) (h.1 rfl)
  | .br false _ e, _, _, h => Tr.hasL_eval (t := e) (h.2 rfl)
/-- A table grows by what is known up to the telling. -/
theorem addT_like {P : Program} (hP : P.follows .mixedOrders = true) {C C0 : OrcT} (hC : OrcTOK P C) (hC0 : OrcTOK P C0) {g : FuncId} {S : SpecT} (h : ∀ a M q t, S a M = some (q, t) → holds q → ∃ (D : Type) (E : Nat → Option (List Nat)) (H : HintsT D) (N : Nat), specT P E C0 H N g a M (t.hasL M.length)) : OrcTOK P (addT C g S) := by
  intro dec f a M v M' hc hcl
  unfold clC flatT addT at hc
  cases hfg : Nat.beq f g with
  | false =>
    rw [hfg, cond_false] at hc
    exact hC dec f a M v M' hc hcl
  | true =>
    obtain rfl := beq_true hfg
    rw [hfg, cond_true] at hc
    cases hs : S a M with
    | none => rw [hs] at hc; cases hc
    | some r =>
      obtain ⟨q, t⟩ := r
      rw [hs] at hc
      simp only at hc
      split at hc
      · rename_i hq
        simp only [Option.some.injEq, Prod.mk.injEq] at hc
        obtain ⟨D, E, H, N, hw⟩ := h a M q t hs hq
        unfold specT at hw
        split at hw
        · rename_i fn hfn
          obtain ⟨v2, M2, h1, h2⟩ := runT_eq (dec := dec) hw
          obtain ⟨e1, e2⟩ := Tr.hasL_eval h2
          rw [hc.1] at e1
          rw [hc.2] at e2
          subst e1
          obtain ⟨k1, k2, k3, k4⟩ := runF_ok hP (hC0 dec) hfn h1
          refine ⟨k1, by rw [← likeD_len e2]; exact k2, fun i b b' hb hb' hd => ?_, fun B f w Vs hm hB hv => (k4 B f w Vs hm hB hv).mono ?_⟩
          · obtain ⟨a', h3, h4⟩ := likeD_get e2 hb'
            rcases h4 with rfl | ⟨h5, _⟩
            · exact k3 i b a' hb h3 hd
            · rcases h5 with h5 | h5
              · have := lt_of_get hb; omega
              · rw [hd] at h5; cases h5
          · rintro e w' ⟨f', V, h5, h6, h7, h8, h9⟩
            exact ⟨f', V, h5, h6, likeD_mrel e2 h7, h8, likeD_went e2 h9⟩
        · cases hw
      · cases hc
/-- A law that returns true. -/
theorem law_T {P : Program} (hP : P.follows .mixedOrders = true) {C : OrcT} (hC : OrcTOK P C) {D : Type} {E : Nat → Option (List Nat)} {H : HintsT D} {N : Nat} {g : FuncId} {args : List AV} {M : Mem} (h : specT P E C H N g args M fun v _ => v = .bool true) (hcl : ∀ b ∈ M, b.dirty = false) {f : FM} {W : World} (hm : MRel W.heap.size f M W) {Vs : Array Value} (hv : VRels f args Vs.toList) :
    Calls P g Vs W (fun e w' => e = .returned (.bool true) ∧ Below W.heap.size W w') := by
  unfold specT at h
  split at h
  · rename_i fn hfn
    obtain ⟨v, M', h1, rfl⟩ := runT_eq (dec := fun q => Classical.propDecidable _) h
    obtain ⟨k1, k2, k3, k4⟩ := runF_ok hP (hC _) hfn h1
    have hO : OrcOK P (open Classical in fun g' a M0 => if g' = g ∧ a = args ∧ M0 = M then some (.bool true, M') else none) := by
      intro g' a M0 v0 M0' hc hcl0
      simp only at hc
      split at hc
      · rename_i e1
        obtain ⟨rfl, rfl, rfl⟩ := e1
        simp only [Option.some.injEq, Prod.mk.injEq] at hc
        obtain ⟨rfl, rfl⟩ := hc
        exact ⟨k1, k2, k3, k4⟩
      · cases hc
    exact law_ok hO (M' := M') (by rw [if_pos ⟨rfl, rfl, rfl⟩]) hcl hm hv
  · cases h
end Go.Proofs.Ytnfglcfjjemjmaa
