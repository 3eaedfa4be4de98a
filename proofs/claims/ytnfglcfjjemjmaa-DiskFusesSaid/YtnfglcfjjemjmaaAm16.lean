/- A region whose order is drawn: the text's order serves for all. No condition. -/
import Derived.Test.YtnfglcfjjemjmaaAmP
import Derived.StillTail
namespace Go.Proofs.Ytnfglcfjjemjmaa
open Go Go.RowKit

/-! ### The text's order, step by step -/
def Stp (C : Orc) (o : AOper) (s s1 : St) (v : AV) (ft : Foot) : Prop :=
  s1.fr = putA s.fr o.dst v ∧ ((wantedA s.fr o.guard = some true ∧ psem C o.prim (o.args.map (evalA s.fr)) s.mem = some (v, s1.mem, ft)) ∨ (wantedA s.fr o.guard = some false ∧ v = undefA ∧ s1.mem = s.mem ∧ ft = ⟨[], [], false, false⟩))
theorem stp_of {C : Orc} {o : AOper} {s s1 : St} {ft : Foot} (h : stepA C o s = some (s1, ft)) : ∃ v, Stp C o s s1 v ft := by
  unfold stepA at h
  split at h
  · rename_i hw
    split at h
    · rename_i v m ft' hp
      simp only [Option.some.injEq, Prod.mk.injEq] at h
      obtain ⟨rfl, rfl⟩ := h
      exact ⟨v, rfl, .inl ⟨hw, hp⟩⟩
    · cases h
  · rename_i hw
    simp only [Option.some.injEq, Prod.mk.injEq] at h
    obtain ⟨rfl, rfl⟩ := h
    exact ⟨undefA, rfl, .inr ⟨hw, rfl, rfl, rfl⟩⟩
  · cases h
/-- The step does the same to memory M2. -/
def Red (C : Orc) (o : AOper) (r : Nat) (s : St) (v : AV) (ft : Foot) (M2 M2' : Mem) : Prop :=
  ∀ fr2 : List AV, wantedA fr2 o.guard = wantedA s.fr o.guard → o.args.map (evalA fr2) = o.args.map (evalA s.fr) → stepD C o r ⟨fr2, M2⟩ = some (⟨putA fr2 o.dst v, M2'⟩, ft)
structure StpD (C : Orc) (o : AOper) (r : Nat) (s s1 : St) (v : AV) (ft : Foot) : Prop where
  fr : s1.fr = putA s.fr o.dst v
  self : Red C o r s v ft s.mem s1.mem
  len : s.mem.length ≤ s1.mem.length
  keep : ∀ i, i < s.mem.length → i ∉ ft.writes → s1.mem[i]? = s.mem[i]?
  quiet : ft.eff = false → s1.mem = s.mem ∧ (∀ i ∈ ft.reads, i < s.mem.length) ∧ ∀ M2 : Mem, (∀ i ∈ ft.reads, M2[i]? = s.mem[i]?) → Red C o r s v ft M2 M2
  fresh : ft.fresh = true → o.prim.isNew = true ∧ ft.eff = true ∧ ft.writes = [r] ∧ ft.reads = [] ∧ ∃ b, s1.mem = s.mem.set r b ∧ ∀ M2 : Mem, Red C o r s v ft M2 (M2.set r b)
theorem stpD_of {C : Orc} {o : AOper} {s s1 : St} {ft : Foot} {r : Nat} (h : stepD C o r s = some (s1, ft)) : ∃ v, StpD C o r s s1 v ft := by
  have h0 := h
  unfold stepD at h
  split at h
  · rename_i hw
    split at h
    · rename_i v m ft' hp
      have hf := psem_foot hp
      cases hfr : ft'.fresh with
      | true =>
        simp only [hfr, cond_true] at h
        cases hnew : o.prim.isNew with
        | false => rw [hnew, cond_false] at h; cases h
        | true =>
        rw [hnew, cond_true] at h
        obtain ⟨he, hrd, gv, b0, hgv, hv, hm2, hrefs, hall⟩ := hf.fresh hfr
        subst hm2; subst hv
        simp only [List.getElem?_append_right (Nat.le_refl _), Nat.sub_self, List.getElem?_cons_zero, Option.some.injEq, Prod.mk.injEq] at h
        obtain ⟨rfl, rfl⟩ := h
        have hre : ∀ L, reV r (gv L) = gv r := by
          rcases hgv with rfl | ⟨n, e, rfl⟩ <;> intro L <;> rfl
        have red : ∀ M2 : Mem, Red C o r s (reV r (gv s.mem.length)) ⟨[], [r], true, true⟩ M2 (M2.set r ⟨b0.cells, b0.kind, true⟩) := by
          intro M2 fr2 h1 h2
          unfold stepD
          simp only [h1, hw, h2, hall M2, hfr, cond_true, hnew, List.getElem?_append_right (Nat.le_refl _), Nat.sub_self, List.getElem?_cons_zero, hre]
        refine ⟨_, rfl, red _, by simp, fun i hi hn => ?_, (fun h => by cases h), fun _ => ⟨hnew, rfl, rfl, rfl, _, rfl, red⟩⟩
        rw [List.getElem?_set_ne]
        intro e; subst e; simp at hn
      | false =>
        simp only [hfr, cond_false, Option.some.injEq, Prod.mk.injEq] at h
        obtain ⟨rfl, rfl⟩ := h
        refine ⟨v, rfl, fun fr2 h1 h2 => ?_, hf.len, hf.keep, fun he => ?_, fun h => by rw [hfr] at h; cases h⟩
        · unfold stepD
          simp only [h1, hw, h2, hp, hfr, cond_false]
        · obtain ⟨q1, q2, q3⟩ := hf.quiet he
          refine ⟨q1, q2, fun M2 hM2 fr2 h1 h2 => ?_⟩
          unfold stepD
          simp only [h1, hw, h2, q3 M2 hM2, hfr, cond_false]
    · cases h
  · rename_i hw
    simp only [Option.some.injEq, Prod.mk.injEq] at h
    obtain ⟨rfl, rfl⟩ := h
    have red : ∀ M2 : Mem, Red C o r s undefA ⟨[], [], false, false⟩ M2 M2 := by
      intro M2 fr2 h1 h2
      unfold stepD
      simp only [h1, hw]
    exact ⟨undefA, rfl, red _, Nat.le_refl _, fun _ _ _ => rfl, fun _ => ⟨rfl, (by simp), fun M2 _ => red M2⟩, fun h => by cases h⟩
  · cases h
theorem opsD_seq {C : Orc} : ∀ {al : List AOper} {r : Nat} {s s' : St} {fs : List (Foot × Nat)}, opsD C al r s = some (s', fs) →
    ∃ (S : Nat → St) (V : Nat → AV) (F : Nat → Foot) (R : Nat → Nat), S 0 = s ∧ S al.length = s' ∧ fs.length = al.length ∧ ∀ (k : Nat) (o : AOper), al[k]? = some o → StpD C o (R k) (S k) (S (k + 1)) (V k) (F k) ∧ fs[k]? = some (F k, (S k).mem.length) ∧ (o.prim.isNew = true → r ≤ R k ∧ R k < r + newN al)
  | [], r, s, s', fs, h => by
    simp only [opsD, Option.some.injEq, Prod.mk.injEq] at h
    obtain ⟨rfl, rfl⟩ := h
    exact ⟨fun _ => s, fun _ => .junk, fun _ => ⟨[], [], false, false⟩, fun _ => 0, rfl, rfl, rfl, by simp⟩
  | o :: al, r, s, s', fs, h => by
    simp only [opsD] at h
    split at h
    case h_2 => cases h
    rename_i s1 ft hs1
    split at h
    case h_2 => cases h
    rename_i s2 fs2 hs2
    simp only [Option.some.injEq, Prod.mk.injEq] at h
    obtain ⟨rfl, rfl⟩ := h
    obtain ⟨v, hv⟩ := stpD_of hs1
    obtain ⟨S, V, F, R, h1, h2, h3, h4⟩ := opsD_seq hs2
    refine ⟨fun k => match k with | 0 => s | k + 1 => S k, fun k => match k with | 0 => v | k + 1 => V k, fun k => match k with | 0 => ft | k + 1 => F k, fun k => match k with | 0 => r | k + 1 => R k, rfl, h2, by simp [h3], fun k o' hk => ?_⟩
    cases k with
    | zero =>
      simp only [List.getElem?_cons_zero, Option.some.injEq] at hk
      subst hk
      refine ⟨by simpa only [h1] using hv, by simp, fun hn => ?_⟩
      simp only [newN, hn, cond_true]
      omega
    | succ k =>
      obtain ⟨g1, g2, g3⟩ := h4 k o' (by simpa using hk)
      refine ⟨g1, by simpa using g2, fun hn => ?_⟩
      have := g3 hn
      simp only [newN]
      cases hq : o.prim.isNew <;> simp only [hq, cond_true, cond_false] at this ⊢ <;> omega

/-! ### What the looks say -/
theorem dstsA_get : ∀ {al : List AOper} {k : Nat} {o : AOper}, al[k]? = some o → (dstsA al)[k]? = some o.dst
  | [], k, o, h => by simp at h
  | a :: al, 0, o, h => by simp only [List.getElem?_cons_zero, Option.some.injEq] at h; subst h; simp [dstsA]
  | a :: al, k + 1, o, h => by simpa [dstsA] using dstsA_get (al := al) (by simpa using h)
theorem dstsA_get' : ∀ {al : List AOper} {k : Nat} {d : Option Nat}, (dstsA al)[k]? = some d → ∃ o, al[k]? = some o ∧ o.dst = d
  | [], k, d, h => by simp [dstsA] at h
  | a :: al, 0, d, h => by simp only [dstsA, List.getElem?_cons_zero, Option.some.injEq] at h; exact ⟨a, by simp, h⟩
  | a :: al, k + 1, d, h => by simpa using dstsA_get' (al := al) (k := k) (by simpa [dstsA] using h)
theorem nodupGo {d : Nat} : ∀ {l : List (Option Nat)}, nodupD.go d l = true → ∀ k : Nat, l[k]? ≠ some (some d)
  | [], _, k, h => by simp at h
  | none :: l, h, k, hk => by
    simp only [nodupD.go] at h
    cases k with
    | zero => simp at hk
    | succ k => exact nodupGo h k (by simpa using hk)
  | some e :: l, h, k, hk => by
    simp only [nodupD.go, Bool.and_eq_true, Bool.not_eq_true'] at h
    cases k with
    | zero =>
      simp only [List.getElem?_cons_zero, Option.some.injEq] at hk
      subst hk
      have : Nat.beq e e = true := by simp
      rw [this] at h; cases h.1
    | succ k => exact nodupGo h.2 k (by simpa using hk)
theorem nodupD_get : ∀ {l : List (Option Nat)}, nodupD l = true → ∀ (i j d : Nat), l[i]? = some (some d) → l[j]? = some (some d) → i = j
  | [], _, i, j, d, hi, _ => by simp at hi
  | none :: l, h, i, j, d, hi, hj => by
    simp only [nodupD] at h
    cases i with
    | zero => simp at hi
    | succ i =>
      cases j with
      | zero => simp at hj
      | succ j => exact congrArg _ (nodupD_get h i j d (by simpa using hi) (by simpa using hj))
  | some e :: l, h, i, j, d, hi, hj => by
    simp only [nodupD, Bool.and_eq_true] at h
    cases i with
    | zero =>
      simp only [List.getElem?_cons_zero, Option.some.injEq] at hi
      subst hi
      cases j with
      | zero => rfl
      | succ j => exact absurd (by simpa using hj) (nodupGo h.1 j)
    | succ i =>
      cases j with
      | zero =>
        simp only [List.getElem?_cons_zero, Option.some.injEq] at hj
        subst hj
        exact absurd (by simpa using hi) (nodupGo h.1 i)
      | succ j => exact congrArg _ (nodupD_get h.2 i j d (by simpa using hi) (by simpa using hj))
theorem usesOK_get {i : Nat} {an : List Nat} {anL : List (List Nat)} {t : Nat} : ∀ {l : List (Option Nat)} {j0 : Nat}, usesOK i an anL t j0 l = true → ∀ k : Nat, l[k]? = some (some t) → j0 + k ∈ an ∨ (i < j0 + k ∧ i ∈ anL.getD (j0 + k) [])
  | [], j0, _, k, hk => by simp at hk
  | d :: l, j0, h, k, hk => by
    simp only [usesOK, Bool.and_eq_true] at h
    cases k with
    | zero =>
      simp only [List.getElem?_cons_zero, Option.some.injEq] at hk
      subst hk
      have h1 := h.1
      have h2 : Nat.beq t t = true := by simp
      simp only [h2, Bool.not_true, Bool.false_or, Bool.or_eq_true, Bool.and_eq_true, memN_iff] at h1
      rcases h1 with h1 | h1
      · exact .inl h1
      · exact .inr ⟨blt_true h1.1, h1.2⟩
    | succ k =>
      have := usesOK_get h.2 k (by simpa using hk)
      rwa [show j0 + 1 + k = j0 + (k + 1) by omega] at this
theorem allUses_get {i : Nat} {an : List Nat} {anL : List (List Nat)} {ds : List (Option Nat)} : ∀ {l : List Nat}, allUses i an anL ds l = true → ∀ t ∈ l, usesOK i an anL t 0 ds = true
  | [], _, t, ht => by cases ht
  | u :: l, h, t, ht => by
    simp only [allUses, Bool.and_eq_true] at h
    cases ht with
    | head => exact h.1
    | tail _ ht => exact allUses_get h.2 t ht
theorem opsUses_get {anL : List (List Nat)} {ds : List (Option Nat)} : ∀ {l : List AOper} {i0 : Nat}, opsUses anL ds i0 l = true → ∀ (k : Nat) (o : AOper), l[k]? = some o → allUses (i0 + k) (anL.getD (i0 + k) []) anL ds o.uses = true ∧ allLt (i0 + k) o.after = true
  | [], i0, _, k, o, hk => by simp at hk
  | a :: l, i0, h, k, o, hk => by
    simp only [opsUses, Bool.and_eq_true] at h
    cases k with
    | zero =>
      simp only [List.getElem?_cons_zero, Option.some.injEq] at hk
      subst hk
      exact ⟨h.1.1, h.1.2⟩
    | succ k =>
      have := opsUses_get h.2 k o (by simpa using hk)
      rwa [show i0 + 1 + k = i0 + (k + 1) by omega] at this
theorem pairOK_get {i : Nat} {an : List Nat} {ft : Foot} {anL : List (List Nat)} : ∀ {l : List (Foot × Nat)} {j0 : Nat}, pairOK i an ft anL j0 l = true → ∀ (k : Nat) (ft' : Foot) (n' : Nat), l[k]? = some (ft', n') → i ≠ j0 + k → ft'.eff = true →
    (j0 + k < i → j0 + k ∈ an ∨ (ft.eff = false ∧ sepN ft.reads ft'.writes = true ∧ (ft'.fresh = true ∨ allLt n' ft.reads = true)) ∨ (ft.fresh = true ∧ ft'.fresh = true)) ∧
    (i < j0 + k → (i ∈ anL.getD (j0 + k) [] ∨ (ft.eff = false ∧ sepN ft.reads ft'.writes = true) ∨ (ft.fresh = true ∧ ft'.fresh = true)) ∧ (ft'.fresh = true → sepN ft.reads ft'.writes = true ∧ sepN ft.writes ft'.writes = true))
  | [], j0, _, k, ft', n', hk, _, _ => by simp at hk
  | (g, m) :: l, j0, h, k, ft', n', hk, hne, he => by
    simp only [pairOK, Bool.and_eq_true] at h
    cases k with
    | zero =>
      simp only [List.getElem?_cons_zero, Option.some.injEq, Prod.mk.injEq] at hk
      obtain ⟨rfl, rfl⟩ := hk
      have h1 := h.1
      have hb : Nat.beq i j0 = false := by
        cases hb : Nat.beq i j0 with
        | false => rfl
        | true => exact absurd (beq_true hb) (by simpa using hne)
      simp only [hb, he, Bool.not_true, Bool.false_or] at h1
      refine ⟨fun hlt => ?_, fun hlt => ?_⟩
      · have hq : Nat.blt j0 i = true := by simpa using hlt
        simp only [hq, cond_true, Bool.or_eq_true, memN_iff, Bool.and_eq_true, Bool.not_eq_true'] at h1
        simp only [Nat.add_zero]
        rcases h1 with (h1 | h1) | h1
        · exact .inl h1
        · exact .inr (.inl ⟨h1.1.1, h1.1.2, h1.2⟩)
        · exact .inr (.inr h1)
      · have hq : Nat.blt j0 i = false := by
          cases hb : Nat.blt j0 i with
          | false => rfl
          | true => have := blt_true hb; simp at hlt; omega
        simp only [hq, cond_false, Bool.or_eq_true, memN_iff, Bool.and_eq_true, Bool.not_eq_true'] at h1
        simp only [Nat.add_zero]
        refine ⟨?_, fun hf => ?_⟩
        · rcases h1.1 with (h1 | h1) | h1
          · exact .inl h1
          · exact .inr (.inl h1)
          · exact .inr (.inr h1)
        · rcases h1.2 with h2 | h2
          · rw [hf] at h2; cases h2
          · exact h2
    | succ k =>
      have := pairOK_get h.2 k ft' n' (by simpa using hk) (by omega) he
      rwa [show j0 + 1 + k = j0 + (k + 1) by omega] at this
theorem pairsOK_get {anL : List (List Nat)} {fs : List (Foot × Nat)} : ∀ {l : List (Foot × Nat)} {i0 : Nat}, pairsOK anL fs i0 l = true → ∀ (k : Nat) (ft : Foot) (n : Nat), l[k]? = some (ft, n) → pairOK (i0 + k) (anL.getD (i0 + k) []) ft anL 0 fs = true
  | [], i0, _, k, ft, n, hk => by simp at hk
  | (g, m) :: l, i0, h, k, ft, n, hk => by
    simp only [pairsOK, Bool.and_eq_true] at h
    cases k with
    | zero =>
      simp only [List.getElem?_cons_zero, Option.some.injEq, Prod.mk.injEq] at hk
      obtain ⟨rfl, rfl⟩ := hk
      exact h.1
    | succ k =>
      have := pairsOK_get h.2 k ft n (by simpa using hk)
      rwa [show i0 + 1 + k = i0 + (k + 1) by omega] at this
theorem sepN_get : ∀ {l m : List Nat}, sepN l m = true → ∀ r ∈ l, r ∉ m
  | [], m, _, r, hr => by cases hr
  | i :: l, m, h, r, hr => by
    simp only [sepN, Bool.and_eq_true, Bool.not_eq_true', ← Bool.not_eq_true, memN_iff] at h
    cases hr with
    | head => exact h.1
    | tail _ hr => exact sepN_get h.2 r hr
theorem insAll_mem : ∀ {l acc : List Nat} {j : Nat}, j ∈ insAll l acc → j ∈ l ∨ j ∈ acc
  | [], acc, j, h => .inr h
  | i :: l, acc, j, h => by
    simp only [insAll] at h
    rcases insAll_mem h with h | h
    · exact .inl (List.mem_cons_of_mem _ h)
    · cases hq : memN i acc with
      | true => rw [hq, cond_true] at h; exact .inr h
      | false =>
        rw [hq, cond_false] at h
        cases h with
        | head => exact .inl List.mem_cons_self
        | tail _ h => exact .inr h
theorem fold_mem {acc : List (List Nat)} : ∀ {l : List Nat} {s : List Nat} {j : Nat}, j ∈ l.foldl (fun s e => insAll (e :: acc.getD e []) s) s → j ∈ s ∨ ∃ e ∈ l, j = e ∨ j ∈ acc.getD e []
  | [], s, j, h => .inl h
  | e :: l, s, j, h => by
    simp only [List.foldl_cons] at h
    rcases fold_mem h with h | ⟨e', h1, h2⟩
    · rcases insAll_mem h with h | h
      · exact .inr ⟨e, List.mem_cons_self, by simpa using h⟩
      · exact .inl h
    · exact .inr ⟨e', List.mem_cons_of_mem _ h1, h2⟩
theorem ancs_get : ∀ {l : List AOper} {acc : List (List Nat)}, acc <+: ancs l acc ∧ ∀ (k : Nat) (o : AOper), l[k]? = some o → ∀ j ∈ (ancs l acc).getD (acc.length + k) [], ∃ e ∈ o.after, j = e ∨ j ∈ (ancs l acc).getD e []
  | [], acc => ⟨List.prefix_rfl, by simp⟩
  | o :: l, acc => by
    simp only [ancs]
    obtain ⟨h1, h2⟩ := ancs_get (l := l) (acc := acc ++ [o.after.foldl (fun s e => insAll (e :: acc.getD e []) s) []])
    have hp : acc <+: ancs l (acc ++ [o.after.foldl (fun s e => insAll (e :: acc.getD e []) s) []]) := List.IsPrefix.trans ⟨_, rfl⟩ h1
    have sub : ∀ (e j : Nat), j ∈ acc.getD e [] → j ∈ (ancs l (acc ++ [o.after.foldl (fun s e => insAll (e :: acc.getD e []) s) []])).getD e [] := by
      intro e j hj
      obtain ⟨t, ht⟩ := hp
      rw [← ht]
      by_cases he : e < acc.length
      · simpa [List.getD, List.getElem?_append_left he] using hj
      · simp [List.getD, List.getElem?_eq_none (Nat.le_of_not_lt he)] at hj
    refine ⟨hp, fun k o' hk j hj => ?_⟩
    cases k with
    | zero =>
      simp only [List.getElem?_cons_zero, Option.some.injEq] at hk
      subst hk
      obtain ⟨t, ht⟩ := h1
      have : (ancs l (acc ++ [o.after.foldl (fun s e => insAll (e :: acc.getD e []) s) []])).getD (acc.length + 0) [] = o.after.foldl (fun s e => insAll (e :: acc.getD e []) s) [] := by
        rw [← ht]
        simp [List.getD]
      rw [this] at hj
      rcases fold_mem hj with hj | ⟨e, h3, h4⟩
      · cases hj
      · exact ⟨e, h3, h4.imp id (sub e j)⟩
    | succ k =>
      have hlen : (acc ++ [o.after.foldl (fun s e => insAll (e :: acc.getD e []) s) []]).length + k = acc.length + (k + 1) := by simp; omega
      have := h2 k o' (by simpa using hk) j (by rw [hlen]; exact hj)
      exact this
theorem edgesOf_mem : ∀ {l : List Edge} {x : Nat}, x ∈ edgesOf l → ∃ e ∈ l, Region.binds .any e = true ∧ e.on = x
  | [], x, h => by simp [edgesOf] at h
  | e :: l, x, h => by
    simp only [edgesOf] at h
    split at h
    · obtain ⟨e', h1, h2⟩ := edgesOf_mem h; exact ⟨e', List.mem_cons_of_mem _ h1, h2⟩
    · obtain ⟨e', h1, h2⟩ := edgesOf_mem h; exact ⟨e', List.mem_cons_of_mem _ h1, h2⟩
    · rename_i h1 h2
      cases h with
      | head =>
        refine ⟨e, List.mem_cons_self, ?_, rfl⟩
        unfold Region.binds
        split
        · rename_i hg; exact absurd hg (h1 _)
        · rename_i hg; exact absurd hg (h2 _)
        · rfl
      | tail _ h => obtain ⟨e', h3, h4⟩ := edgesOf_mem h; exact ⟨e', List.mem_cons_of_mem _ h3, h4⟩
theorem compOps_get {P : Program} {ops : Array Oper} : ∀ {l : List Oper} {al : List AOper}, compOps P ops l = some al → al.length = l.length ∧ ∀ (k : Nat) (o : Oper), l[k]? = some o → ∃ ao, al[k]? = some ao ∧ compOper P ops o = some ao
  | [], al, h => by simp only [compOps, Option.some.injEq] at h; subst h; exact ⟨rfl, by simp⟩
  | o :: l, al, h => by
    simp only [compOps] at h
    split at h
    case h_2 => cases h
    rename_i ao r h1 h2
    obtain rfl := Option.some.inj h
    obtain ⟨h3, h4⟩ := compOps_get h2
    refine ⟨by simp [h3], fun k o' hk => ?_⟩
    cases k with
    | zero => simp only [List.getElem?_cons_zero, Option.some.injEq] at hk; subst hk; exact ⟨ao, by simp, h1⟩
    | succ k => obtain ⟨ao', h5, h6⟩ := h4 k o' (by simpa using hk); exact ⟨ao', by simpa using h5, h6⟩
theorem compOper_parts {P : Program} {ops : Array Oper} {o : Oper} {ao : AOper} (h : compOper P ops o = some ao) : ao.dst = o.dst ∧ ao.after = edgesOf o.after.toList := by
  unfold compOper at h
  split at h
  · split at h
    · obtain rfl := Option.some.inj h; exact ⟨rfl, rfl⟩
    · cases h
  · cases h
end Go.Proofs.Ytnfglcfjjemjmaa
