/- A region whose order is drawn: the text's order serves for all: the theorem. No condition. -/
import Derived.Test.YtnfglcfjjemjmaaAm16
namespace Go.Proofs.Ytnfglcfjjemjmaa
open Go Go.RowKit

/-- A frame in which the slots that u names are unknown. -/
def maskF (FR : List AV) (u : Nat → Bool) : List AV := FR.mapIdx fun t v => bif u t then .junk else v
theorem maskF_get (FR : List AV) (u : Nat → Bool) (t : Nat) : (maskF FR u)[t]? = (FR[t]?).map fun v => bif u t then .junk else v := by
  simp [maskF]
theorem putA_get {fr : List AV} {d : Option Nat} {v : AV} {t : Nat} (h : d ≠ some t) : (putA fr d v)[t]? = fr[t]? := by
  cases d with
  | none => rfl
  | some d =>
    simp only [putA]
    rw [List.getElem?_set_ne]
    intro e; subst e; exact h rfl
theorem putA_length (fr : List AV) (d : Option Nat) (v : AV) : (putA fr d v).length = fr.length := by
  cases d <;> simp [putA]

section
variable {P : Program} {C : Orc} {ops : Array Oper} {al : List AOper} {S : Nat → St} {V : Nat → AV} {F : Nat → Foot} {fs : List (Foot × Nat)}
/-- What is known of the text's order. -/
structure Seq (P : Program) (C : Orc) (ops : Array Oper) (al : List AOper) (S : Nat → St) (V : Nat → AV) (F : Nat → Foot) (fs : List (Foot × Nat)) : Prop where
  comp : compOps P ops ops.toList = some al
  stp : ∀ (k : Nat) (o : AOper), al[k]? = some o → Stp C o (S k) (S (k + 1)) (V k) (F k) ∧ fs[k]? = some (F k, (S k).mem.length)
  flen : fs.length = al.length
  nodup : nodupD (dstsA al) = true
  uses : opsUses (ancs al []) (dstsA al) 0 al = true
  pairs : pairsOK (ancs al []) fs 0 fs = true
theorem Seq.len (hS : Seq P C ops al S V F fs) : al.length = ops.size := by rw [(compOps_get hS.comp).1]; simp
theorem Seq.frlen (hS : Seq P C ops al S V F fs) : ∀ k, k ≤ al.length → (S k).fr.length = (S 0).fr.length := by
  intro k
  induction k with
  | zero => intro _; rfl
  | succ k ih =>
    intro hk
    obtain ⟨h1, _⟩ := hS.stp k al[k] (by simp)
    rw [h1.1, putA_length, ih (by omega)]
theorem Seq.later (hS : Seq P C ops al S V F fs) : ∀ (m k : Nat), k + m ≤ al.length → ∀ t, (∀ j (o : AOper), k ≤ j → al[j]? = some o → o.dst ≠ some t) → (S (k + m)).fr[t]? = (S k).fr[t]? := by
  intro m
  induction m with
  | zero => intro k _ t _; rfl
  | succ m ih =>
    intro k hk t h
    have hlt : k + m < al.length := by omega
    obtain ⟨h1, _⟩ := hS.stp (k + m) al[k + m] (by simp)
    rw [show k + (m + 1) = k + m + 1 by omega, h1.1, putA_get (h (k + m) _ (by omega) (by simp)), ih k (by omega) t h]
theorem Seq.fin (hS : Seq P C ops al S V F fs) {k : Nat} (hk : k ≤ al.length) {t : Nat} (h : ∀ j (o : AOper), k ≤ j → al[j]? = some o → o.dst ≠ some t) : (S al.length).fr[t]? = (S k).fr[t]? := by
  have := hS.later (al.length - k) k (by omega) t h
  rwa [show k + (al.length - k) = al.length by omega] at this
theorem Seq.uniq (hS : Seq P C ops al S V F fs) {i j : Nat} {o p : AOper} {d : Nat} (hi : al[i]? = some o) (hj : al[j]? = some p) (h1 : o.dst = some d) (h2 : p.dst = some d) : i = j :=
  nodupD_get hS.nodup i j d (by rw [dstsA_get hi, h1]) (by rw [dstsA_get hj, h2])
theorem Seq.put (hS : Seq P C ops al S V F fs) {i : Nat} {o : AOper} (hi : al[i]? = some o) {d : Nat} (hd : o.dst = some d) (hr : d < (S 0).fr.length) : (S al.length).fr[d]? = some (V i) := by
  have hil := lt_of_get hi
  rw [hS.fin (k := i + 1) (by omega) (t := d) (fun j p hj hp he => by have := hS.uniq hi hp hd he; omega)]
  obtain ⟨h1, _⟩ := hS.stp i o hi
  rw [h1.1, hd]
  simp only [putA]
  rw [List.getElem?_set_self (by rw [hS.frlen i (by omega)]; exact hr)]
theorem anc_of {i j : Nat} (h : j ∈ (ancs al []).getD i []) (hi : i < al.length) : ∃ e ∈ (al[i]).after, j = e ∨ j ∈ (ancs al []).getD e [] := by
  have := (ancs_get (l := al) (acc := [])).2 i al[i] (by simp) j (by simpa using h)
  exact this
theorem Seq.after_lt (hS : Seq P C ops al S V F fs) {i : Nat} (hi : i < al.length) : ∀ e ∈ (al[i]).after, e < i := by
  have := (opsUses_get hS.uses i al[i] (by simp)).2
  simpa using allLt_mem this
/-- In a set that is closed, what comes before one that may come has come. -/
theorem Seq.anc_in (hS : Seq P C ops al S V F fs) {L : Nat → Prop} (hcl : ∀ (i : Nat) (o : AOper), al[i]? = some o → L i → ∀ e ∈ o.after, L e) : ∀ (i : Nat) (hi : i < al.length), (∀ e ∈ (al[i]).after, L e) → ∀ j ∈ (ancs al []).getD i [], L j := by
  intro i
  induction i using Nat.strongRecOn with
  | _ i ih =>
    intro hi ha j hj
    obtain ⟨e, he, h⟩ := anc_of hj hi
    rcases h with rfl | h
    · exact ha _ he
    · have hlt := hS.after_lt hi e he
      have hel : e < al.length := by omega
      exact ih e hlt hel (hcl e al[e] (by simp) (ha e he)) j h
theorem Seq.anc_lt (hS : Seq P C ops al S V F fs) : ∀ (i : Nat) (_ : i < al.length), ∀ j ∈ (ancs al []).getD i [], j < i := by
  intro i
  induction i using Nat.strongRecOn with
  | _ i ih =>
    intro hi j hj
    obtain ⟨e, he, h⟩ := anc_of hj hi
    have hlt := hS.after_lt hi e he
    rcases h with rfl | h
    · exact hlt
    · exact Nat.lt_trans (ih e hlt (by omega) j h) hlt
/-- The foot of an operation. -/
theorem Seq.foot (hS : Seq P C ops al S V F fs) {k : Nat} {o : AOper} (hk : al[k]? = some o) : (S k).mem.length ≤ (S (k + 1)).mem.length ∧ (∀ r, r < (S k).mem.length → r ∉ (F k).writes → (S (k + 1)).mem[r]? = (S k).mem[r]?) ∧
    ((F k).eff = false → (S (k + 1)).mem = (S k).mem ∧ (∀ r ∈ (F k).reads, r < (S k).mem.length)) := by
  obtain ⟨⟨_, h⟩, _⟩ := hS.stp k o hk
  rcases h with ⟨_, h⟩ | ⟨_, _, h2, h3⟩
  · have := psem_foot h
    exact ⟨this.len, this.keep, fun he => ⟨(this.quiet he).1, (this.quiet he).2.1⟩⟩
  · rw [h2, h3]; exact ⟨Nat.le_refl _, fun _ _ _ => rfl, fun _ => ⟨rfl, by simp⟩⟩
/-- No effect between two places: one memory. -/
theorem Seq.same_mem (hS : Seq P C ops al S V F fs) : ∀ (m k : Nat), k + m ≤ al.length → (∀ j, k ≤ j → j < k + m → (F j).eff = false) → (S (k + m)).mem = (S k).mem := by
  intro m
  induction m with
  | zero => intro k _ _; rfl
  | succ m ih =>
    intro k hk h
    have hlt : k + m < al.length := by omega
    rw [show k + (m + 1) = k + m + 1 by omega, ((hS.foot (k := k + m) (o := al[k + m]) (by simp)).2.2 (h _ (by omega) (by omega))).1]
    exact ih k (by omega) fun j h1 h2 => h j h1 (by omega)
theorem Seq.len_mono (hS : Seq P C ops al S V F fs) : ∀ (m k : Nat), k + m ≤ al.length → (S k).mem.length ≤ (S (k + m)).mem.length := by
  intro m
  induction m with
  | zero => intro k _; exact Nat.le_refl _
  | succ m ih =>
    intro k hk
    have hlt : k + m < al.length := by omega
    rw [show k + (m + 1) = k + m + 1 by omega]
    exact Nat.le_trans (ih k (by omega)) (hS.foot (k := k + m) (o := al[k + m]) (by simp)).1
/-- Two places between which the effects are alike listed: one memory. -/
theorem Seq.at_same (hS : Seq P C ops al S V F fs) {q i : Nat} (hq : q ≤ al.length) (hi : i ≤ al.length) (h : ∀ j, j < al.length → (F j).eff = true → (j < q ↔ j < i)) : (S q).mem = (S i).mem := by
  rcases Nat.le_total q i with hle | hle
  · have := hS.same_mem (i - q) q (by omega) (fun j h1 h2 => by
      cases he : (F j).eff with
      | false => rfl
      | true => have := (h j (by omega) he).2 (by omega); omega)
    rw [show q + (i - q) = i by omega] at this
    exact this.symm
  · have := hS.same_mem (q - i) i (by omega) (fun j h1 h2 => by
      cases he : (F j).eff with
      | false => rfl
      | true => have := (h j (by omega) he).1 (by omega); omega)
    rwa [show i + (q - i) = q by omega] at this
/-- A cell's block that is not written between two places. -/
theorem Seq.block_same (hS : Seq P C ops al S V F fs) : ∀ (m k : Nat) (r : Nat), k + m ≤ al.length → (∀ j, k ≤ j → j < k + m → (F j).eff = true → r < (S j).mem.length ∧ r ∉ (F j).writes) → (S (k + m)).mem[r]? = (S k).mem[r]? := by
  intro m
  induction m with
  | zero => intro k r _ _; rfl
  | succ m ih =>
    intro k r hk h
    have hlt : k + m < al.length := by omega
    have hf := hS.foot (k := k + m) (o := al[k + m]) (by simp)
    rw [show k + (m + 1) = k + m + 1 by omega]
    have : (S (k + m + 1)).mem[r]? = (S (k + m)).mem[r]? := by
      cases he : (F (k + m)).eff with
      | false => rw [(hf.2.2 he).1]
      | true =>
        obtain ⟨g1, g2⟩ := h (k + m) (by omega) (by omega) he
        exact hf.2.1 r g1 g2
    rw [this]
    exact ih k r (by omega) fun j h1 h2 => h j h1 (by omega)
end

/-- Slot t is one that an operation writes that has not come. -/
def openAt (al : List AOper) (listed : Array Bool) (t : Nat) : Bool := (List.range al.length).any fun j => (match al[j]? with | some o => (match o.dst with | some d => d == t | none => false) | none => false) && !listed.getD j true
theorem openAt_iff {al : List AOper} {listed : Array Bool} {t : Nat} : openAt al listed t = true ↔ ∃ (j : Nat) (o : AOper), al[j]? = some o ∧ o.dst = some t ∧ listed.getD j true = false := by
  unfold openAt
  rw [List.any_eq_true]
  constructor
  · rintro ⟨j, _, h⟩
    simp only [Bool.and_eq_true, Bool.not_eq_true'] at h
    obtain ⟨h1, h2⟩ := h
    split at h1
    · rename_i o ho
      split at h1
      · rename_i d hd
        exact ⟨j, o, ho, by rw [hd, beq_iff_eq.1 h1], h2⟩
      · cases h1
    · cases h1
  · rintro ⟨j, o, h1, h2, h3⟩
    refine ⟨j, by simp; exact lt_of_get h1, ?_⟩
    simp [h1, h2, h3]

section
variable {P : Program} {C : Orc} {ops : Array Oper} {al : List AOper} {S : Nat → St} {V : Nat → AV} {F : Nat → Foot} {fs : List (Foot × Nat)}
theorem getD_true_lt {l : Array Bool} {i : Nat} (h : l.getD i true = false) : i < l.size := by
  rcases Nat.lt_or_ge i l.size with h' | h'
  · exact h'
  · rw [Array.getD_eq_getD_getElem?, Array.getElem?_eq_none h'] at h; simp at h
/-- The abstract step at a state that is reached in another order. -/
theorem Seq.step_at (hS : Seq P C ops al S V F fs) {listed : Array Bool} (hsz : listed.size = al.length) {i q : Nat} {o : AOper} (hi : al[i]? = some o) (hun : listed.getD i true = false) (hall : ∀ e ∈ o.after, listed.getD e false = true)
    (hcl : ∀ (j : Nat) (p : AOper), al[j]? = some p → listed.getD j true = true → ∀ e ∈ p.after, listed.getD e true = true) (hq : q ≤ al.length) (hat : ∀ j, j < al.length → (F j).eff = true → (listed.getD j true = true ↔ j < q)) :
    ∃ q', q' ≤ al.length ∧ (∀ j, j < al.length → (F j).eff = true → ((listed.setIfInBounds i true).getD j true = true ↔ j < q')) ∧
      ∃ ft, stepA C o ⟨maskF (S al.length).fr (openAt al listed), (S q).mem⟩ = some (⟨maskF (S al.length).fr (openAt al (listed.setIfInBounds i true)), (S q').mem⟩, ft) := by
  have hil := lt_of_get hi
  have hi' : al[i] = o := by rw [List.getElem?_eq_getElem hil] at hi; exact Option.some.inj hi
  have hall' : ∀ e ∈ o.after, listed.getD e true = true := fun e he => by
    have := hall e he
    rw [Array.getD_eq_getD_getElem?] at this ⊢
    cases hx : listed[e]? with
    | none => simp
    | some b => rw [hx] at this; simpa using this
  have hanc : ∀ j ∈ (ancs al []).getD i [], listed.getD j true = true := hS.anc_in (L := fun j => listed.getD j true = true) (fun j p hp hl => hcl j p hp hl) i hil (by rw [hi']; exact hall')
  have hset : ∀ j, (listed.setIfInBounds i true).getD j true = if j = i then true else listed.getD j true := by
    intro j
    rw [Array.getD_eq_getD_getElem?, Array.getD_eq_getD_getElem?]
    by_cases hji : j = i
    · subst hji
      rw [Array.getElem?_setIfInBounds_self_of_lt (by rw [hsz]; exact hil)]; simp
    · rw [if_neg hji, Array.getElem?_setIfInBounds_ne (Ne.symm hji)]
  -- the slots that it uses are known
  have hslot : ∀ t ∈ o.uses, (maskF (S al.length).fr (openAt al listed))[t]? = (S i).fr[t]? := by
    intro t ht
    have hu := (opsUses_get hS.uses i o hi).1
    rw [Nat.zero_add] at hu
    have hw := usesOK_get (allUses_get hu t ht)
    have hwrit : ∀ (j : Nat) (p : AOper), al[j]? = some p → p.dst = some t → j ∈ (ancs al []).getD i [] := fun j p hp hd => by
      have := hw j (by rw [dstsA_get hp, hd])
      rwa [Nat.zero_add] at this
    rw [maskF_get]
    have hno : openAt al listed t = false := by
      cases hb : openAt al listed t with
      | false => rfl
      | true =>
        obtain ⟨j, p, h1, h2, h3⟩ := openAt_iff.1 hb
        rw [hanc j (hwrit j p h1 h2)] at h3; cases h3
    rw [hno]
    simp only [cond_false, Option.map_id']
    exact hS.fin (Nat.le_of_lt hil) fun j p hj hp hd => by have := hS.anc_lt i hil j (hwrit j p hp hd); omega
  have hev : o.args.map (evalA (maskF (S al.length).fr (openAt al listed))) = o.args.map (evalA (S i).fr) := by
    apply List.map_congr_left
    intro x hx
    cases x with
    | val v => rfl
    | tmp t =>
      have : t ∈ o.uses := by
        unfold AOper.uses
        refine List.mem_append.2 (.inr ?_)
        have : ∀ {l : List AOpd}, AOpd.tmp t ∈ l → t ∈ tmpsOf l := by
          intro l
          induction l with
          | nil => intro h; cases h
          | cons y l ih =>
            intro h
            cases h with
            | head => simp [tmpsOf]
            | tail _ h => cases y <;> simp [tmpsOf, ih h]
        exact this hx
      simp only [evalA, List.getD, hslot t this]
  have hwt : wantedA (maskF (S al.length).fr (openAt al listed)) o.guard = wantedA (S i).fr o.guard := by
    cases hg : o.guard with
    | none => rfl
    | some g =>
      obtain ⟨t, want⟩ := g
      have : t ∈ o.uses := by unfold AOper.uses; rw [hg]; simp
      simp only [wantedA, hslot t this]
  -- the frame behind it
  have hfr : putA (maskF (S al.length).fr (openAt al listed)) o.dst (V i) = maskF (S al.length).fr (openAt al (listed.setIfInBounds i true)) := by
    apply List.ext_getElem?
    intro t
    by_cases hd : o.dst = some t
    · rw [hd]
      simp only [putA]
      by_cases htl : t < (S 0).fr.length
      · rw [List.getElem?_set_self (by simp [maskF, hS.frlen al.length (Nat.le_refl _)]; exact htl), maskF_get, hS.put hi hd htl]
        have : openAt al (listed.setIfInBounds i true) t = false := by
          cases hb : openAt al (listed.setIfInBounds i true) t with
          | false => rfl
          | true =>
            obtain ⟨j, p, h1, h2, h3⟩ := openAt_iff.1 hb
            have := hS.uniq hi h1 hd h2
            subst this
            rw [hset, if_pos rfl] at h3; cases h3
        rw [this]; rfl
      · rw [List.getElem?_eq_none (by simp [maskF, hS.frlen al.length (Nat.le_refl _)]; omega), List.getElem?_eq_none (by simp [maskF, hS.frlen al.length (Nat.le_refl _)]; omega)]
    · rw [putA_get hd, maskF_get, maskF_get]
      have : openAt al listed t = openAt al (listed.setIfInBounds i true) t := by
        rw [Bool.eq_iff_iff, openAt_iff, openAt_iff]
        constructor
        · rintro ⟨j, p, h1, h2, h3⟩
          refine ⟨j, p, h1, h2, ?_⟩
          rw [hset, if_neg (fun e => hd ?_)]
          · exact h3
          · subst e; rw [hi] at h1; obtain rfl := Option.some.inj h1; exact h2
        · rintro ⟨j, p, h1, h2, h3⟩
          refine ⟨j, p, h1, h2, ?_⟩
          rw [hset] at h3
          split at h3
          · cases h3
          · exact h3
      rw [this]
  obtain ⟨⟨hs1, hs2⟩, hs3⟩ := hS.stp i o hi
  have hpair : ∀ (j : Nat), j < al.length → j ≠ i → (F j).eff = true → (j < i → j ∈ (ancs al []).getD i [] ∨ ((F i).eff = false ∧ sepN (F i).reads (F j).writes = true ∧ allLt (S j).mem.length (F i).reads = true)) ∧ (i < j → i ∈ (ancs al []).getD j [] ∨ ((F i).eff = false ∧ sepN (F i).reads (F j).writes = true)) := by
    intro j hj hne he
    have h1 := pairsOK_get hS.pairs i (F i) _ hs3
    rw [Nat.zero_add] at h1
    have h2 := (hS.stp j al[j] (by simp)).2
    have := pairOK_get h1 j (F j) _ h2 (by omega) he
    simpa only [Nat.zero_add] using this
  cases he : (F i).eff with
  | true =>
    -- an effect: it is the next one
    have hbefore : ∀ j, j < al.length → (F j).eff = true → (j < q ↔ j < i) := by
      intro j hj hej
      rw [← hat j hj hej]
      constructor
      · intro hl
        rcases Nat.lt_trichotomy j i with h | h | h
        · exact h
        · subst h; rw [hun] at hl; cases hl
        · rcases (hpair j hj (by omega) hej).2 h with h1 | ⟨h1, _⟩
          · have := hS.anc_in (L := fun j => listed.getD j true = true) (fun j p hp hl => hcl j p hp hl) j hj (hcl j al[j] (by simp) hl) i h1
            rw [hun] at this; cases this
          · rw [he] at h1; cases h1
      · intro hlt
        rcases (hpair j hj (by omega) hej).1 hlt with h1 | ⟨h1, _⟩
        · exact hanc j h1
        · rw [he] at h1; cases h1
    have hmem : (S q).mem = (S i).mem := hS.at_same hq (Nat.le_of_lt hil) hbefore
    refine ⟨i + 1, by omega, ?_, F i, ?_⟩
    · intro j hj hej
      rw [hset]
      by_cases hji : j = i
      · subst hji; simp
      · rw [if_neg hji, hat j hj hej, hbefore j hj hej]; omega
    · unfold stepA
      simp only [hwt, hev, hmem]
      rcases hs2 with ⟨hw, hp⟩ | ⟨_, _, _, h4⟩
      · simp only [hw, hp, hfr]
      · rw [h4] at he; cases he
  | false =>
    refine ⟨q, hq, ?_, F i, ?_⟩
    · intro j hj hej
      rw [hset]
      by_cases hji : j = i
      · subst hji; rw [he] at hej; cases hej
      · rw [if_neg hji, hat j hj hej]
    · unfold stepA
      simp only [hwt, hev]
      rcases hs2 with ⟨hw, hp⟩ | ⟨hw, hv, hm2, h4⟩
      · have hfoot := (psem_foot hp).quiet he
        have hread : ∀ r ∈ (F i).reads, (S q).mem[r]? = (S i).mem[r]? := by
          intro r hr
          have hrl := hfoot.2.1 r hr
          rcases Nat.le_total q i with hle | hle
          · have := hS.block_same (i - q) q r (by omega) (fun j h1 h2 hej => by
              have hjl : j < al.length := by omega
              have hnl : ¬ (listed.getD j true = true) := fun hl => by have := (hat j hjl hej).1 hl; omega
              have hji : j < i := by omega
              rcases (hpair j hjl (by omega) hej).1 hji with g | ⟨_, g1, g2⟩
              · exact absurd (hanc j g) hnl
              · exact ⟨allLt_mem g2 r hr, sepN_get g1 r hr⟩)
            rw [show q + (i - q) = i by omega] at this
            exact this.symm
          · have := hS.block_same (q - i) i r (by omega) (fun j h1 h2 hej => by
              have hjl : j < al.length := by omega
              have hl : listed.getD j true = true := (hat j hjl hej).2 (by omega)
              have hji : j ≠ i := fun e => by subst e; rw [he] at hej; cases hej
              have hlt : i < j := by omega
              rcases (hpair j hjl hji hej).2 hlt with g | ⟨_, g1⟩
              · have := hS.anc_in (L := fun j => listed.getD j true = true) (fun j p hp hl => hcl j p hp hl) j hjl (hcl j al[j] (by simp) hl) i g
                rw [hun] at this; cases this
              · refine ⟨Nat.lt_of_lt_of_le hrl ?_, sepN_get g1 r hr⟩
                have := hS.len_mono (j - i) i (by omega)
                rwa [show i + (j - i) = j by omega] at this)
            rwa [show i + (q - i) = q by omega] at this
        have := hfoot.2.2 (S q).mem hread
        simp only [hw, this, hfr]
      · rw [hv] at hfr
        simp only [hw, hfr, h4]
end
end Go.Proofs.Ytnfglcfjjemjmaa
