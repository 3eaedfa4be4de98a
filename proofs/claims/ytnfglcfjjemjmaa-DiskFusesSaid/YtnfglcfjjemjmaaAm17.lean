/- A region whose order is drawn: the text's order serves for all: the theorem. No condition. -/
import Derived.Test.YtnfglcfjjemjmaaAm16
namespace Go.Proofs.Ytnfglcfjjemjmaa
open Go Go.RowKit

/-- A frame in which the slots that u names are as they were. -/
def maskF (FR0 FR : List AV) (u : Nat → Bool) : List AV := FR.mapIdx fun t v => bif u t then FR0.getD t v else v
theorem maskF_get (FR0 FR : List AV) (u : Nat → Bool) (t : Nat) : (maskF FR0 FR u)[t]? = (FR[t]?).map fun v => bif u t then FR0.getD t v else v := by
  simp [maskF]
theorem maskF_on {FR0 FR : List AV} {u : Nat → Bool} {t : Nat} (hl : FR.length = FR0.length) (h : u t = true) : (maskF FR0 FR u)[t]? = FR0[t]? := by
  rw [maskF_get, h]
  by_cases ht : t < FR.length
  · rw [List.getElem?_eq_getElem ht, List.getElem?_eq_getElem (by omega)]
    simp [List.getD, List.getElem?_eq_getElem (show t < FR0.length by omega)]
  · rw [List.getElem?_eq_none (by omega), List.getElem?_eq_none (by omega)]; rfl
theorem maskF_off {FR0 FR : List AV} {u : Nat → Bool} {t : Nat} (h : u t = false) : (maskF FR0 FR u)[t]? = FR[t]? := by
  rw [maskF_get, h]; simp
theorem putA_get {fr : List AV} {d : Option Nat} {v : AV} {t : Nat} (h : d ≠ some t) : (putA fr d v)[t]? = fr[t]? := by
  cases d with
  | none => rfl
  | some d =>
    simp only [putA]
    rw [List.getElem?_set_ne]
    intro e; subst e; exact h rfl
theorem putA_length (fr : List AV) (d : Option Nat) (v : AV) : (putA fr d v).length = fr.length := by
  cases d <;> simp [putA]

section
variable {P : Program} {C : Orc} {ops : Array Oper} {al : List AOper} {S : Nat → St} {V : Nat → AV} {F : Nat → Foot} {R : Nat → Nat} {fs : List (Foot × Nat)}
/-- What is known of the text's order. -/
structure Seq (P : Program) (C : Orc) (ops : Array Oper) (al : List AOper) (S : Nat → St) (V : Nat → AV) (F : Nat → Foot) (R : Nat → Nat) (fs : List (Foot × Nat)) : Prop where
  comp : compOps P ops ops.toList = some al
  stp : ∀ (k : Nat) (o : AOper), al[k]? = some o → StpD C o (R k) (S k) (S (k + 1)) (V k) (F k) ∧ fs[k]? = some (F k, (S k).mem.length)
  place : ∀ k, k < al.length → (F k).fresh = true → R k < (S 0).mem.length ∧ (S 0).mem[R k]? = some deadB
  flen : fs.length = al.length
  nodup : nodupD (dstsA al) = true
  uses : opsUses (ancs al []) (dstsA al) 0 al = true
  pairs : pairsOK (ancs al []) fs 0 fs = true
theorem Seq.len (hS : Seq P C ops al S V F R fs) : al.length = ops.size := by rw [(compOps_get hS.comp).1]; simp
theorem Seq.frlen (hS : Seq P C ops al S V F R fs) : ∀ k, k ≤ al.length → (S k).fr.length = (S 0).fr.length := by
  intro k
  induction k with
  | zero => intro _; rfl
  | succ k ih =>
    intro hk
    obtain ⟨h1, _⟩ := hS.stp k al[k] (by simp)
    rw [h1.fr, putA_length, ih (by omega)]
theorem Seq.later (hS : Seq P C ops al S V F R fs) : ∀ (m k : Nat), k + m ≤ al.length → ∀ t, (∀ j (o : AOper), k ≤ j → j < k + m → al[j]? = some o → o.dst ≠ some t) → (S (k + m)).fr[t]? = (S k).fr[t]? := by
  intro m
  induction m with
  | zero => intro k _ t _; rfl
  | succ m ih =>
    intro k hk t h
    have hlt : k + m < al.length := by omega
    obtain ⟨h1, _⟩ := hS.stp (k + m) al[k + m] (by simp)
    rw [show k + (m + 1) = k + m + 1 by omega, h1.fr, putA_get (h (k + m) _ (by omega) (by omega) (by simp)), ih k (by omega) t fun j o h1 h2 => h j o h1 (by omega)]
theorem Seq.fin (hS : Seq P C ops al S V F R fs) {k : Nat} (hk : k ≤ al.length) {t : Nat} (h : ∀ j (o : AOper), k ≤ j → al[j]? = some o → o.dst ≠ some t) : (S al.length).fr[t]? = (S k).fr[t]? := by
  have := hS.later (al.length - k) k (by omega) t fun j o h1 _ => h j o h1
  rwa [show k + (al.length - k) = al.length by omega] at this
theorem Seq.uniq (hS : Seq P C ops al S V F R fs) {i j : Nat} {o p : AOper} {d : Nat} (hi : al[i]? = some o) (hj : al[j]? = some p) (h1 : o.dst = some d) (h2 : p.dst = some d) : i = j :=
  nodupD_get hS.nodup i j d (by rw [dstsA_get hi, h1]) (by rw [dstsA_get hj, h2])
theorem Seq.put (hS : Seq P C ops al S V F R fs) {i : Nat} {o : AOper} (hi : al[i]? = some o) {d : Nat} (hd : o.dst = some d) (hr : d < (S 0).fr.length) : (S al.length).fr[d]? = some (V i) := by
  have hil := lt_of_get hi
  rw [hS.fin (k := i + 1) (by omega) (t := d) (fun j p hj hp he => by have := hS.uniq hi hp hd he; omega)]
  obtain ⟨h1, _⟩ := hS.stp i o hi
  rw [h1.fr, hd]
  simp only [putA]
  rw [List.getElem?_set_self (by rw [hS.frlen i (by omega)]; exact hr)]
theorem anc_of {i j : Nat} (h : j ∈ (ancs al []).getD i []) (hi : i < al.length) : ∃ e ∈ (al[i]).after, j = e ∨ j ∈ (ancs al []).getD e [] := by
  have := (ancs_get (l := al) (acc := [])).2 i al[i] (by simp) j (by simpa using h)
  exact this
theorem Seq.after_lt (hS : Seq P C ops al S V F R fs) {i : Nat} (hi : i < al.length) : ∀ e ∈ (al[i]).after, e < i := by
  have := (opsUses_get hS.uses i al[i] (by simp)).2
  simpa using allLt_mem this
/-- In a set that is closed, what comes before one that may come has come. -/
theorem Seq.anc_in (hS : Seq P C ops al S V F R fs) {L : Nat → Prop} (hcl : ∀ (i : Nat) (o : AOper), al[i]? = some o → L i → ∀ e ∈ o.after, L e) : ∀ (i : Nat) (hi : i < al.length), (∀ e ∈ (al[i]).after, L e) → ∀ j ∈ (ancs al []).getD i [], L j := by
  intro i
  induction i using Nat.strongRecOn with
  | _ i ih =>
    intro hi ha j hj
    obtain ⟨e, he, h⟩ := anc_of hj hi
    rcases h with rfl | h
    · exact ha _ he
    · have hlt := hS.after_lt hi e he
      have hel : e < al.length := by omega
      exact ih e hlt hel (hcl e al[e] (by simp) (ha e he)) j h
theorem Seq.anc_lt (hS : Seq P C ops al S V F R fs) : ∀ (i : Nat) (_ : i < al.length), ∀ j ∈ (ancs al []).getD i [], j < i := by
  intro i
  induction i using Nat.strongRecOn with
  | _ i ih =>
    intro hi j hj
    obtain ⟨e, he, h⟩ := anc_of hj hi
    have hlt := hS.after_lt hi e he
    rcases h with rfl | h
    · exact hlt
    · exact Nat.lt_trans (ih e hlt (by omega) j h) hlt
theorem Seq.pair (hS : Seq P C ops al S V F R fs) {i j : Nat} (hil : i < al.length) (hj : j < al.length) (hne : j ≠ i) (he : (F j).eff = true) :
    (j < i → j ∈ (ancs al []).getD i [] ∨ ((F i).eff = false ∧ sepN (F i).reads (F j).writes = true ∧ ((F j).fresh = true ∨ allLt (S j).mem.length (F i).reads = true)) ∨ ((F i).fresh = true ∧ (F j).fresh = true)) ∧
    (i < j → (i ∈ (ancs al []).getD j [] ∨ ((F i).eff = false ∧ sepN (F i).reads (F j).writes = true) ∨ ((F i).fresh = true ∧ (F j).fresh = true)) ∧ ((F j).fresh = true → sepN (F i).reads (F j).writes = true ∧ sepN (F i).writes (F j).writes = true)) := by
  have h1 := pairsOK_get hS.pairs i (F i) _ (hS.stp i al[i] (by simp)).2
  rw [Nat.zero_add] at h1
  have h2 := (hS.stp j al[j] (by simp)).2
  have := pairOK_get h1 j (F j) _ h2 (by omega) he
  simpa only [Nat.zero_add] using this
theorem Seq.fresh (hS : Seq P C ops al S V F R fs) {j : Nat} (hj : j < al.length) (hf : (F j).fresh = true) : (F j).eff = true ∧ (F j).writes = [R j] ∧ (F j).reads = [] ∧ ∃ b, (S (j + 1)).mem = (S j).mem.set (R j) b ∧ ∀ M2 : Mem, Red C al[j] (R j) (S j) (V j) (F j) M2 (M2.set (R j) b) := by
  obtain ⟨_, h1, h2, h3, b, h4, h5⟩ := (hS.stp j al[j] (by simp)).1.fresh hf
  exact ⟨h1, h2, h3, b, h4, h5⟩
/-- The place of a later one is neither read nor written. -/
theorem Seq.sep (hS : Seq P C ops al S V F R fs) {i j : Nat} (hij : i < j) (hj : j < al.length) (hf : (F j).fresh = true) : R j ∉ (F i).reads ∧ R j ∉ (F i).writes := by
  obtain ⟨he, hw, _⟩ := hS.fresh hj hf
  obtain ⟨h1, h2⟩ := ((hS.pair (i := i) (by omega) hj (by omega) he).2 hij).2 hf
  rw [hw] at h1 h2
  exact ⟨fun h => sepN_get h1 _ h (by simp), fun h => sepN_get h2 _ h (by simp)⟩
theorem Seq.far (hS : Seq P C ops al S V F R fs) {i j : Nat} (hi : i < al.length) (hj : j < al.length) (hne : i ≠ j) (hfi : (F i).fresh = true) (hfj : (F j).fresh = true) : R i ≠ R j := by
  have hwi := (hS.fresh hi hfi).2.1
  have hwj := (hS.fresh hj hfj).2.1
  rcases Nat.lt_or_gt_of_ne hne with h | h
  · have := (hS.sep h hj hfj).2
    rw [hwi] at this
    intro e; exact this (by simp [e])
  · have := (hS.sep h hi hfi).2
    rw [hwj] at this
    intro e; exact this (by simp [e])
/-- No effect between two places: one memory. -/
theorem Seq.same_mem (hS : Seq P C ops al S V F R fs) : ∀ (m k : Nat), k + m ≤ al.length → (∀ j, k ≤ j → j < k + m → (F j).eff = false) → (S (k + m)).mem = (S k).mem := by
  intro m
  induction m with
  | zero => intro k _ _; rfl
  | succ m ih =>
    intro k hk h
    have hlt : k + m < al.length := by omega
    rw [show k + (m + 1) = k + m + 1 by omega, ((hS.stp (k + m) al[k + m] (by simp)).1.quiet (h _ (by omega) (by omega))).1]
    exact ih k (by omega) fun j h1 h2 => h j h1 (by omega)
theorem Seq.len_mono (hS : Seq P C ops al S V F R fs) : ∀ (m k : Nat), k + m ≤ al.length → (S k).mem.length ≤ (S (k + m)).mem.length := by
  intro m
  induction m with
  | zero => intro k _; exact Nat.le_refl _
  | succ m ih =>
    intro k hk
    have hlt : k + m < al.length := by omega
    rw [show k + (m + 1) = k + m + 1 by omega]
    exact Nat.le_trans (ih k (by omega)) (hS.stp (k + m) al[k + m] (by simp)).1.len
theorem Seq.len_le (hS : Seq P C ops al S V F R fs) {i j : Nat} (hij : i ≤ j) (hj : j ≤ al.length) : (S i).mem.length ≤ (S j).mem.length := by
  have := hS.len_mono (j - i) i (by omega)
  rwa [show i + (j - i) = j by omega] at this
/-- Only new blocks at their places: one length. -/
theorem Seq.len_same (hS : Seq P C ops al S V F R fs) : ∀ (m k : Nat), k + m ≤ al.length → (∀ j, k ≤ j → j < k + m → (F j).eff = true → (F j).fresh = true) → (S (k + m)).mem.length = (S k).mem.length := by
  intro m
  induction m with
  | zero => intro k _ _; rfl
  | succ m ih =>
    intro k hk h
    have hlt : k + m < al.length := by omega
    rw [show k + (m + 1) = k + m + 1 by omega, ← ih k (by omega) fun j h1 h2 => h j h1 (by omega)]
    cases he : (F (k + m)).eff with
    | false => rw [((hS.stp (k + m) al[k + m] (by simp)).1.quiet he).1]
    | true =>
      obtain ⟨_, _, _, b, hb, _⟩ := hS.fresh hlt (h _ (by omega) (by omega) he)
      rw [hb, List.length_set]
/-- A block that is not written between two places. -/
theorem Seq.block_same (hS : Seq P C ops al S V F R fs) : ∀ (m k : Nat) (r : Nat), k + m ≤ al.length → (∀ j, k ≤ j → j < k + m → (F j).eff = true → ((F j).fresh = true ∨ r < (S j).mem.length) ∧ r ∉ (F j).writes) → (S (k + m)).mem[r]? = (S k).mem[r]? := by
  intro m
  induction m with
  | zero => intro k r _ _; rfl
  | succ m ih =>
    intro k r hk h
    have hlt : k + m < al.length := by omega
    have hf := (hS.stp (k + m) al[k + m] (by simp)).1
    rw [show k + (m + 1) = k + m + 1 by omega]
    have : (S (k + m + 1)).mem[r]? = (S (k + m)).mem[r]? := by
      cases he : (F (k + m)).eff with
      | false => rw [(hf.quiet he).1]
      | true =>
        obtain ⟨g1, g2⟩ := h (k + m) (by omega) (by omega) he
        rcases g1 with g1 | g1
        · obtain ⟨_, hw, _, b, hb, _⟩ := hS.fresh hlt g1
          rw [hb, List.getElem?_set_ne]
          intro e; rw [hw] at g2; exact g2 (by simp [e])
        · exact hf.keep r g1 g2
    rw [this]
    exact ih k r (by omega) fun j h1 h2 => h j h1 (by omega)
theorem Seq.block_same' (hS : Seq P C ops al S V F R fs) {i j r : Nat} (hij : i ≤ j) (hj : j ≤ al.length) (h : ∀ k, i ≤ k → k < j → (F k).eff = true → ((F k).fresh = true ∨ r < (S k).mem.length) ∧ r ∉ (F k).writes) : (S j).mem[r]? = (S i).mem[r]? := by
  have := hS.block_same (j - i) i r (by omega) fun k h1 h2 => h k h1 (by omega)
  rwa [show i + (j - i) = j by omega] at this
/-- The place of a new block is dead until then. -/
theorem Seq.dead (hS : Seq P C ops al S V F R fs) {j k : Nat} (hkj : k ≤ j) (hj : j < al.length) (hf : (F j).fresh = true) : (S k).mem[R j]? = some deadB := by
  obtain ⟨h1, h2⟩ := hS.place j hj hf
  rw [← h2]
  refine hS.block_same' (Nat.zero_le _) (by omega) fun m _ hm he => ⟨.inr (Nat.lt_of_lt_of_le h1 (hS.len_le (Nat.zero_le _) (by omega))), (hS.sep (by omega) hj hf).2⟩
end

/-- Slot t is one that an operation writes that has not come. -/
def openAt (al : List AOper) (listed : Array Bool) (t : Nat) : Bool := (List.range al.length).any fun j => (match al[j]? with | some o => (match o.dst with | some d => d == t | none => false) | none => false) && !listed.getD j true
theorem openAt_iff {al : List AOper} {listed : Array Bool} {t : Nat} : openAt al listed t = true ↔ ∃ (j : Nat) (o : AOper), al[j]? = some o ∧ o.dst = some t ∧ listed.getD j true = false := by
  unfold openAt
  rw [List.any_eq_true]
  constructor
  · rintro ⟨j, _, h⟩
    simp only [Bool.and_eq_true, Bool.not_eq_true'] at h
    obtain ⟨h1, h2⟩ := h
    split at h1
    · rename_i o ho
      split at h1
      · rename_i d hd
        exact ⟨j, o, ho, by rw [hd, beq_iff_eq.1 h1], h2⟩
      · cases h1
    · cases h1
  · rintro ⟨j, o, h1, h2, h3⟩
    refine ⟨j, by simp; exact lt_of_get h1, ?_⟩
    simp [h1, h2, h3]

section
variable {P : Program} {C : Orc} {ops : Array Oper} {al : List AOper} {S : Nat → St} {V : Nat → AV} {F : Nat → Foot} {R : Nat → Nat} {fs : List (Foot × Nat)}
theorem getD_true_lt {l : Array Bool} {i : Nat} (h : l.getD i true = false) : i < l.size := by
  rcases Nat.lt_or_ge i l.size with h' | h'
  · exact h'
  · rw [Array.getD_eq_getD_getElem?, Array.getElem?_eq_none h'] at h; simp at h
/-- Block r is one whose maker has not come. -/
def holeAt (n : Nat) (F : Nat → Foot) (R : Nat → Nat) (listed : Array Bool) (r : Nat) : Bool := (List.range n).any fun j => ((F j).fresh && R j == r) && !listed.getD j true
theorem holeAt_iff {n : Nat} {listed : Array Bool} {r : Nat} : holeAt n F R listed r = true ↔ ∃ j, j < n ∧ (F j).fresh = true ∧ R j = r ∧ listed.getD j true = false := by
  unfold holeAt
  rw [List.any_eq_true]
  simp only [List.mem_range, Bool.and_eq_true, Bool.not_eq_true', beq_iff_eq]
  constructor
  · rintro ⟨j, h1, ⟨h2, h3⟩, h4⟩; exact ⟨j, h1, h2, h3, h4⟩
  · rintro ⟨j, h1, h2, h3, h4⟩; exact ⟨j, h1, ⟨h2, h3⟩, h4⟩
def maskM (M : Mem) (u : Nat → Bool) : Mem := M.mapIdx fun t b => bif u t then deadB else b
theorem maskM_get (M : Mem) (u : Nat → Bool) (t : Nat) : (maskM M u)[t]? = (M[t]?).map fun b => bif u t then deadB else b := by simp [maskM]
theorem maskM_length (M : Mem) (u : Nat → Bool) : (maskM M u).length = M.length := by simp [maskM]
theorem maskM_off {M : Mem} {u : Nat → Bool} {t : Nat} (h : u t = false) : (maskM M u)[t]? = M[t]? := by rw [maskM_get, h]; simp
theorem maskM_id {M : Mem} {u : Nat → Bool} (h : ∀ t, u t = true → M[t]? = some deadB) : maskM M u = M := by
  apply List.ext_getElem?
  intro t
  cases hu : u t with
  | false => exact maskM_off hu
  | true => rw [maskM_get, h t hu, hu]; rfl
/-- The abstract step at a state that is reached in another order. -/
theorem Seq.step_at (hS : Seq P C ops al S V F R fs) {listed : Array Bool} (hsz : listed.size = al.length) {i q : Nat} {o : AOper} (hi : al[i]? = some o) (hun : listed.getD i true = false) (hall : ∀ e ∈ o.after, listed.getD e false = true)
    (hcl : ∀ (j : Nat) (p : AOper), al[j]? = some p → listed.getD j true = true → ∀ e ∈ p.after, listed.getD e true = true) (hq : q ≤ al.length) (hat : ∀ j, j < al.length → (F j).eff = true → (F j).fresh = false → (listed.getD j true = true ↔ j < q)) (hat2 : ∀ j, j < al.length → (F j).fresh = true → listed.getD j true = true → j < q) :
    ∃ q', q' ≤ al.length ∧ (∀ j, j < al.length → (F j).eff = true → (F j).fresh = false → ((listed.setIfInBounds i true).getD j true = true ↔ j < q')) ∧ (∀ j, j < al.length → (F j).fresh = true → (listed.setIfInBounds i true).getD j true = true → j < q') ∧
      stepD C o (R i) ⟨maskF (S 0).fr (S al.length).fr (openAt al listed), maskM (S q).mem (holeAt al.length F R listed)⟩ = some (⟨maskF (S 0).fr (S al.length).fr (openAt al (listed.setIfInBounds i true)), maskM (S q').mem (holeAt al.length F R (listed.setIfInBounds i true))⟩, F i) ∧
      (∀ r, holeAt al.length F R listed r = true → r ∉ (F i).reads) := by
  have hil := lt_of_get hi
  have hi' : al[i] = o := by rw [List.getElem?_eq_getElem hil] at hi; exact Option.some.inj hi
  have hall' : ∀ e ∈ o.after, listed.getD e true = true := fun e he => by
    have := hall e he
    rw [Array.getD_eq_getD_getElem?] at this ⊢
    cases hx : listed[e]? with
    | none => simp
    | some b => rw [hx] at this; simpa using this
  have hanc : ∀ j ∈ (ancs al []).getD i [], listed.getD j true = true := hS.anc_in (L := fun j => listed.getD j true = true) (fun j p hp hl => hcl j p hp hl) i hil (by rw [hi']; exact hall')
  have hset : ∀ j, (listed.setIfInBounds i true).getD j true = if j = i then true else listed.getD j true := by
    intro j
    rw [Array.getD_eq_getD_getElem?, Array.getD_eq_getD_getElem?]
    by_cases hji : j = i
    · subst hji
      rw [Array.getElem?_setIfInBounds_self_of_lt (by rw [hsz]; exact hil)]; simp
    · rw [if_neg hji, Array.getElem?_setIfInBounds_ne (Ne.symm hji)]
  -- the slots that it uses are known
  have hslot : ∀ t ∈ o.uses, (maskF (S 0).fr (S al.length).fr (openAt al listed))[t]? = (S i).fr[t]? := by
    intro t ht
    have hu := (opsUses_get hS.uses i o hi).1
    rw [Nat.zero_add] at hu
    have hw := usesOK_get (allUses_get hu t ht)
    have hwrit : ∀ (j : Nat) (p : AOper), al[j]? = some p → p.dst = some t → j ∈ (ancs al []).getD i [] ∨ (i < j ∧ i ∈ (ancs al []).getD j []) := fun j p hp hd => by
      have := hw j (by rw [dstsA_get hp, hd])
      rwa [Nat.zero_add] at this
    cases hb : openAt al listed t with
    | true =>
      obtain ⟨j, p, h1, h2, h3⟩ := openAt_iff.1 hb
      rw [maskF_on (hS.frlen al.length (Nat.le_refl _)) hb]
      rcases hwrit j p h1 h2 with g | ⟨g, _⟩
      · rw [hanc j g] at h3; cases h3
      · have := hS.later i 0 (by omega) t (fun k o' _ hk ho' hd => by
          have := hS.uniq h1 ho' h2 hd
          omega)
        rw [Nat.zero_add] at this; exact this.symm
    | false =>
      rw [maskF_off hb]
      refine hS.fin (Nat.le_of_lt hil) fun j p hj hp hd => ?_
      rcases hwrit j p hp hd with g | ⟨_, g⟩
      · have := hS.anc_lt i hil j g; omega
      · have hjl := lt_of_get hp
        have hlj : listed.getD j true = true := by
          cases hq : listed.getD j true with
          | true => rfl
          | false => rw [openAt_iff.2 ⟨j, p, hp, hd, hq⟩] at hb; cases hb
        have := hS.anc_in (L := fun j => listed.getD j true = true) (fun j p hp hl => hcl j p hp hl) j hjl (hcl j al[j] (by simp) hlj) i g
        rw [hun] at this; cases this
  have hev : o.args.map (evalA (maskF (S 0).fr (S al.length).fr (openAt al listed))) = o.args.map (evalA (S i).fr) := by
    apply List.map_congr_left
    intro x hx
    cases x with
    | val v => rfl
    | tmp t =>
      have : t ∈ o.uses := by
        unfold AOper.uses
        refine List.mem_append.2 (.inr ?_)
        have : ∀ {l : List AOpd}, AOpd.tmp t ∈ l → t ∈ tmpsOf l := by
          intro l
          induction l with
          | nil => intro h; cases h
          | cons y l ih =>
            intro h
            cases h with
            | head => simp [tmpsOf]
            | tail _ h => cases y <;> simp [tmpsOf, ih h]
        exact this hx
      simp only [evalA, List.getD, hslot t this]
  have hwt : wantedA (maskF (S 0).fr (S al.length).fr (openAt al listed)) o.guard = wantedA (S i).fr o.guard := by
    cases hg : o.guard with
    | none => rfl
    | some g =>
      obtain ⟨t, want⟩ := g
      have : t ∈ o.uses := by unfold AOper.uses; rw [hg]; simp
      simp only [wantedA, hslot t this]
  -- the frame behind it
  have hfr : putA (maskF (S 0).fr (S al.length).fr (openAt al listed)) o.dst (V i) = maskF (S 0).fr (S al.length).fr (openAt al (listed.setIfInBounds i true)) := by
    apply List.ext_getElem?
    intro t
    by_cases hd : o.dst = some t
    · rw [hd]
      simp only [putA]
      by_cases htl : t < (S 0).fr.length
      · rw [List.getElem?_set_self (by simp [maskF, hS.frlen al.length (Nat.le_refl _)]; exact htl), maskF_get, hS.put hi hd htl]
        have : openAt al (listed.setIfInBounds i true) t = false := by
          cases hb : openAt al (listed.setIfInBounds i true) t with
          | false => rfl
          | true =>
            obtain ⟨j, p, h1, h2, h3⟩ := openAt_iff.1 hb
            have := hS.uniq hi h1 hd h2
            subst this
            rw [hset, if_pos rfl] at h3; cases h3
        rw [this]; rfl
      · rw [List.getElem?_eq_none (by simp [maskF, hS.frlen al.length (Nat.le_refl _)]; omega), List.getElem?_eq_none (by simp [maskF, hS.frlen al.length (Nat.le_refl _)]; omega)]
    · rw [putA_get hd, maskF_get, maskF_get]
      have : openAt al listed t = openAt al (listed.setIfInBounds i true) t := by
        rw [Bool.eq_iff_iff, openAt_iff, openAt_iff]
        constructor
        · rintro ⟨j, p, h1, h2, h3⟩
          refine ⟨j, p, h1, h2, ?_⟩
          rw [hset, if_neg (fun e => hd ?_)]
          · exact h3
          · subst e; rw [hi] at h1; obtain rfl := Option.some.inj h1; exact h2
        · rintro ⟨j, p, h1, h2, h3⟩
          refine ⟨j, p, h1, h2, ?_⟩
          rw [hset] at h3
          split at h3
          · cases h3
          · exact h3
      rw [this]
  obtain ⟨hst, _⟩ := hS.stp i o hi
  -- what is listed and what is not
  have later : ∀ j, j < al.length → i ∈ (ancs al []).getD j [] → listed.getD j true = true → False := by
    intro j hj h1 hl
    have := hS.anc_in (L := fun j => listed.getD j true = true) (fun j p hp hl => hcl j p hp hl) j hj (hcl j al[j] (by simp) hl) i h1
    rw [hun] at this; cases this
  have hole' : ∀ r, holeAt al.length F R (listed.setIfInBounds i true) r = true → holeAt al.length F R listed r = true ∧ ((F i).fresh = true → r ≠ R i) := by
    intro r h
    obtain ⟨j, h1, h2, h3, h4⟩ := holeAt_iff.1 h
    rw [hset] at h4
    split at h4
    · cases h4
    · rename_i hji
      exact ⟨holeAt_iff.2 ⟨j, h1, h2, h3, h4⟩, fun hf e => hS.far h1 hil hji h2 hf (h3.trans e)⟩
  have hole'' : ∀ r, holeAt al.length F R listed r = true → ((F i).fresh = true → r ≠ R i) → holeAt al.length F R (listed.setIfInBounds i true) r = true := by
    intro r h hne
    obtain ⟨j, h1, h2, h3, h4⟩ := holeAt_iff.1 h
    refine holeAt_iff.2 ⟨j, h1, h2, h3, ?_⟩
    rw [hset, if_neg]
    · exact h4
    · intro e; subst e; exact hne h2 h3.symm
  have hread : ∀ r, holeAt al.length F R listed r = true → r ∉ (F i).reads := by
    intro r h
    obtain ⟨j, h1, h2, h3, h4⟩ := holeAt_iff.1 h
    subst h3
    by_cases hji : j = i
    · subst hji
      rw [(hS.fresh h1 h2).2.2.1]; simp
    · rcases Nat.lt_or_gt_of_ne hji with hlt | hlt
      · obtain ⟨he, hw, _⟩ := hS.fresh h1 h2
        rcases (hS.pair hil h1 hji he).1 hlt with g | ⟨_, g, _⟩ | ⟨g, _⟩
        · rw [hanc j g] at h4; cases h4
        · rw [hw] at g
          exact fun hr => sepN_get g _ hr (by simp)
        · rw [(hS.fresh hil g).2.2.1]; simp
      · exact (hS.sep hlt h1 h2).1
  -- an effect before i that is not a new block has come, if i is an effect
  have before : (F i).eff = true → ∀ j, j < al.length → (F j).eff = true → (F j).fresh = false → (j < q ↔ j < i) := by
    intro he j hj hej hfj
    rw [← hat j hj hej hfj]
    constructor
    · intro hl
      rcases Nat.lt_trichotomy j i with h | h | h
      · exact h
      · subst h; rw [hun] at hl; cases hl
      · rcases ((hS.pair hil hj (by omega) hej).2 h).1 with h1 | ⟨h1, _⟩ | ⟨_, h1⟩
        · exact (later j hj h1 hl).elim
        · rw [he] at h1; cases h1
        · rw [hfj] at h1; cases h1
    · intro hlt
      rcases (hS.pair hil hj (by omega) hej).1 hlt with h1 | ⟨h1, _⟩ | ⟨_, h1⟩
      · exact hanc j h1
      · rw [he] at h1; cases h1
      · rw [hfj] at h1; cases h1
  have fin : ∀ {M2 M2' : Mem}, Red C o (R i) (S i) (V i) (F i) M2 M2' → stepD C o (R i) ⟨maskF (S 0).fr (S al.length).fr (openAt al listed), M2⟩ = some (⟨maskF (S 0).fr (S al.length).fr (openAt al (listed.setIfInBounds i true)), M2'⟩, F i) := by
    intro M2 M2' h
    rw [h _ hwt hev, hfr]
  cases he : (F i).eff with
  | true =>
    have hbefore := before he
    cases hf : (F i).fresh with
    | true =>
      obtain ⟨_, hw, hrd, b, hb, hred⟩ := hS.fresh hil hf
      rw [hi'] at hred
      have hRi : R i < (S 0).mem.length := (hS.place i hil hf).1
      -- the new block's place behind it
      have goal : ∀ q', q' ≤ al.length → (∀ j, j < al.length → (F j).eff = true → (F j).fresh = false → (j < q' ↔ j < q)) → q ≤ q' → i < q' → (∀ r, holeAt al.length F R listed r = false → r ≠ R i → (S q').mem[r]? = (S q).mem[r]?) → (S q').mem.length = (S q).mem.length → (S q').mem[R i]? = some b →
          ∃ q', q' ≤ al.length ∧ (∀ j, j < al.length → (F j).eff = true → (F j).fresh = false → ((listed.setIfInBounds i true).getD j true = true ↔ j < q')) ∧ (∀ j, j < al.length → (F j).fresh = true → (listed.setIfInBounds i true).getD j true = true → j < q') ∧
            stepD C o (R i) ⟨maskF (S 0).fr (S al.length).fr (openAt al listed), maskM (S q).mem (holeAt al.length F R listed)⟩ = some (⟨maskF (S 0).fr (S al.length).fr (openAt al (listed.setIfInBounds i true)), maskM (S q').mem (holeAt al.length F R (listed.setIfInBounds i true))⟩, F i) ∧
            (∀ r, holeAt al.length F R listed r = true → r ∉ (F i).reads) := by
        intro q' hq' hnf hqq hiq hsame hlen hnew
        refine ⟨q', hq', fun j hj hej hfj => ?_, fun j hj hfj hl => ?_, ?_, hread⟩
        · rw [hset, if_neg (fun e => by subst e; rw [hf] at hfj; cases hfj), hat j hj hej hfj, hnf j hj hej hfj]
        · rw [hset] at hl
          split at hl
          · rename_i e; subst e; exact hiq
          · exact Nat.lt_of_lt_of_le (hat2 j hj hfj hl) hqq
        · rw [fin (hred _)]
          congr 3
          apply List.ext_getElem?
          intro r
          by_cases hr : r = R i
          · subst hr
            have hno : holeAt al.length F R (listed.setIfInBounds i true) (R i) = false := by
              cases hh : holeAt al.length F R (listed.setIfInBounds i true) (R i) with
              | false => rfl
              | true => exact absurd rfl ((hole' _ hh).2 hf)
            rw [List.getElem?_set_self (by rw [maskM_length]; exact Nat.lt_of_lt_of_le hRi (hS.len_le (Nat.zero_le _) hq)), maskM_off hno, hnew]
          · rw [List.getElem?_set_ne (Ne.symm hr)]
            cases hh : holeAt al.length F R listed r with
            | true =>
              have h2 := hole'' r hh (fun _ => hr)
              rw [maskM_get, maskM_get, hh, h2]
              by_cases hrl : r < (S q).mem.length
              · rw [List.getElem?_eq_getElem hrl, List.getElem?_eq_getElem (by rw [hlen]; exact hrl)]; rfl
              · rw [List.getElem?_eq_none (by omega), List.getElem?_eq_none (by omega)]
            | false =>
              have h2 : holeAt al.length F R (listed.setIfInBounds i true) r = false := by
                cases h3 : holeAt al.length F R (listed.setIfInBounds i true) r with
                | false => rfl
                | true => rw [(hole' r h3).1] at hh; cases hh
              rw [maskM_off hh, maskM_off h2, hsame r hh hr]
      have hnewAt : (S (i + 1)).mem[R i]? = some b := by
        rw [hb, List.getElem?_set_self (Nat.lt_of_lt_of_le hRi (hS.len_le (Nat.zero_le _) (Nat.le_of_lt hil)))]
      rcases Nat.lt_or_ge i q with hiq | hiq
      · refine goal q hq (fun _ _ _ _ => Iff.rfl) (Nat.le_refl _) hiq (fun _ _ _ => rfl) rfl ?_
        rw [← hnewAt]
        refine hS.block_same' (by omega) hq fun j h1 h2 hej => ?_
        have hjl : j < al.length := by omega
        cases hfj : (F j).fresh with
        | true =>
          refine ⟨.inl rfl, ?_⟩
          rw [(hS.fresh hjl hfj).2.1]
          simp only [List.mem_singleton]
          exact hS.far hil hjl (by omega) hf hfj
        | false =>
          exfalso
          have := (hbefore j hjl hej hfj).1 h2
          omega
      · refine goal (i + 1) (by omega) (fun j hj hej hfj => ?_) (by omega) (by omega) (fun r hh hr => ?_) ?_ hnewAt
        · rw [hbefore j hj hej hfj]
          have : j ≠ i := fun e => by subst e; rw [hf] at hfj; cases hfj
          omega
        · refine hS.block_same' (by omega) (by omega) fun j h1 h2 hej => ?_
          have hjl : j < al.length := by omega
          cases hfj : (F j).fresh with
          | true =>
            refine ⟨.inl rfl, ?_⟩
            rw [(hS.fresh hjl hfj).2.1]
            simp only [List.mem_singleton]
            intro e
            by_cases hji : j = i
            · subst hji; exact hr e
            · have : holeAt al.length F R listed r = true := holeAt_iff.2 ⟨j, hjl, hfj, e.symm, by
                cases hl : listed.getD j true with
                | false => rfl
                | true => have := hat2 j hjl hfj hl; omega⟩
              rw [hh] at this; cases this
          | false =>
            exfalso
            have hji : j ≠ i := fun e => by subst e; rw [hf] at hfj; cases hfj
            have := (hbefore j hjl hej hfj).2 (by omega)
            omega
        · have := hS.len_same (i + 1 - q) q (by omega) (fun j h1 h2 hej => by
            have hjl : j < al.length := by omega
            cases hfj : (F j).fresh with
            | true => rfl
            | false =>
              exfalso
              have hji : j ≠ i := fun e => by subst e; rw [hf] at hfj; cases hfj
              have := (hbefore j hjl hej hfj).2 (by omega)
              omega)
          rwa [show q + (i + 1 - q) = i + 1 by omega] at this
    | false =>
      -- an effect of another kind: it is the next one, and there is no place before it that is open
      have hqi : q ≤ i := by
        rcases Nat.lt_or_ge i q with h | h
        · have := (hat i hil he hf).2 h
          rw [hun] at this; cases this
        · exact h
      have freshAnc : ∀ j, j < al.length → (F j).fresh = true → j < i → listed.getD j true = true := by
        intro j hj hfj hlt
        rcases (hS.pair hil hj (by omega) (hS.fresh hj hfj).1).1 hlt with h1 | ⟨h1, _⟩ | ⟨h1, _⟩
        · exact hanc j h1
        · rw [he] at h1; cases h1
        · rw [hf] at h1; cases h1
      have hmem : (S q).mem = (S i).mem := by
        have := hS.same_mem (i - q) q (by omega) (fun j h1 h2 => by
          have hjl : j < al.length := by omega
          cases hej : (F j).eff with
          | false => rfl
          | true =>
            exfalso
            cases hfj : (F j).fresh with
            | true =>
              have := hat2 j hjl hfj (freshAnc j hjl hfj (by omega))
              omega
            | false =>
              have := (hbefore j hjl hej hfj).2 (by omega)
              omega)
        rw [show q + (i - q) = i by omega] at this
        exact this.symm
      have hlater : ∀ r, holeAt al.length F R listed r = true → ∃ j, i < j ∧ j < al.length ∧ (F j).fresh = true ∧ R j = r := by
        intro r h
        obtain ⟨j, h1, h2, h3, h4⟩ := holeAt_iff.1 h
        refine ⟨j, ?_, h1, h2, h3⟩
        rcases Nat.lt_trichotomy j i with g | g | g
        · rw [freshAnc j h1 h2 g] at h4; cases h4
        · subst g; rw [hf] at h2; cases h2
        · exact g
      refine ⟨i + 1, by omega, fun j hj hej hfj => ?_, fun j hj hfj hl => ?_, ?_, hread⟩
      · rw [hset]
        by_cases hji : j = i
        · subst hji; simp
        · rw [if_neg hji, hat j hj hej hfj, hbefore j hj hej hfj]; omega
      · rw [hset] at hl
        split at hl
        · rename_i e; subst e; omega
        · have := hat2 j hj hfj hl; omega
      · have e1 : maskM (S q).mem (holeAt al.length F R listed) = (S i).mem := by
          rw [hmem]
          refine maskM_id fun r h => ?_
          obtain ⟨j, h1, h2, h3, rfl⟩ := hlater r h
          exact hS.dead (by omega) h2 h3
        have e2 : maskM (S (i + 1)).mem (holeAt al.length F R (listed.setIfInBounds i true)) = (S (i + 1)).mem := by
          refine maskM_id fun r h => ?_
          obtain ⟨j, h1, h2, h3, rfl⟩ := hlater r (hole' r h).1
          exact hS.dead (by omega) h2 h3
        rw [e1, e2]
        exact fin hst.self
  | false =>
    have hf : (F i).fresh = false := by
      cases hf : (F i).fresh with
      | false => rfl
      | true => have := (hS.fresh hil hf).1; rw [he] at this; cases this
    have hsame : ∀ r, holeAt al.length F R (listed.setIfInBounds i true) r = holeAt al.length F R listed r := by
      intro r
      rw [Bool.eq_iff_iff]
      exact ⟨fun h => (hole' r h).1, fun h => hole'' r h (fun h2 => by rw [hf] at h2; cases h2)⟩
    refine ⟨q, hq, fun j hj hej hfj => ?_, fun j hj hfj hl => ?_, ?_, hread⟩
    · rw [hset]
      by_cases hji : j = i
      · subst hji; rw [he] at hej; cases hej
      · rw [if_neg hji, hat j hj hej hfj]
    · rw [hset] at hl
      split at hl
      · rename_i e; subst e; rw [hf] at hfj; cases hfj
      · exact hat2 j hj hfj hl
    · have e1 : holeAt al.length F R (listed.setIfInBounds i true) = holeAt al.length F R listed := funext hsame
      rw [e1]
      obtain ⟨_, hrl, hred⟩ := hst.quiet he
      refine fin (hred _ fun r hr => ?_)
      have hno : holeAt al.length F R listed r = false := by
        cases hh : holeAt al.length F R listed r with
        | false => rfl
        | true => exact absurd hr (hread r hh)
      rw [maskM_off hno]
      rcases Nat.le_total q i with hle | hle
      · refine (hS.block_same' hle (Nat.le_of_lt hil) fun j h1 h2 hej => ?_).symm
        have hjl : j < al.length := by omega
        have hnl : ¬ (listed.getD j true = true) := fun hl => by
          cases hfj : (F j).fresh with
          | true => have := hat2 j hjl hfj hl; omega
          | false => have := (hat j hjl hej hfj).1 hl; omega
        rcases (hS.pair hil hjl (by omega) hej).1 h2 with g | ⟨_, g1, g2⟩ | ⟨g, _⟩
        · exact absurd (hanc j g) hnl
        · exact ⟨g2.imp id (fun g2 => allLt_mem g2 r hr), sepN_get g1 r hr⟩
        · rw [hf] at g; cases g
      · refine hS.block_same' hle hq fun j h1 h2 hej => ?_
        have hjl : j < al.length := by omega
        have hji : j ≠ i := fun e => by subst e; rw [he] at hej; cases hej
        have hlt : i < j := by omega
        refine ⟨.inr (Nat.lt_of_lt_of_le (hrl r hr) (hS.len_le (by omega) (by omega))), ?_⟩
        cases hfj : (F j).fresh with
        | true =>
          have := (hS.sep hlt hjl hfj).1
          rw [(hS.fresh hjl hfj).2.1]
          simp only [List.mem_singleton]
          intro e; subst e; exact this hr
        | false =>
          have hl : listed.getD j true = true := (hat j hjl hej hfj).2 (by omega)
          rcases ((hS.pair hil hjl hji hej).2 hlt).1 with g | ⟨_, g1⟩ | ⟨g, _⟩
          · exact (later j hjl g hl).elim
          · exact sepN_get g1 r hr
          · rw [hf] at g; cases g
end
end Go.Proofs.Ytnfglcfjjemjmaa
