/- The small machine's code stands for the program's; so do its functions. No condition. -/
import Derived.Test.YtnfglcfjjemjmaaAm17
namespace Go.Proofs.Ytnfglcfjjemjmaa
open Go Go.RowKit

section
variable {P : Program} {C : Orc}
/-- How many have not come. -/
def open_ (listed : Array Bool) : Nat := (listed.toList.filter (· == false)).length
theorem open_set : ∀ (l : List Bool) (i : Nat), l[i]? = some false → ((l.set i true).filter (· == false)).length + 1 = (l.filter (· == false)).length
  | [], i, h => by simp at h
  | b :: l, 0, h => by
    simp only [List.getElem?_cons_zero, Option.some.injEq] at h
    subst h; simp
  | b :: l, i + 1, h => by
    have := open_set l i (by simpa using h)
    cases b <;> simp_all
theorem open_zero : ∀ (l : List Bool), (l.filter (· == false)).length = 0 → ∀ (i : Nat) (b : Bool), l[i]? = some b → b = true
  | [], _, i, b, h => by simp at h
  | a :: l, h, i, b, hb => by
    cases a with
    | false => simp at h
    | true =>
      cases i with
      | zero => simpa using hb.symm
      | succ i => exact open_zero l (by simpa using h) i b (by simpa using hb)

theorem drawn_claim (hC : OrcOK P C) {ops : Array Oper} {al : List AOper} {S : Nat → St} {V : Nat → AV} {F : Nat → Foot} {R : Nat → Nat} {fs : List (Foot × Nat)} (hS : Seq P C ops al S V F R fs) {B : Nat} {f0 : FM} {a0 : Act} {w0 : World} {Q : Exit → Act → World → Prop}
    (hQ : ∀ f' a' w', Sub f0 f' → MRel B f' (S al.length).mem w' → VRels f' (S al.length).fr a'.tmps.toList → a'.defers = a0.defers → Went f0 (S 0).mem w0 f' (S al.length).mem w' → Q .normal a' w') :
    ∀ (fuel : Nat) (listed : Array Bool) (a : Act) (w : World) (f : FM) (q : Nat), listed.size = al.length → open_ listed = fuel → (∀ (j : Nat) (p : AOper), al[j]? = some p → listed.getD j true = true → ∀ e ∈ p.after, listed.getD e true = true) → q ≤ al.length →
      (∀ j, j < al.length → (F j).eff = true → (F j).fresh = false → (listed.getD j true = true ↔ j < q)) → (∀ j, j < al.length → (F j).fresh = true → listed.getD j true = true → j < q) → (∀ r, holeAt al.length F R listed r = true → f r = none) →
      Sub f0 f → MRel B f (maskM (S q).mem (holeAt al.length F R listed)) w → VRels f (maskF (S 0).fr (S al.length).fr (openAt al listed)) a.tmps.toList → a.defers = a0.defers → Went f0 (S 0).mem w0 f (maskM (S q).mem (holeAt al.length F R listed)) w → B ≤ w.heap.size → wpAny P .any ops Q fuel listed a w := by
  intro fuel
  -- where all have come
  have done : ∀ (listed : Array Bool) (a : Act) (w : World) (f : FM) (q : Nat), listed.size = al.length → (∀ j, j < al.length → listed.getD j true = true) → q ≤ al.length → (∀ j, j < al.length → (F j).eff = true → (F j).fresh = false → (listed.getD j true = true ↔ j < q)) → (∀ j, j < al.length → (F j).fresh = true → listed.getD j true = true → j < q) → Sub f0 f → MRel B f (maskM (S q).mem (holeAt al.length F R listed)) w → VRels f (maskF (S 0).fr (S al.length).fr (openAt al listed)) a.tmps.toList → a.defers = a0.defers → Went f0 (S 0).mem w0 f (maskM (S q).mem (holeAt al.length F R listed)) w → Q .normal a w := by
    intro listed a w f q hsz hall hq hat hat2 hf hm hfr hd hw
    have hmem : (S q).mem = (S al.length).mem := by
      have := hS.same_mem (al.length - q) q (by omega) (fun j h1 h2 => by
        have hjl : j < al.length := by omega
        cases hej : (F j).eff with
        | false => rfl
        | true =>
          exfalso
          cases hfj : (F j).fresh with
          | true => have := hat2 j hjl hfj (hall j hjl); omega
          | false => have := (hat j hjl hej hfj).1 (hall j hjl); omega)
      rw [show q + (al.length - q) = al.length by omega] at this
      exact this.symm
    have hnone : maskM (S q).mem (holeAt al.length F R listed) = (S q).mem := by
      refine maskM_id fun r h => ?_
      obtain ⟨j, h1, _, _, h4⟩ := holeAt_iff.1 h
      rw [hall j h1] at h4; cases h4
    rw [hnone, hmem] at hm hw
    have hmask : maskF (S 0).fr (S al.length).fr (openAt al listed) = (S al.length).fr := by
      apply List.ext_getElem?
      intro t
      rw [maskF_get]
      have : openAt al listed t = false := by
        cases hb : openAt al listed t with
        | false => rfl
        | true =>
          obtain ⟨j, p, h1, _, h3⟩ := openAt_iff.1 hb
          rw [hall j (lt_of_get h1)] at h3; cases h3
      rw [this]; simp
    rw [hmask] at hfr
    exact hQ f a w hf hm hfr hd hw
  have allof : ∀ (listed : Array Bool), listed.size = al.length → (∀ i, listed.getD i true = true) → ∀ j, j < al.length → listed.getD j true = true := fun listed _ h j _ => h j
  -- where nothing may come all have come
  have stuckless : ∀ (listed : Array Bool), listed.size = al.length → Region.ready .any ops listed = [] → ∀ i, listed.getD i true = true := by
    intro listed hsz hr i
    induction i using Nat.strongRecOn with
    | _ i ih =>
      cases hb : listed.getD i true with
      | true => rfl
      | false =>
        exfalso
        have hil : i < al.length := by rw [← hsz]; exact getD_true_lt hb
        have hio : i < ops.size := by rw [← hS.len]; exact hil
        have hmem : i ∈ Region.ready .any ops listed := by
          rw [mem_ready]
          refine ⟨hb, ops[i], by simp [hio], fun e he hbnd => ?_⟩
          obtain ⟨ao, h1, h2⟩ := (compOps_get hS.comp).2 i ops[i] (by simp [hio])
          have hlt := hS.after_lt hil
          have h1' : al[i] = ao := by rw [List.getElem?_eq_getElem hil] at h1; exact Option.some.inj h1
          have heo : e.on ∈ ao.after := by
            rw [(compOper_parts h2).2]
            have : ∀ {l : List Edge}, e ∈ l → e.on ∈ edgesOf l := by
              intro l
              induction l with
              | nil => intro h; cases h
              | cons x l ih =>
                intro h
                simp only [edgesOf]
                cases h with
                | head =>
                  split
                  · rename_i r hg; simp [Region.binds, hg] at hbnd
                  · rename_i r hg; simp [Region.binds, hg] at hbnd
                  · simp
                | tail _ h =>
                  split
                  · exact ih h
                  · exact ih h
                  · exact List.mem_cons_of_mem _ (ih h)
            exact this (Array.mem_toList_iff.2 he)
          have hel := hlt e.on (by rw [h1']; exact heo)
          have h3 := ih e.on hel
          rw [Array.getD_eq_getD_getElem?] at h3 ⊢
          have hes : e.on < listed.size := by rw [hsz]; omega
          rw [Array.getElem?_eq_getElem hes] at h3 ⊢
          simpa using h3
        rw [hr] at hmem
        cases hmem
  induction fuel with
  | zero =>
    intro listed a w f q hsz hop hcl hq hat hat2 hno hf hm hfr hd hw hB
    have hall : ∀ i, listed.getD i true = true := by
      intro i
      cases hb : listed.getD i true with
      | true => rfl
      | false =>
        have hi := getD_true_lt hb
        rw [Array.getD_eq_getD_getElem?, Array.getElem?_eq_getElem hi] at hb
        have := open_zero listed.toList hop i listed[i] (by simp)
        simp [this] at hb
    refine ⟨?_, done listed a w f q hsz (fun j _ => hall j) hq hat hat2 hf hm hfr hd hw⟩
    rw [← List.isEmpty_iff]
    cases hr : Region.ready .any ops listed with
    | nil => rfl
    | cons i l =>
      have : i ∈ Region.ready .any ops listed := by rw [hr]; simp
      have := (mem_ready.1 this).1
      rw [hall i] at this; cases this
  | succ fuel ih =>
    intro listed a w f q hsz hop hcl hq hat hat2 hno hf hm hfr hd hw hB
    refine ⟨fun hr => done listed a w f q hsz (fun j _ => stuckless listed hsz hr j) hq hat hat2 hf hm hfr hd hw, fun i hi => ?_⟩
    obtain ⟨hun, oi, hoi, hall⟩ := mem_ready.1 hi
    have hil : i < al.length := by rw [← hsz]; exact getD_true_lt hun
    obtain ⟨ao, hao, hco⟩ := (compOps_get hS.comp).2 i oi (by simpa using hoi)
    have hall' : ∀ e ∈ ao.after, listed.getD e false = true := by
      intro e he
      rw [(compOper_parts hco).2] at he
      obtain ⟨e', h1, h2, h3⟩ := edgesOf_mem he
      rw [← h3]
      exact hall e' (Array.mem_toList_iff.1 h1) h2
    obtain ⟨q', hq', hat', hat2', hst, hrd⟩ := hS.step_at hsz hao hun hall' hcl hq hat hat2
    have hset : ∀ j, (listed.setIfInBounds i true).getD j true = if j = i then true else listed.getD j true := by
      intro j
      rw [Array.getD_eq_getD_getElem?, Array.getD_eq_getD_getElem?]
      by_cases hji : j = i
      · subst hji
        rw [Array.getElem?_setIfInBounds_self_of_lt (by rw [hsz]; exact hil)]; simp
      · rw [if_neg hji, Array.getElem?_setIfInBounds_ne (Ne.symm hji)]
    unfold wpOp
    simp only [hoi]
    have hhole : ∀ r, holeAt al.length F R listed r = true → r < (maskM (S q).mem (holeAt al.length F R listed)).length := by
      intro r h
      obtain ⟨j, h1, h2, rfl, _⟩ := holeAt_iff.1 h
      rw [maskM_length]
      exact Nat.lt_of_lt_of_le (hS.place j h1 h2).1 (hS.len_le (Nat.zero_le _) hq)
    have key := stepD_ok (a := a) (o := oi) hC hco hst (fun hfi => by
        have : holeAt al.length F R listed (R i) = true := holeAt_iff.2 ⟨i, hil, hfi, rfl, hun⟩
        exact ⟨hhole _ this, hno _ this⟩) hm hfr hB (K := wpAny P .any ops Q fuel (listed.setIfInBounds i true)) (Q := Q) (fun f' a' w' h1 h2 h3 h4 h5 h6 => by
      refine ih (listed.setIfInBounds i true) a' w' f' q' (by simp [hsz]) ?_ ?_ hq' hat' hat2' ?_ (hf.trans h1) h2 h3 (h4.trans hd) (hw.trans h5) (Nat.le_trans hB h5.size)
      rotate_left 2
      · intro r h
        obtain ⟨j, g1, g2, g3, g4⟩ := holeAt_iff.1 h
        rw [hset] at g4
        split at g4
        · cases g4
        · rename_i hji
          have hh : holeAt al.length F R listed r = true := holeAt_iff.2 ⟨j, g1, g2, g3, g4⟩
          exact h6 r (hhole r hh) (hno r hh) (hrd r hh) fun hfi e => hS.far g1 hil hji g2 hfi (g3.trans e)
      · have hi2 : i < listed.size := by rw [hsz]; exact hil
        have := open_set listed.toList i (by
          rw [Array.getD_eq_getD_getElem?, Array.getElem?_eq_getElem hi2] at hun
          simp at hun
          simp [hi2, hun])
        unfold open_ at hop ⊢
        rw [Array.toList_setIfInBounds]; omega
      · intro j p hj hl e he
        rw [hset]
        split
        · rfl
        · rw [hset] at hl
          split at hl
          · rename_i hji
            subst hji
            rw [hao] at hj; obtain rfl := Option.some.inj hj
            have := hall' e he
            rw [Array.getD_eq_getD_getElem?] at this ⊢
            cases hx : listed[e]? with
            | none => simp
            | some b => rw [hx] at this; simpa using this
          · exact hcl j p hj hl e he)
    split
    · rename_i hwt; rw [if_pos hwt] at key; exact .inl key
    · rename_i hwt; rw [if_neg hwt] at key; exact key
end

section
variable {P : Program} {C : Orc} {B : Nat} {f : FM} {w : World} {a : Act}
/-! By bits it is the same. -/
theorem bitN_test (j m : Nat) : bitN j m = m.testBit j := by
  have h : bitN j m = decide (m >>> j % 2 = 1) := by
    show Nat.beq ((m >>> j) &&& 1) 1 = _
    rw [Nat.and_one_is_mod]
    cases hq : Nat.beq (m >>> j % 2) 1 with
    | true => exact (decide_eq_true (Nat.eq_of_beq_eq_true hq)).symm
    | false => exact (decide_eq_false fun h => by rw [h] at hq; cases hq).symm
  rw [h, Nat.testBit_eq_decide_div_mod_eq, Nat.shiftRight_eq_div_pow]
theorem bitN_or (j a b : Nat) : bitN j (Nat.lor a b) = (bitN j a || bitN j b) := by
  simp only [bitN_test]
  exact Nat.testBit_or a b j
theorem bitN_one (j e : Nat) : bitN j (Nat.shiftLeft 1 e) = Nat.beq j e := by
  rw [bitN_test]
  show (1 <<< e).testBit j = _
  rw [Nat.one_shiftLeft, Nat.testBit_two_pow]
  cases hq : Nat.beq j e with
  | true => exact decide_eq_true (Nat.eq_of_beq_eq_true hq).symm
  | false => exact decide_eq_false fun h => by subst h; rw [Nat.beq_refl] at hq; cases hq
theorem bitN_zero (j : Nat) : bitN j 0 = false := by rw [bitN_test]; exact Nat.zero_testBit j
theorem memN_ins (j : Nat) : ∀ l acc : List Nat, memN j (insAll l acc) = (memN j l || memN j acc)
  | [], acc => rfl
  | i :: l, acc => by
    simp only [insAll, memN_ins j l, memN]
    cases hi : memN i acc with
    | true =>
      simp only [cond_true]
      cases hq : Nat.beq j i with
      | true =>
        obtain rfl := Nat.eq_of_beq_eq_true hq
        rw [hi]; simp
      | false => simp
    | false =>
      simp only [cond_false, memN]
      cases Nat.beq j i <;> cases memN j l <;> cases memN j acc <;> rfl
def SameAnc (ms : List Nat) (L : List (List Nat)) : Prop := ∀ i j, memN j (L.getD i []) = bitN j (ms.getD i 0)
theorem fold_same {ms : List Nat} {L : List (List Nat)} (h : SameAnc ms L) (j : Nat) : ∀ (l : List Nat) (s : List Nat) (m : Nat), memN j s = bitN j m → memN j (l.foldl (fun s e => insAll (e :: L.getD e []) s) s) = bitN j (l.foldl (fun s e => Nat.lor (Nat.lor (Nat.shiftLeft 1 e) (ms.getD e 0)) s) m)
  | [], s, m, hs => hs
  | e :: l, s, m, hs => by
    simp only [List.foldl_cons]
    refine fold_same h j l _ _ ?_
    rw [memN_ins, bitN_or, bitN_or, bitN_one, memN, h, hs]
theorem ancs_same : ∀ {l : List AOper} {ms : List Nat} {L : List (List Nat)}, ms.length = L.length → SameAnc ms L → SameAnc (ancM l ms) (ancs l L)
  | [], ms, L, _, h => h
  | o :: l, ms, L, hl, h => by
    simp only [ancM, ancs]
    refine ancs_same (by simp [hl]) fun i j => ?_
    by_cases hi : i < L.length
    · have e1 : ∀ (x : List Nat), (L ++ [x]).getD i [] = L.getD i [] := fun x => by simp only [List.getD]; rw [List.getElem?_append_left hi]
      have e2 : ∀ (x : Nat), (ms ++ [x]).getD i 0 = ms.getD i 0 := fun x => by simp only [List.getD]; rw [List.getElem?_append_left (by omega)]
      rw [e1, e2, h]
    · by_cases he : i = L.length
      · subst he
        have e1 : ∀ (x : List Nat), (L ++ [x]).getD L.length [] = x := fun x => by simp [List.getD]
        have e2 : ∀ (x : Nat), (ms ++ [x]).getD L.length 0 = x := fun x => by rw [← hl]; simp [List.getD]
        rw [e1, e2]
        exact fold_same h j _ _ _ (by rw [bitN_zero]; rfl)
      · have e1 : ∀ (x : List Nat), (L ++ [x]).getD i [] = [] := fun x => by
          simp only [List.getD]; rw [List.getElem?_eq_none (by simp; omega)]; rfl
        have e2 : ∀ (x : Nat), (ms ++ [x]).getD i 0 = 0 := fun x => by
          simp only [List.getD]; rw [List.getElem?_eq_none (by simp; omega)]; rfl
        rw [e1, e2, bitN_zero]; rfl
section
variable {ms : List Nat} {L : List (List Nat)} (h : SameAnc ms L)
include h
theorem usesM_same {i t a : Nat} {al : List Nat} (ha : ∀ j, memN j al = bitN j a) : ∀ (l : List (Option Nat)) (j : Nat), usesM i a ms t j l = usesOK i al L t j l
  | [], j => rfl
  | none :: l, j => by simp only [usesM, usesOK, usesM_same ha l (j + 1)]
  | some d :: l, j => by simp only [usesM, usesOK, usesM_same ha l (j + 1), ha, h j i]
theorem allUsesM_same {i a : Nat} {al : List Nat} (ha : ∀ j, memN j al = bitN j a) (ds : List (Option Nat)) : ∀ l : List Nat, allUsesM i a ms ds l = allUses i al L ds l
  | [] => rfl
  | t :: l => by simp only [allUsesM, allUses, usesM_same h ha, allUsesM_same ha ds l]
theorem opsUsesM_same (ds : List (Option Nat)) : ∀ (l : List AOper) (i : Nat), opsUsesM ms ds i l = opsUses L ds i l
  | [], i => rfl
  | o :: l, i => by simp only [opsUsesM, opsUses, allUsesM_same h (h i), opsUsesM_same ds l (i + 1)]
theorem pairM_same {i a : Nat} {al : List Nat} {ft : Foot} (ha : ∀ j, memN j al = bitN j a) : ∀ (l : List (Foot × Nat)) (j : Nat), pairM i a ft ms j l = pairOK i al ft L j l
  | [], j => rfl
  | (ft', n') :: l, j => by simp only [pairM, pairOK, pairM_same ha l (j + 1), ha, h j i]
theorem pairsM_same (fs : List (Foot × Nat)) : ∀ (l : List (Foot × Nat)) (i : Nat), pairsM ms fs i l = pairsOK L fs i l
  | [], i => rfl
  | (ft, n) :: l, i => by simp only [pairsM, pairsOK, pairM_same h (h i), pairsM_same fs l (i + 1)]
end
theorem drawn_same (l : List AOper) (fs : List (Foot × Nat)) : drawnOK l fs = drawnSlow l fs := by
  have h : SameAnc (ancM l []) (ancs l []) := ancs_same rfl fun i j => by simp [memN, bitN_zero]
  simp only [drawnOK, drawnSlow, opsUsesM_same h, pairsM_same h]
theorem drawn_ok (hP : P.follows .mixedOrders = true) (hC : OrcOK P C) {ops : Array Oper} {al : List AOper} {s s' : St} {fs : List (Foot × Nat)} (hc : compOps P ops ops.toList = some al) (h : opsD C al s.mem.length ⟨s.fr, padM s.mem (newN al)⟩ = some (s', fs)) (hd : drawnOK al fs = true) (hm : MRel B f s.mem w) (hf : VRels f s.fr a.tmps.toList) (hB : B ≤ w.heap.size)
    {Q : Exit → Act → World → Prop} (hQ : ∀ f' a' w', Sub f f' → MRel B f' s'.mem w' → VRels f' s'.fr a'.tmps.toList → a'.defers = a.defers → Went f s.mem w f' s'.mem w' → Q .normal a' w') {id : Nat} : (Code.region id ops true).wp P Q a w := by
  obtain ⟨S, V, F, R, h1, h2, h3, h4⟩ := opsD_seq h
  rw [drawn_same] at hd
  simp only [drawnSlow, Bool.and_eq_true] at hd
  obtain ⟨p1, p2, p3⟩ := pad_get (newN al) s.mem
  have hpl : ∀ k, k < al.length → (F k).fresh = true → s.mem.length ≤ R k ∧ R k < s.mem.length + newN al := fun k hk hfr => by
    obtain ⟨g1, _, g3⟩ := h4 k al[k] (by simp)
    exact g3 (g1.fresh hfr).1
  have hS : Seq P C ops al S V F R fs := ⟨hc, fun k o hk => ⟨(h4 k o hk).1, (h4 k o hk).2.1⟩, fun k hk hfr => by
    obtain ⟨g1, g2⟩ := hpl k hk hfr
    rw [h1]
    exact ⟨by rw [p1]; exact g2, p3 _ g1 g2⟩, h3, hd.1.1, hd.1.2, hd.2⟩
  obtain ⟨hm1, hw1⟩ := pad_ok (newN al) hm
  refine wp_region_any hP ?_
  have hlen := hS.len
  have hmask : maskM (S 0).mem (holeAt al.length F R (Array.replicate ops.size false)) = padM s.mem (newN al) := by
    rw [maskM_id, h1]
    intro r hr
    obtain ⟨j, g1, g2, rfl, _⟩ := holeAt_iff.1 hr
    exact (hS.place j g1 g2).2
  refine drawn_claim hC hS (B := B) (f0 := f) (a0 := a) (w0 := w) (fun f' a' w' k1 k2 k3 k4 k5 => hQ f' a' w' k1 (by rw [← h2]; exact k2) (by rw [← h2]; exact k3) k4 (by rw [← h2]; rw [h1] at k5; exact hw1.trans k5)) ops.size (Array.replicate ops.size false) a w.drew f 0 (by simp [hlen]) ?_ ?_ (Nat.zero_le _) ?_ ?_ ?_ (Sub.refl _) (by rw [hmask]; exact hm1.drew) ?_ rfl (by rw [hmask, h1]; exact Went.drew) (by exact hB)
  · simp [open_]
  · intro j p hj hl
    rw [Array.getD_eq_getD_getElem?] at hl
    have : j < ops.size := by rw [← hlen]; exact lt_of_get hj
    simp [this] at hl
  · intro j hj _ _
    have : j < ops.size := by rw [← hlen]; exact hj
    simp [Array.getD_eq_getD_getElem?, this]
  · intro j hj _ hl
    have : j < ops.size := by rw [← hlen]; exact hj
    simp [Array.getD_eq_getD_getElem?, this] at hl
  · intro r hr
    obtain ⟨j, g1, g2, rfl, _⟩ := holeAt_iff.1 hr
    cases hfx : f (R j) with
    | none => rfl
    | some x => have := hm.dom _ x hfx; have := (hpl j g1 g2).1; omega
  · -- at the start each slot is as it was
    have : maskF (S 0).fr (S al.length).fr (openAt al (Array.replicate ops.size false)) = s.fr := by
      apply List.ext_getElem?
      intro t
      cases hb : openAt al (Array.replicate ops.size false) t with
      | true => rw [maskF_on (hS.frlen al.length (Nat.le_refl _)) hb, h1]
      | false =>
        rw [maskF_off hb, hS.fin (k := 0) (Nat.zero_le _) (t := t), h1]
        intro j o _ hj hd'
        have : openAt al (Array.replicate ops.size false) t = true := by
          rw [openAt_iff]
          have hjl : j < ops.size := by rw [← hlen]; exact lt_of_get hj
          exact ⟨j, o, hj, hd', by simp [Array.getD_eq_getD_getElem?, hjl]⟩
        rw [hb] at this; cases this
    rw [this]; exact hf

/-! ### Code -/
theorem ops_len : ∀ {al : List AOper} {s s' : St} {fs : List (Foot × Nat)}, opsA C al s = some (s', fs) → s.mem.length ≤ s'.mem.length
  | [], s, s', fs, h => by
    simp only [opsA, Option.some.injEq, Prod.mk.injEq] at h
    obtain ⟨rfl, _⟩ := h
    exact Nat.le_refl _
  | o :: al, s, s', fs, h => by
    simp only [opsA] at h
    split at h
    case h_2 => cases h
    rename_i s1 ft hs1
    split at h
    case h_2 => cases h
    rename_i s2 fs2 hs2
    simp only [Option.some.injEq, Prod.mk.injEq] at h
    obtain ⟨rfl, _⟩ := h
    obtain ⟨v, _, h2⟩ := stp_of hs1
    refine Nat.le_trans ?_ (ops_len hs2)
    rcases h2 with ⟨_, hp⟩ | ⟨_, _, hm, _⟩
    · exact (psem_foot hp).len
    · rw [hm]; exact Nat.le_refl _
theorem opsD_len : ∀ {al : List AOper} {r : Nat} {s s' : St} {fs : List (Foot × Nat)}, opsD C al r s = some (s', fs) → s.mem.length ≤ s'.mem.length
  | [], r, s, s', fs, h => by
    simp only [opsD, Option.some.injEq, Prod.mk.injEq] at h
    obtain ⟨rfl, _⟩ := h
    exact Nat.le_refl _
  | o :: al, r, s, s', fs, h => by
    simp only [opsD] at h
    split at h
    case h_2 => cases h
    rename_i s1 ft hs1
    split at h
    case h_2 => cases h
    rename_i s2 fs2 hs2
    simp only [Option.some.injEq, Prod.mk.injEq] at h
    obtain ⟨rfl, _⟩ := h
    obtain ⟨v, h2⟩ := stpD_of hs1
    exact Nat.le_trans h2.len (opsD_len hs2)
def exOf : Ex → Exit
  | .norm => .normal
  | .exit id => .exit id
  | .ret => .ret
def EndsIn (B n0 : Nat) (f : FM) (M : Mem) (w : World) (x : Ex) (s' : St) (e : Exit) (a' : Act) (w' : World) : Prop :=
  e = exOf x ∧ ∃ f', Keep n0 f f' ∧ MRel B f' s'.mem w' ∧ VRels f' s'.fr a'.tmps.toList ∧ a'.defers = [] ∧ Went f M w f' s'.mem w' ∧ n0 ≤ s'.mem.length
theorem EndsIn.after {B n0 : Nat} {f f1 : FM} {M M1 : Mem} {w w1 : World} {x : Ex} {s' : St} {e : Exit} {a' : Act} {w' : World} (hk : Keep n0 f f1) (hw : Went f M w f1 M1 w1) (h : EndsIn B n0 f1 M1 w1 x s' e a' w') : EndsIn B n0 f M w x s' e a' w' := by
  obtain ⟨h1, f', h2, h3, h4, h5, h6, h7⟩ := h
  exact ⟨h1, f', hk.trans h2, h3, h4, h5, hw.trans h6, h7⟩

theorem exec_ok (hP : P.follows .mixedOrders = true) (hC : OrcOK P C) {D : Nat → Option (List Nat)} {n0 N : Nat} : ∀ (c : Code) (n n' : Nat) (ac : ACode) (s s' : St) (x : Ex) (f : FM) (a : Act) (w : World), comp P D c n = some (ac, n') → exec C noL n0 N ac s = some (x, s') → MRel B f s.mem w → VRels f s.fr a.tmps.toList → a.defers = [] → B ≤ w.heap.size → n0 ≤ s.mem.length →
    c.wp P (EndsIn B n0 f s.mem w x s') a w := by
  intro c
  induction c with
  | skip =>
    intro n n' ac s s' x f a w hc h hm hf hd hB hn
    simp only [comp, Option.some.injEq, Prod.mk.injEq] at hc
    obtain ⟨rfl, _⟩ := hc
    simp only [exec, Option.some.injEq, Prod.mk.injEq] at h
    obtain ⟨rfl, rfl⟩ := h
    exact wp_skip ⟨rfl, f, Keep.refl _ _, hm, hf, hd, Went.refl, hn⟩
  | exit id =>
    intro n n' ac s s' x f a w hc h hm hf hd hB hn
    simp only [comp, Option.some.injEq, Prod.mk.injEq] at hc
    obtain ⟨rfl, _⟩ := hc
    simp only [exec, Option.some.injEq, Prod.mk.injEq] at h
    obtain ⟨rfl, rfl⟩ := h
    exact wp_exit ⟨rfl, f, Keep.refl _ _, hm, hf, hd, Went.refl, hn⟩
  | ret =>
    intro n n' ac s s' x f a w hc h hm hf hd hB hn
    simp only [comp, Option.some.injEq, Prod.mk.injEq] at hc
    obtain ⟨rfl, _⟩ := hc
    simp only [exec, Option.some.injEq, Prod.mk.injEq] at h
    obtain ⟨rfl, rfl⟩ := h
    exact wp_ret ⟨rfl, f, Keep.refl _ _, hm, hf, hd, Went.refl, hn⟩
  | region id ops draw =>
    intro n n' ac s s' x f a w hc h hm hf hd hB hn
    simp only [comp] at hc
    split at hc
    case h_2 =>
      simp only [Option.some.injEq, Prod.mk.injEq] at hc
      obtain ⟨rfl, _⟩ := hc
      simp only [exec, evalA] at h
      cases h
    rename_i l hl
    simp only [Option.some.injEq, Prod.mk.injEq] at hc
    obtain ⟨rfl, _⟩ := hc
    simp only [exec] at h
    have fin : ∀ s1 : St, s.mem.length ≤ s1.mem.length → ∀ f' a' w', Sub f f' → MRel B f' s1.mem w' → VRels f' s1.fr a'.tmps.toList → a'.defers = a.defers → Went f s.mem w f' s1.mem w' → EndsIn B n0 f s.mem w .norm s1 .normal a' w' := by
      intro s1 hlen f' a' w' h1 h2 h3 h4 h5
      exact ⟨rfl, f', Keep.of_pre h1, h2, h3, h4.trans hd, h5, Nat.le_trans hn hlen⟩
    cases draw with
    | true =>
      simp only [cond_true] at h
      split at h
      case h_2 => cases h
      rename_i s1 fs hops
      obtain ⟨hq, h⟩ := bif_some h
      simp only [Option.some.injEq, Prod.mk.injEq] at h
      obtain ⟨rfl, rfl⟩ := h
      have hl1 := opsD_len hops
      exact drawn_ok hP hC hl hops hq hm hf hB (fin _ (by rw [(pad_get _ _).1] at hl1; omega))
    | false =>
      simp only [cond_false] at h
      split at h
      case h_2 => cases h
      rename_i s1 fs hops
      simp only [Option.some.injEq, Prod.mk.injEq] at h
      obtain ⟨rfl, rfl⟩ := h
      exact wp_region_list (ops_ok hC hl hops hm hf hB (fin _ (ops_len hops)))
  | seq c1 c2 ih1 ih2 =>
    intro n n' ac s s' x f a w hc h hm hf hd hB hn
    simp only [comp] at hc
    split at hc
    case h_2 => cases hc
    rename_i a1 n1 h1
    split at hc
    case h_2 => cases hc
    rename_i a2 n2 h2
    simp only [Option.some.injEq, Prod.mk.injEq] at hc
    obtain ⟨rfl, _⟩ := hc
    simp only [exec] at h
    split at h
    · rename_i s1 he1
      refine wp_seq (wp_mono (ih1 n n1 a1 s s1 .norm f a w h1 he1 hm hf hd hB hn) ?_)
      rintro e a' w' ⟨rfl, f', g1, g2, g3, g4, g5, g6⟩
      refine wp_mono (ih2 n1 n2 a2 s1 s' x f' a' w' h2 h g2 g3 g4 (Nat.le_trans hB g5.size) g6) ?_
      intro e2 a2 w2 hend
      exact hend.after g1 g5
    · rename_i r hr
      obtain ⟨x1, s1, he1⟩ : ∃ x1 s1, exec C noL n0 N a1 s = some (x1, s1) := by
        cases hx : exec C noL n0 N a1 s with
        | none => rw [hx] at h; cases h
        | some p => exact ⟨p.1, p.2, rfl⟩
      rw [he1] at h
      simp only [Option.some.injEq, Prod.mk.injEq] at h
      obtain ⟨rfl, rfl⟩ := h
      have hx : x1 ≠ .norm := fun hx => by subst hx; exact hr _ he1
      refine wp_seq (wp_mono (ih1 n n1 a1 s s1 x1 f a w h1 he1 hm hf hd hB hn) ?_)
      intro e a' w' hend
      have he := hend.1
      cases x1 with
      | norm => exact absurd rfl hx
      | exit id => rw [he]; rw [he] at hend; exact hend
      | ret => rw [he]; rw [he] at hend; exact hend
  | cond c t e iht ihe =>
    intro n n' ac s s' x f a w hc h hm hf hd hB hn
    simp only [comp] at hc
    split at hc
    case h_2 => cases hc
    rename_i c' t' n1 hc' ht
    split at hc
    case h_2 => cases hc
    rename_i e' n2 he
    simp only [Option.some.injEq, Prod.mk.injEq] at hc
    obtain ⟨rfl, _⟩ := hc
    simp only [exec] at h
    split at h
    case h_2 => cases h
    rename_i b hb
    have hev := eval_rel hc' hf
    rw [hb, VRel] at hev
    cases b with
    | true =>
      rw [cond_true] at h
      exact wp_cond_true hev (iht n n1 t' s s' x f a w ht h hm hf hd hB hn)
    | false =>
      rw [cond_false] at h
      exact wp_cond_false hev (ihe n1 n2 e' s s' x f a w he h hm hf hd hB hn)
  | block id c ih =>
    intro n n' ac s s' x f a w hc h hm hf hd hB hn
    simp only [comp] at hc
    split at hc
    case h_2 => cases hc
    rename_i c' n1 hc'
    simp only [Option.some.injEq, Prod.mk.injEq] at hc
    obtain ⟨rfl, _⟩ := hc
    simp only [exec] at h
    split at h
    · rename_i i s1 he1
      refine wp_block (wp_mono (ih n n1 c' s s1 (.exit i) f a w hc' he1 hm hf hd hB hn) ?_)
      rintro e a' w' hend
      have he := hend.1
      rw [he]
      simp only [exOf, Exit.inBlock]
      cases hq : Nat.beq i id with
      | true =>
        rw [hq, cond_true] at h
        simp only [Option.some.injEq, Prod.mk.injEq] at h
        obtain ⟨rfl, rfl⟩ := h
        rw [if_pos (beq_true hq)]
        exact ⟨rfl, hend.2⟩
      | false =>
        rw [hq, cond_false] at h
        simp only [Option.some.injEq, Prod.mk.injEq] at h
        obtain ⟨rfl, rfl⟩ := h
        rw [if_neg (fun e => by subst e; simp at hq)]
        rw [he] at hend; exact hend
    · rename_i r hr
      obtain ⟨x1, s1, he1⟩ : ∃ x1 s1, exec C noL n0 N c' s = some (x1, s1) := ⟨x, s', h⟩
      rw [he1] at h
      simp only [Option.some.injEq, Prod.mk.injEq] at h
      obtain ⟨rfl, rfl⟩ := h
      refine wp_block (wp_mono (ih n n1 c' s s1 x1 f a w hc' he1 hm hf hd hB hn) ?_)
      rintro e a' w' hend
      have he := hend.1
      cases x1 with
      | norm => rw [he]; rw [he] at hend; exact hend
      | exit i => exact absurd he1 (hr i s1)
      | ret => rw [he]; rw [he] at hend; exact hend
  | loop c ih =>
    intro n n' ac s s' x f a w hc h hm hf hd hB hn
    simp only [comp] at hc
    split at hc
    case h_2 => cases hc
    rename_i c' n1 hc'
    simp only [Option.some.injEq, Prod.mk.injEq] at hc
    obtain ⟨rfl, _⟩ := hc
    simp only [exec, noL] at h
    refine wp_loop_iter (fun k a1 w1 => ∃ s1 f1, iterA (exec C noL n0 N c') (scrub n0 (D n)) k s1 = some (x, s') ∧ Keep n0 f f1 ∧ MRel B f1 s1.mem w1 ∧ VRels f1 s1.fr a1.tmps.toList ∧ a1.defers = [] ∧ B ≤ w1.heap.size ∧ n0 ≤ s1.mem.length ∧ Went f s.mem w f1 s1.mem w1) ?_ (n := N) ⟨s, f, h, Keep.refl _ _, hm, hf, hd, hB, hn, Went.refl⟩
    rintro k a1 w1 ⟨s1, f1, h1, h2, h3, h4, h5, h6, h7, h8⟩
    cases k with
    | zero => cases h1
    | succ k =>
      simp only [iterA] at h1
      split at h1
      case h_2 => cases h1
      rename_i s2 hsc
      obtain ⟨f2, g1, g2, g3, g4, g5⟩ := scrub_ok hsc h3 h7 h4
      split at h1
      · rename_i s3 hb
        refine wp_mono (ih (n + 1) n1 c' s2 s3 .norm f2 a1 w1 hc' hb g2 g3 h5 h6 g5) ?_
        rintro e a' w' ⟨rfl, f3, k1, k2, k3, k4, k5, k6⟩
        exact ⟨k, Nat.lt_succ_self _, s3, f3, h1, (h2.trans g1).trans k1, k2, k3, k4, Nat.le_trans h6 k5.size, k6, (h8.trans g4).trans k5⟩
      · rename_i r hr
        obtain ⟨x1, s3, hb⟩ : ∃ x1 s3, exec C noL n0 N c' s2 = some (x1, s3) := ⟨x, s', h1⟩
        rw [hb] at h1
        simp only [Option.some.injEq, Prod.mk.injEq] at h1
        obtain ⟨rfl, rfl⟩ := h1
        have hx : x1 ≠ .norm := fun hx => by subst hx; exact hr _ hb
        refine wp_mono (ih (n + 1) n1 c' s2 s3 x1 f2 a1 w1 hc' hb g2 g3 h5 h6 g5) ?_
        intro e a' w' hend
        have hend2 := (hend.after g1 g4).after h2 h8
        have he := hend.1
        cases x1 with
        | norm => exact absurd rfl hx
        | exit id => rw [he]; rw [he] at hend2; exact hend2
        | ret => rw [he]; rw [he] at hend2; exact hend2
  | rangeFunc => intro n n' ac s s' x f a w hc; simp [comp] at hc
  | scope => intro n n' ac s s' x f a w hc; simp [comp] at hc
  | label => intro n n' ac s s' x f a w hc; simp [comp] at hc
  | goto => intro n n' ac s s' x f a w hc; simp [comp] at hc
  | refuse => intro n n' ac s s' x f a w hc; simp [comp] at hc
end
end Go.Proofs.Ytnfglcfjjemjmaa
