/- A region whose order is drawn: where each operation of its head, in every world of a class, hands back one value and stays in the class, the text's own order serves for all; its tail, which waits for the head, is walked as it stands. Over any program. No condition. -/
import Derived.WalkKit
import Derived.StillTail
import Derived.BigQuiet
namespace Go.Proofs.Ytngohnckelceoaa
open Go

section
variable {P : Program} {ops : Array Oper} {md : Region.Mode} {C : World → Prop}

/-- The operation, carried out, hands back v, and the world behind it is of the class. -/
def landsOn (P : Program) (C : World → Prop) (v : Value) : Result Next → Prop
  | .ok (.value u) w' => u = v ∧ C w'
  | .ok .skip w' => v = undef ∧ C w'
  | .ok (.enter f args) w' => Calls P f args w' (fun e w'' => e = .returned v ∧ C w'')
  | _ => False

def FixedAt (P : Program) (ops : Array Oper) (C : World → Prop) (o : Oper) (v : Value) (a : Act) : Prop :=
  (Region.wanted o (yielded ops a.tmps) = true ∧ ∀ w, C w → landsOn P C v ((execOp a.eval o).run P w)) ∨ (Region.wanted o (yielded ops a.tmps) = false ∧ v = undef)

theorem FixedAt.step {i : Nat} {o : Oper} {v : Value} {a : Act} {K : Act → World → Prop} {Q : Exit → Act → World → Prop} {w : World} (hi : ops[i]? = some o) (hf : FixedAt P ops C o v a) (hC : C w)
    (hK : ∀ w', C w' → K (a.put o.dst v) w') : wpOp P ops Q i K a w := by
  unfold wpOp
  simp only [hi]
  rcases hf with ⟨hw, hl⟩ | ⟨hw, rfl⟩
  · rw [if_pos hw]
    refine .inl ?_
    have h1 := hl w hC
    unfold Oper.wp
    generalize (execOp a.eval o).run P w = r at h1
    cases r with
    | halt x w' => exact h1.elim
    | ok n w' =>
      cases n <;> simp only [landsOn] at h1 <;> simp only [Oper.upon]
      case value u => obtain ⟨rfl, h2⟩ := h1; exact hK _ h2
      case skip => obtain ⟨rfl, h2⟩ := h1; exact hK _ h2
      case enter f args => exact h1.mono fun e w'' ⟨he, h2⟩ => by subst he; exact hK _ h2
  · rw [if_neg (by rw [hw]; exact Bool.false_ne_true)]
    exact hK _ hC

theorem FixedAt.later {oi oj : Oper} {v u : Value} {a : Act} (hap : oi.apart ops oj = true) (hs : ∀ cs b, oi.op ≠ .select cs b) (hf : FixedAt P ops C oi v a) : FixedAt P ops C oi v (a.put oj.dst u) := by
  obtain ⟨_, _, h3⟩ := Oper.apart_spec hap
  unfold FixedAt at *
  rw [execOp_put oi hs a oj.dst u h3, wanted_put oi a oj.dst u h3]
  exact hf
theorem FixedAt.sooner {oi oj : Oper} {v u : Value} {a : Act} (hap : oi.apart ops oj = true) (hs : ∀ cs b, oj.op ≠ .select cs b) (hf : FixedAt P ops C oj v (a.put oi.dst u)) : FixedAt P ops C oj v a := by
  obtain ⟨h1, _, _⟩ := Oper.apart_spec hap
  unfold FixedAt at *
  rw [execOp_put oj hs a oi.dst u h1, wanted_put oj a oi.dst u h1] at hf
  exact hf

/-- Whatever order is drawn for the next f operations: each is one of the head's, and fixed. -/
def HeadF (P : Program) (md : Region.Mode) (ops : Array Oper) (C : World → Prop) (n : Nat) (L : Array Bool → Act → Prop) : Nat → Array Bool → Act → Prop
  | 0, listed, a => L listed a
  | f + 1, listed, a => Region.ready md ops listed ≠ [] ∧ ∀ i ∈ Region.ready md ops listed, i < n ∧ ∃ o v, ops[i]? = some o ∧ FixedAt P ops C o v a ∧ HeadF P md ops C n L f (listed.setIfInBounds i true) (a.put o.dst v)

theorem HeadF.any {n g : Nat} {L : Array Bool → Act → Prop} {Q : Exit → Act → World → Prop} (hL : ∀ listed a, L listed a → ∀ w, C w → wpAny P md ops Q g listed a w) :
    ∀ (f : Nat) (listed : Array Bool) (a : Act), HeadF P md ops C n L f listed a → ∀ w, C w → wpAny P md ops Q (f + g) listed a w
  | 0, listed, a, h, w, hC => by rw [Nat.zero_add]; exact hL _ _ h w hC
  | f + 1, listed, a, h, w, hC => by
    rw [show f + 1 + g = (f + g) + 1 by omega]
    refine ⟨fun h0 => absurd h0 h.1, fun i hi => ?_⟩
    obtain ⟨_, o, v, ho, hf, hr⟩ := h.2 i hi
    exact hf.step ho hC fun w' hC' => HeadF.any hL f _ _ hr w' hC'

/-- An operation that may come now may be taken first. -/
theorem HeadF.first {n i : Nat} {oi : Oper} {v : Value} {L : Array Bool → Act → Prop} (hi : ops[i]? = some oi) (hsel : ∀ (j : Nat) (o : Oper) cs b, ops[j]? = some o → o.op ≠ .select cs b) (hin : i < n)
    (G : Array Bool → Prop) (hG : ∀ listed j, G listed → j ∈ Region.ready md ops listed → j < n → G (listed.setIfInBounds j true)) (hjn : ∀ listed, G listed → listed.getD i true = false → ∀ j ∈ Region.ready md ops listed, j < n)
    (hdone : ∀ listed a, L listed a → ∀ j ∈ Region.ready md ops listed, n ≤ j) :
    ∀ (f : Nat) (listed : Array Bool) (a : Act), G listed →
      (∀ j oj, ops[j]? = some oj → j ≠ i → listed.getD j true = false → (∀ e ∈ oj.after, Region.binds md e = true → e.on ≠ i) → oi.apart ops oj = true) →
      i ∈ Region.ready md ops listed → FixedAt P ops C oi v a → HeadF P md ops C n L f (listed.setIfInBounds i true) (a.put oi.dst v) → HeadF P md ops C n L (f + 1) listed a := by
  intro f
  induction f with
  | zero =>
    intro listed a hg _ hr hf H
    refine ⟨fun h => (by rw [h] at hr; cases hr), fun j hj => ?_⟩
    by_cases hji : j = i
    · subst hji; exact ⟨hin, oi, v, hi, hf, H⟩
    · have h1 := hdone _ _ H j (ready_mono hj hji)
      have h2 := hjn listed hg (mem_ready.1 hr).1 j hj
      omega
  | succ f ih =>
    intro listed a hg hfree hr hf H
    refine ⟨fun h => (by rw [h] at hr; cases hr), fun j hj => ?_⟩
    by_cases hji : j = i
    · subst hji; exact ⟨hin, oi, v, hi, hf, H⟩
    · have hj2 := hjn listed hg (mem_ready.1 hr).1 j hj
      obtain ⟨_, oj, u, hoj, hfj, hrest⟩ := H.2 j (ready_mono hj hji)
      obtain ⟨hjun, oj', hoj', hall⟩ := mem_ready.1 hj
      obtain rfl : oj' = oj := Option.some.inj (hoj'.symm.trans hoj)
      have hnot : ∀ e ∈ oj'.after, Region.binds md e = true → e.on ≠ i := fun e he hb heq => by
        have h1 := hall e he hb
        have h0 := (mem_ready.1 hr).1
        rw [heq] at h1
        have h3 := getD_both h0
        rw [h3] at h1
        cases h1
      have hap := hfree j oj' hoj hji hjun hnot
      have hfree' : ∀ k ok, ops[k]? = some ok → k ≠ i → (listed.setIfInBounds j true).getD k true = false → (∀ e ∈ ok.after, Region.binds md e = true → e.on ≠ i) → oi.apart ops ok = true := fun k ok hk hki hun hno => by
        refine hfree k ok hk hki ?_ hno
        by_cases hjk : j = k
        · subst hjk; exact hjun
        · rw [getD_set_ne true hjk] at hun; exact hun
      refine ⟨hj2, oj', u, hoj, hfj.sooner hap (fun cs b => hsel j oj' cs b hoj), ?_⟩
      refine ih _ _ (hG listed j hg hj hj2) hfree' (ready_mono hr (Ne.symm hji)) (hf.later hap (fun cs b => hsel i oi cs b hi)) ?_
      rw [Array.setIfInBounds_comm _ _ hji, ← Act.put_comm a v u (Oper.apart_spec hap).2.1]
      exact hrest

/-- The head, in the text's order. -/
def wpHead (P : Program) (ops : Array Oper) (C : World → Prop) (L : Act → Prop) : List Oper → Act → Prop
  | [], a => L a
  | o :: rest, a => ∃ v, FixedAt P ops C o v a ∧ wpHead P ops C L rest (a.put o.dst v)

theorem HeadF.lex {n g : Nat} {Lq : Act → Prop} (hsel : Region.noSelect ops = true)
    (G : Array Bool → Prop) (hG : ∀ listed j, G listed → j ∈ Region.ready md ops listed → j < n → G (listed.setIfInBounds j true)) (hjn : ∀ i, i < n → ∀ listed, G listed → listed.getD i true = false → ∀ j ∈ Region.ready md ops listed, j < n) :
    ∀ (l : List Oper) (k : Nat) (listed : Array Bool) (a : Act), (∀ j, j < l.length → l[j]? = ops[k + j]?) → k + l.length = n → G listed → Region.lexHead md ops g l.length k listed = true → wpHead P ops C Lq l a →
      HeadF P md ops C n (fun listed' a' => Region.seqB md ops g n listed' = true ∧ Lq a') l.length listed a
  | [], k, listed, a, _, hk, _, hB, h => by
    obtain rfl : k = n := by simpa using hk
    exact ⟨by simpa [Region.lexHead] using hB, h⟩
  | o :: l, k, listed, a, hl, hk, hg, hB, h => by
    have h0 : ops[k]? = some o := by simpa using (hl 0 (by simp)).symm
    simp only [List.length_cons, Region.lexHead, Bool.and_eq_true] at hB
    obtain ⟨⟨hr, hf⟩, hB'⟩ := hB
    have hkn : k < n := by simp only [List.length_cons] at hk; omega
    have hr' : k ∈ Region.ready md ops listed := by simpa using hr
    obtain ⟨v, hv, hrest⟩ := h
    exact HeadF.first h0 (Region.noSelect_spec hsel) hkn G hG (hjn k hkn) (fun listed' a' hL => seqB_ready hL.1) l.length listed a hg (Region.free_spec h0 hf) hr' hv
      (HeadF.lex hsel G hG hjn l (k + 1) _ _ (fun j hj => by have := hl (j + 1) (by simp; omega); simpa [Nat.add_assoc, Nat.add_comm 1 j] using this) (by simp only [List.length_cons] at hk; omega) (hG listed k hg hr' hkn) hB' hrest)

/-- A HEAD OF n OPERATIONS, AND A TAIL BEHIND IT. -/
theorem wp_region_tail {id : Nat} {Q : Exit → Act → World → Prop} {a : Act} {w : World} {l : List Oper} (n : Nat) (C : World → Prop) (hm : P.follows .mixedOrders = true) (hB : Region.lexTailB .any l.toArray n = true) (hC : C w.drew)
    (h : wpHead P l.toArray C (fun a' => ∀ w', C w' → wpList P l.toArray Q (l.drop n) a' w') (l.take n) a) : (Code.region id l.toArray true).wp P Q a w := by
  simp only [Region.lexTailB, Bool.and_eq_true, decide_eq_true_eq] at hB
  obtain ⟨⟨⟨⟨hsel, hn⟩, hs⟩, hc⟩, hlex⟩ := hB
  have hn' : n < l.length := by simpa using hn
  have htl : (l.take n).length = n := by simp; omega
  have hdl : (l.drop n).length = l.toArray.size - n := by simp
  have inv0 : HeadInv .any l.toArray n (Array.replicate l.toArray.size false) :=
    ⟨by simp, fun j oj _ hl => (by rw [getD_replicate_false] at hl; cases hl), fun t _ ht => getD_in (by simpa using ht) (getD_replicate_false _ _)⟩
  have H := HeadF.lex (P := P) (C := C) (md := .any) (g := l.toArray.size - n) hsel (HeadInv .any l.toArray n) (fun listed j hg hj hjn => hg.set hj hjn)
    (fun i hi listed hg hun j hj => Nat.lt_of_not_le fun hnj => tail_waits hs hc hn hg (n - i) i rfl hi hun j hnj hj)
    (l.take n) 0 _ a (fun j hj => by
      have hj' : j < n := by rw [htl] at hj; exact hj
      simp [hj']) (by simpa using htl) inv0 (by rw [htl]; exact hlex) h
  refine wp_region_any hm ?_
  have := HeadF.any (Q := Q) (g := l.toArray.size - n) (fun listed a' hL w' hC' => by
    have := wpAny_of_seq (md := .any) (Q' := Q) (l.drop n) n listed a' w' (fun j => by simp [List.getElem?_drop]) (by rw [hdl]; exact hL.1) (hL.2 w' hC')
    rwa [hdl] at this) _ _ _ H w.drew hC
  rw [htl, show n + (l.toArray.size - n) = l.toArray.size by omega] at this
  exact this

/-- ALL OF THE REGION IS ITS HEAD. -/
theorem wp_region_head {id : Nat} {Q : Exit → Act → World → Prop} {a : Act} {w : World} {l : List Oper} (C : World → Prop) (hm : P.follows .mixedOrders = true) (hB : (Region.noSelect l.toArray && Region.lexHead .any l.toArray 0 l.length 0 (Array.replicate l.length false)) = true) (hC : C w.drew)
    (h : wpHead P l.toArray C (fun a' => ∀ w', C w' → Q .normal a' w') l a) : (Code.region id l.toArray true).wp P Q a w := by
  simp only [Bool.and_eq_true] at hB
  have H := HeadF.lex (P := P) (C := C) (n := l.length) (md := .any) (g := 0) hB.1 (fun _ => True) (fun _ _ _ _ _ => trivial)
    (fun i hi listed hg hun j hj => by
      obtain ⟨_, o, ho, _⟩ := mem_ready.1 hj
      have := (Array.getElem?_eq_some_iff.1 ho).1
      simpa using this)
    l 0 (Array.replicate l.length false) a (fun j hj => by simp) (by simp) trivial (by simpa using hB.2) h
  refine wp_region_any hm ?_
  have := HeadF.any (Q := Q) (g := 0) (fun listed a' hL w' hC' => ⟨by simpa [Region.seqB] using hL.1, hL.2 w' hC'⟩) _ _ _ H w.drew hC
  simpa using this

/-! ### One operation of the head -/
variable {L : Act → Prop} {a : Act} {o : Oper} {rest : List Oper} {v : Value}
theorem head_nil (h : L a) : wpHead P ops C L [] a := h
theorem head_skip (hw : Region.wanted o (yielded ops a.tmps) = false) (h : wpHead P ops C L rest (a.put o.dst undef)) : wpHead P ops C L (o :: rest) a := ⟨undef, .inr ⟨hw, rfl⟩, h⟩
theorem head_ex (hw : Region.wanted o (yielded ops a.tmps) = true) (h : ∃ v, (∀ w, C w → (execOp a.eval o).run P w = .ok (.value v) w) ∧ wpHead P ops C L rest (a.put o.dst v)) : wpHead P ops C L (o :: rest) a :=
  let ⟨v, h1, h2⟩ := h; ⟨v, .inl ⟨hw, fun w hC => by rw [h1 w hC]; exact ⟨rfl, hC⟩⟩, h2⟩
theorem head_val (v : Value) (hw : Region.wanted o (yielded ops a.tmps) = true) (h1 : ∀ w, C w → (execOp a.eval o).run P w = .ok (.value v) w) (h2 : wpHead P ops C L rest (a.put o.dst v)) : wpHead P ops C L (o :: rest) a :=
  head_ex hw ⟨v, h1, h2⟩
theorem head_call (v : Value) (hw : Region.wanted o (yielded ops a.tmps) = true) (h : ∃ f args, (∀ w, C w → (execOp a.eval o).run P w = .ok (.enter f args) w) ∧ (∀ w, C w → Calls P f args w fun e w' => e = .returned v ∧ C w') ∧ wpHead P ops C L rest (a.put o.dst v)) : wpHead P ops C L (o :: rest) a :=
  let ⟨f, args, h1, h2, h3⟩ := h; ⟨v, .inl ⟨hw, fun w hC => by rw [h1 w hC]; exact h2 w hC⟩, h3⟩
theorem head_store (hw : Region.wanted o (yielded ops a.tmps) = true) (h1 : ∀ w, C w → ∃ w', (execOp a.eval o).run P w = .ok .skip w' ∧ C w') (h2 : wpHead P ops C L rest (a.put o.dst undef)) : wpHead P ops C L (o :: rest) a :=
  ⟨undef, .inl ⟨hw, fun w hC => by obtain ⟨w', e, hC'⟩ := h1 w hC; rw [e]; exact ⟨rfl, hC'⟩⟩, h2⟩
end
end Go.Proofs.Ytngohnckelceoaa
