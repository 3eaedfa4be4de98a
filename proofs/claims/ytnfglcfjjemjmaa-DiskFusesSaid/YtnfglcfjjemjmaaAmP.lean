/- A new block may be put at a place that was kept for it. No condition. -/
import Derived.Test.YtnfglcfjjemjmaaAm15
namespace Go.Proofs.Ytnfglcfjjemjmaa
open Go Go.RowKit

/-! ### What a related value names has a number -/
section
variable {f : FM}
mutual
theorem VRel.dom : ∀ (v : AV) (V : Value), VRel f v V → ∀ i ∈ v.refs, ∃ x, f i = some x
  | .junk, V, _, i, hi => by simp [AV.refs] at hi
  | .bool b, V, _, i, hi => by simp [AV.refs] at hi
  | .int k n, V, _, i, hi => by simp [AV.refs] at hi
  | .str x, V, _, i, hi => by simp [AV.refs] at hi
  | .nilp, V, _, i, hi => by simp [AV.refs] at hi
  | .nilsl, V, _, i, hi => by simp [AV.refs] at hi
  | .nilfn, V, _, i, hi => by simp [AV.refs] at hi
  | .nilif, V, _, i, hi => by simp [AV.refs] at hi
  | .flt b, V, _, i, hi => by simp [AV.refs] at hi
  | .nums k l, V, _, i, hi => by simp [AV.refs] at hi
  | .flat l, V, _, i, hi => by simp [AV.refs] at hi
  | .ptr j off, V, hv, i, hi => by
    rw [VRel] at hv; obtain ⟨x, h1, _⟩ := hv
    simp only [AV.refs, List.mem_singleton] at hi; subst hi; exact ⟨x, h1⟩
  | .sl j off base len esz lim, V, hv, i, hi => by
    rw [VRel] at hv; obtain ⟨x, cap, h1, _⟩ := hv
    simp only [AV.refs, List.mem_singleton] at hi; subst hi; exact ⟨x, h1⟩
  | .fn f' a c, V, hv, i, hi => by
    rw [VRel] at hv
    obtain ⟨A, D, h1, h2, h3⟩ := hv
    simp only [AV.refs, List.mem_append] at hi
    rcases hi with hi | hi
    · exact VRels.dom a A.toList h2 i hi
    · exact VRels.dom c D.toList h3 i hi
  | .agg l, V, hv, i, hi => by rw [VRel] at hv; obtain ⟨A, h1, h2⟩ := hv; exact VRels.dom l A.toList h2 i (by simpa [AV.refs] using hi)
  | .tup l, V, hv, i, hi => by rw [VRel] at hv; obtain ⟨A, h1, h2⟩ := hv; exact VRels.dom l A.toList h2 i (by simpa [AV.refs] using hi)
theorem VRels.dom : ∀ (l : List AV) (Vs : List Value), VRels f l Vs → ∀ i ∈ refsL l, ∃ x, f i = some x
  | [], Vs, _, i, hi => by simp [refsL] at hi
  | v :: l, Vs, hv, i, hi => by
    rw [VRels] at hv
    obtain ⟨V, r, rfl, h3, h4⟩ := hv
    simp only [refsL, List.mem_append] at hi
    rcases hi with hi | hi
    · exact VRel.dom v V h3 i hi
    · exact VRels.dom l r h4 i hi
end
end

section
variable {P : Program} {C : Orc} {B : Nat} {f f' : FM} {M M' : Mem} {w w' : World}
theorem BRel.on {g : FM} {b : Blk} {x : Nat × Nat} (h : BRel f w b x) (hg : AgreeOn f g (refsL b.cells.cells)) : BRel g w b x := by
  rcases h with h | ⟨A, t, fz, h1, h2, h3, h4, h5, h6, h7⟩
  · exact .inl h
  · exact .inr ⟨A, t, fz, h1, h2, h3, h4, h5, VRels.on _ _ hg h6, h7⟩
theorem place_ok (hm : MRel B f M w) {b : Blk} (h : MRel B f' (M ++ [b]) w') (hs : Sub f f') (hold : ∀ r, r < M.length → f r = none → f' r = none) (hw : Went f M w f' (M ++ [b]) w') {r : Nat} (hr : r < M.length) (hf : f r = none) (hb : b.cells.refs = []) {x : Nat × Nat} (hx : f' M.length = some x) :
    MRel B (upd f r x) (M.set r ⟨b.cells, b.kind, true⟩) w' ∧ Went f M w (upd f r x) (M.set r ⟨b.cells, b.kind, true⟩) w' := by
  have hL : (M ++ [b])[M.length]? = some b := by simp
  have old : ∀ {i : Nat} {c : Blk} {y : Nat × Nat}, i ≠ r → (M.set r ⟨b.cells, b.kind, true⟩)[i]? = some c → upd f r x i = some y → M[i]? = some c ∧ (M ++ [b])[i]? = some c ∧ f i = some y ∧ f' i = some y ∧ i < M.length := by
    intro i c y hne hi hy
    rw [List.getElem?_set_ne (Ne.symm hne)] at hi
    rw [upd_ne _ _ hne] at hy
    have hl := lt_of_get hi
    exact ⟨hi, by rw [List.getElem?_append_left hl]; exact hi, hy, hs i y hy, hl⟩
  have atr : ∀ {c : Blk} {y : Nat × Nat}, (M.set r ⟨b.cells, b.kind, true⟩)[r]? = some c → upd f r x r = some y → c = ⟨b.cells, b.kind, true⟩ ∧ y = x := by
    intro c y hi hy
    rw [List.getElem?_set_self hr] at hi
    rw [upd_same] at hy
    exact ⟨(Option.some.inj hi).symm, (Option.some.inj hy).symm⟩
  refine ⟨⟨fun i y hy => ?_, fun i c hi hd => ?_, fun i c y hi hy => ?_, fun i c y hi hy hmine => ?_, fun i j c d y z hi hj hy hz hne hmine hdead => ?_⟩, hw.os, hw.tape, hw.output, hw.size, hw.other, ?_⟩
  · rw [List.length_set]
    by_cases e : i = r
    · subst e; exact hr
    · rw [upd_ne _ _ e] at hy; exact hm.dom i y hy
  · by_cases e : i = r
    · subst e; exact ⟨x, upd_same _ _ _⟩
    · rw [List.getElem?_set_ne (Ne.symm e)] at hi
      obtain ⟨y, hy⟩ := hm.tot i c hi hd
      exact ⟨y, by rw [upd_ne _ _ e]; exact hy⟩
  · by_cases e : i = r
    · subst e
      obtain ⟨rfl, rfl⟩ := atr hi hy
      have h1 := h.blk _ b y hL hx
      rcases h1 with h1 | ⟨A, t, fz, g1, g2, g3, g4, g5, g6, g7⟩
      · exact .inl h1
      · refine .inr ⟨A, t, fz, g1, g2, g3, g4, g5, VRels.on _ _ (fun k hk => ?_) g6, g7⟩
        have := cells_refs g3 k hk
        rw [hb] at this; cases this
    · obtain ⟨g1, g2, g3, g4, g5⟩ := old e hi hy
      by_cases hd : c.kind = .dead
      · exact .inl hd
      refine (h.blk i c y g2 g4).on fun k hk z hz => ?_
      have hdom : ∃ z', f k = some z' := by
        rcases hm.blk i c y g1 g3 with g | ⟨A, t, fz, q1, q2, q3, q4, q5, q6, q7⟩
        · exact absurd g hd
        · exact VRels.dom _ _ q6 k hk
      obtain ⟨z', hz'⟩ := hdom
      have hne : k ≠ r := fun e => by subst e; rw [hf] at hz'; cases hz'
      have := hs k z' hz'
      rw [hz] at this
      obtain rfl := Option.some.inj this
      rw [upd_ne _ _ hne]; exact hz'
  · by_cases e : i = r
    · subst e
      obtain ⟨rfl, rfl⟩ := atr hi hy
      exact h.fresh _ b y hL hx hmine
    · obtain ⟨g1, g2, g3, g4, g5⟩ := old e hi hy
      exact hm.fresh i c y g1 g3 hmine
  · by_cases e : i = r
    · subst e
      obtain ⟨rfl, rfl⟩ := atr hi hy
      obtain ⟨g1, g2, g3, g4, g5⟩ := old (Ne.symm hne) hj hz
      exact h.inj M.length j b d y z hL g2 hx g4 (by omega) hmine hdead
    · obtain ⟨g1, g2, g3, g4, g5⟩ := old e hi hy
      by_cases e2 : j = r
      · subst e2
        obtain ⟨rfl, rfl⟩ := atr hj hz
        exact h.inj i M.length c b y z g2 hL g4 hx (by omega) hmine hdead
      · obtain ⟨q1, q2, q3, q4, q5⟩ := old e2 hj hz
        exact h.inj i j c d y z g2 q2 g4 q4 hne hmine hdead
  · rintro k ⟨i, c, y, hi, hmine, hy, rfl⟩
    by_cases e : i = r
    · subst e
      obtain ⟨rfl, rfl⟩ := atr hi hy
      exact hw.own _ ⟨M.length, b, y, hL, hmine, hx, rfl⟩
    · obtain ⟨g1, g2, g3, g4, g5⟩ := old e hi hy
      exact .inl ⟨i, c, y, g1, hmine, g3, rfl⟩
theorem reV_rel {g : Nat → AV} (hg : NewV g) {L r : Nat} {V : Value} (h : VRel f' (g L) V) : reV r (g L) = g r ∧ ∃ x, f' L = some x ∧ ∀ f2 : FM, f2 r = some x → VRel f2 (g r) V := by
  rcases hg with rfl | ⟨n, e, rfl⟩
  · rw [VRel] at h
    obtain ⟨x, h1, h2⟩ := h
    exact ⟨rfl, x, h1, fun f2 hf2 => by rw [VRel]; exact ⟨x, hf2, h2⟩⟩
  · rw [VRel] at h
    obtain ⟨x, cap, h1, h2⟩ := h
    exact ⟨rfl, x, h1, fun f2 hf2 => by rw [VRel]; exact ⟨x, cap, hf2, h2⟩⟩

/-- One operation, or none; a new block is put at r. -/
theorem stepD_ok {a : Act} {o : Oper} (hC : OrcOK P C) {ops : Array Oper} {ao : AOper} (hc : compOper P ops o = some ao) {s s' : St} {ft : Foot} {r : Nat} (h : stepD C ao r s = some (s', ft)) (hr : ft.fresh = true → r < s.mem.length ∧ f r = none) (hm : MRel B f s.mem w) (hf : VRels f s.fr a.tmps.toList) (hB : B ≤ w.heap.size)
    {K : Act → World → Prop} {Q : Exit → Act → World → Prop} (hK : ∀ f' a' w', Sub f f' → MRel B f' s'.mem w' → VRels f' s'.fr a'.tmps.toList → a'.defers = a.defers → Went f s.mem w f' s'.mem w' → (∀ k, k < s.mem.length → f k = none → k ∉ ft.reads → (ft.fresh = true → k ≠ r) → f' k = none) → K a' w') :
    if Region.wanted o (yielded ops a.tmps) then o.wp P a w K Q else K (a.put o.dst undef) w := by
  unfold compOper at hc
  split at hc
  case h_2 => cases hc
  rename_i p xs g hop hg
  split at hc
  case h_2 => cases hc
  rename_i ys has
  obtain rfl := Option.some.inj hc
  unfold stepD at h
  split at h
  · rename_i hw
    rw [if_pos (wanted_rel hg hf hw)]
    split at h
    · rename_i v m ft' hp
      refine prim_goes hC hm hB hop (evals_rel has hf) hp K Q ?_
      intro f' V w' h1 h2 h3 h4 h5
      cases hfr : ft'.fresh with
      | true =>
        simp only [hfr, cond_true] at h
        have h := (bif_some h).2
        split at h
        case h_2 => cases h
        rename_i b hb
        simp only [Option.some.injEq, Prod.mk.injEq] at h
        obtain ⟨rfl, rfl⟩ := h
        obtain ⟨he, hrd, gv, b0, hgv, hv, hm2, hrefs, _⟩ := (psem_foot hp).fresh hfr
        subst hm2
        simp only [List.getElem?_append_right (Nat.le_refl _), Nat.sub_self, List.getElem?_cons_zero, Option.some.injEq] at hb
        subst hb; subst hv
        obtain ⟨hrl, hrn⟩ := hr rfl
        obtain ⟨e1, x, hx, e2⟩ := reV_rel (r := r) hgv h3
        rw [hrd] at h5
        have hold : ∀ r, r < s.mem.length → f r = none → f' r = none := fun r h6 h7 => h5 r h6 h7 (by simp)
        obtain ⟨k1, k2⟩ := place_ok hm h2 h1 hold h4 hrl hrn hrefs hx
        refine hK (upd f r x) _ w' (upd_sub hrn) k1 ?_ put_defers k2 fun k _ hk _ hne => ?_
        · exact put_rel (hf.pre (upd_sub hrn)) (by rw [e1]; exact e2 _ (upd_same _ _ _))
        · rw [upd_ne _ _ (hne rfl)]; exact hk
      | false =>
        simp only [hfr, cond_false, Option.some.injEq, Prod.mk.injEq] at h
        obtain ⟨rfl, rfl⟩ := h
        exact hK f' _ w' h1 h2 (put_rel (hf.pre h1) h3) put_defers h4 fun k hk hn hr _ => h5 k hk hn hr
    · cases h
  · rename_i hw
    rw [if_neg (by rw [wanted_rel hg hf hw]; exact Bool.false_ne_true)]
    simp only [Option.some.injEq, Prod.mk.injEq] at h
    obtain ⟨rfl, rfl⟩ := h
    exact hK f _ w (Sub.refl _) hm (put_rel hf undef_rel) put_defers Went.refl fun k _ hk _ _ => hk
  · cases h

/-! ### The places that are kept -/
theorem pad1_ok (hm : MRel B f M w) : MRel B f (M ++ [deadB]) w ∧ Went f M w f (M ++ [deadB]) w := by
  have hn : f M.length = none := hm.none
  have old : ∀ {i : Nat} {c : Blk}, (M ++ [deadB])[i]? = some c → M[i]? = some c ∨ (i = M.length ∧ c = deadB) := by
    intro i c hi
    rcases Nat.lt_trichotomy i M.length with h | h | h
    · rw [List.getElem?_append_left h] at hi; exact .inl hi
    · subst h; simp only [List.getElem?_append_right (Nat.le_refl _), Nat.sub_self, List.getElem?_cons_zero, Option.some.injEq] at hi
      exact .inr ⟨rfl, hi.symm⟩
    · rw [List.getElem?_eq_none (by simp; omega)] at hi; cases hi
  refine ⟨⟨fun i x hx => ?_, fun i c hi hd => ?_, fun i c x hi hx => ?_, fun i c x hi hx hmine => ?_, fun i j c d x y hi hj hx hy hne hmine hdead => ?_⟩, rfl, rfl, rfl, Nat.le_refl _, fun _ _ _ => rfl, ?_⟩
  · have := hm.dom i x hx
    simp; omega
  · rcases old hi with h | ⟨_, rfl⟩
    · exact hm.tot i c h hd
    · exact absurd rfl hd
  · rcases old hi with h | ⟨rfl, rfl⟩
    · exact hm.blk i c x h hx
    · rw [hn] at hx; cases hx
  · rcases old hi with h | ⟨rfl, rfl⟩
    · exact hm.fresh i c x h hx hmine
    · rw [hn] at hx; cases hx
  · rcases old hi with h | ⟨rfl, rfl⟩
    · rcases old hj with h' | ⟨rfl, rfl⟩
      · exact hm.inj i j c d x y h h' hx hy hne hmine hdead
      · rw [hn] at hy; cases hy
    · rw [hn] at hx; cases hx
  · rintro k ⟨i, c, x, hi, hmine, hx, rfl⟩
    rcases old hi with h | ⟨rfl, rfl⟩
    · exact .inl ⟨i, c, x, h, hmine, hx, rfl⟩
    · rw [hn] at hx; cases hx
theorem pad_get : ∀ (n : Nat) (M : Mem), (padM M n).length = M.length + n ∧ (∀ i, i < M.length → (padM M n)[i]? = M[i]?) ∧ ∀ i, M.length ≤ i → i < M.length + n → (padM M n)[i]? = some deadB
  | 0, M => ⟨rfl, fun _ _ => rfl, fun i h1 h2 => by omega⟩
  | n + 1, M => by
    obtain ⟨h1, h2, h3⟩ := pad_get n (M ++ [deadB])
    simp only [List.length_append, List.length_cons, List.length_nil, Nat.zero_add] at h1 h2 h3
    refine ⟨by rw [padM, h1]; omega, fun i hi => ?_, fun i hi hl => ?_⟩
    · rw [padM, h2 i (by omega), List.getElem?_append_left hi]
    · rw [padM]
      by_cases e : i = M.length
      · subst e
        rw [h2 _ (by omega)]; simp
      · exact h3 i (by omega) (by omega)
theorem pad_ok (n : Nat) : ∀ {M : Mem}, MRel B f M w → MRel B f (padM M n) w ∧ Went f M w f (padM M n) w := by
  induction n with
  | zero => intro M hm; exact ⟨hm, Went.refl⟩
  | succ n ih =>
    intro M hm
    obtain ⟨h1, h2⟩ := pad1_ok hm
    obtain ⟨h3, h4⟩ := ih h1
    exact ⟨h3, h2.trans h4⟩
end
end Go.Proofs.Ytnfglcfjjemjmaa
