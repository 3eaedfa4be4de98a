/- Blocks that nobody can reach are forgotten; a loop round by round. No condition. -/
import Derived.Test.YtnfglcfjjemjmaaAm13
namespace Go.Proofs.Ytnfglcfjjemjmaa
open Go Go.RowKit

section
variable {f g : FM}
/-- What a value is hangs on the blocks that it names alone. -/
def AgreeOn (f g : FM) (l : List Nat) : Prop := ∀ i ∈ l, ∀ x : Nat × Nat, f i = some x → g i = some x
mutual
theorem VRel.on : ∀ (v : AV) (V : Value), AgreeOn f g v.refs → VRel f v V → VRel g v V
  | .junk, V, _, _ => by simp [VRel]
  | .bool b, V, _, hv => by simpa [VRel] using hv
  | .int k n, V, _, hv => by simpa [VRel] using hv
  | .str x, V, _, hv => by simpa [VRel] using hv
  | .nilp, V, _, hv => by simpa [VRel] using hv
  | .nilsl, V, _, hv => by simpa [VRel] using hv
  | .nilfn, V, _, hv => by simpa [VRel] using hv
  | .nilif, V, _, hv => by simpa [VRel] using hv
  | .flt b, V, _, hv => by simpa [VRel] using hv
  | .nums k l, V, _, hv => by simpa [VRel] using hv
  | .flat l, V, _, hv => by rw [VRel] at hv ⊢; exact hv
  | .ptr i off, V, h, hv => by rw [VRel] at hv ⊢; obtain ⟨x, h1, h2⟩ := hv; exact ⟨x, h i (by simp [AV.refs]) x h1, h2⟩
  | .sl i off base len esz lim, V, h, hv => by rw [VRel] at hv ⊢; obtain ⟨x, cap, h1, h2⟩ := hv; exact ⟨x, cap, h i (by simp [AV.refs]) x h1, h2⟩
  | .fn f' a c, V, h, hv => by
    rw [VRel] at hv ⊢
    obtain ⟨A, D, h1, h2, h3⟩ := hv
    exact ⟨A, D, h1, VRels.on a A.toList (fun i hi => h i (by simp [AV.refs, hi])) h2, VRels.on c D.toList (fun i hi => h i (by simp [AV.refs, hi])) h3⟩
  | .agg l, V, h, hv => by rw [VRel] at hv ⊢; obtain ⟨A, h1, h2⟩ := hv; exact ⟨A, h1, VRels.on l A.toList (fun i hi => h i (by simpa [AV.refs] using hi)) h2⟩
  | .tup l, V, h, hv => by rw [VRel] at hv ⊢; obtain ⟨A, h1, h2⟩ := hv; exact ⟨A, h1, VRels.on l A.toList (fun i hi => h i (by simpa [AV.refs] using hi)) h2⟩
theorem VRels.on : ∀ (l : List AV) (Vs : List Value), AgreeOn f g (refsL l) → VRels f l Vs → VRels g l Vs
  | [], Vs, _, hv => by simpa [VRels] using hv
  | v :: l, Vs, h, hv => by
    rw [VRels] at hv ⊢
    obtain ⟨V, r, rfl, h3, h4⟩ := hv
    exact ⟨V, r, rfl, VRel.on v V (fun i hi => h i (by simp [refsL, hi])) h3, VRels.on l r (fun i hi => h i (by simp [refsL, hi])) h4⟩
end
theorem allLt_mem {n : Nat} : ∀ {l : List Nat}, allLt n l = true → ∀ i ∈ l, i < n
  | [], _, i, hi => by cases hi
  | j :: l, h, i, hi => by
    simp only [allLt, Bool.and_eq_true] at h
    cases hi with
    | head => exact blt_true h.1
    | tail _ hi => exact allLt_mem h.2 i hi
theorem allGe_mem {n : Nat} : ∀ {l : List Nat}, allGe n l = true → ∀ i ∈ l, n ≤ i
  | [], _, i, hi => by cases hi
  | j :: l, h, i, hi => by
    simp only [allGe, Bool.and_eq_true] at h
    cases hi with
    | head => exact ble_true h.1
    | tail _ hi => exact allGe_mem h.2 i hi
theorem refsL_junk : ∀ (n : Nat) (l : List AV), refsL (List.replicate n .junk ++ l) = refsL l
  | 0, l => rfl
  | n + 1, l => by simp only [List.replicate_succ, List.cons_append, refsL, AV.refs, List.nil_append, refsL_junk n l]
theorem cells_refs {c : AV} (h : c.mem3 = true) : ∀ i ∈ refsL c.cells, i ∈ c.refs := by
  clear h
  induction c using AV.cellInd with
  | «at» o c ih => intro i hi; simp only [AV.cells, refsL_junk] at hi; exact ih i hi
  | other c hc => cases c <;> first | (cases hc; done) | (intro i hi; simpa [AV.cells, refsL] using hi)
  | agg l => intro i hi; simpa [AV.cells, AV.refs] using hi
  | nums k l =>
    have : refsL (l.map (AV.int k)) = [] := by
      induction l with
      | nil => rfl
      | cons n l ih => simp only [List.map_cons, refsL, AV.refs, ih, List.append_nil]
    intro i hi
    simp only [AV.cells, this] at hi
    cases hi
  | flat l =>
    have : refsL (l.map SV.av) = [] := by
      induction l with
      | nil => rfl
      | cons n l ih => cases n <;> simp only [List.map_cons, refsL, SV.av, AV.refs, ih, List.append_nil]
    intro i hi
    simp only [AV.cells, this] at hi
    cases hi
theorem renH_get {n0 : Nat} {s : Nat → Option Nat} : ∀ {l l' : List Blk}, renH n0 s l = some l' → l'.length = l.length ∧ ∀ (i : Nat) b', l'[i]? = some b' → ∃ b, l[i]? = some b ∧ ((b.dirty = true ∧ b.ren s = some b') ∨ (b.dirty = false ∧ allLt n0 b.refs = true ∧ b' = b))
  | [], l', h => by simp only [renH, Option.some.injEq] at h; subst h; exact ⟨rfl, by simp⟩
  | a :: l, l', h => by
    simp only [renH] at h
    split at h
    · rename_i a' r' h1 h2
      simp only [Option.some.injEq] at h; subst h
      have ih := renH_get h2
      refine ⟨by simp [ih.1], fun i b' hi => ?_⟩
      cases i with
      | zero =>
        simp only [List.getElem?_cons_zero, Option.some.injEq] at hi; subst hi
        refine ⟨a, by simp, ?_⟩
        cases hd : a.dirty with
        | true => rw [hd, cond_true] at h1; exact .inl ⟨rfl, h1⟩
        | false =>
          rw [hd, cond_false] at h1
          have := bif_some h1
          exact .inr ⟨rfl, this.1, (Option.some.inj this.2).symm⟩
      | succ i => obtain ⟨b, h3, h4⟩ := ih.2 i b' (by simpa using hi); exact ⟨b, by simpa using h3, h4⟩
    · cases h
end

/-- The first n0 blocks stand where they stood. -/
def Keep (n0 : Nat) (f g : FM) : Prop := ∀ (i : Nat) (x : Nat × Nat), i < n0 → f i = some x → g i = some x
theorem Keep.refl (n0 : Nat) (f : FM) : Keep n0 f f := fun _ _ _ h => h
theorem Keep.trans {n0 : Nat} {f g h : FM} (h1 : Keep n0 f g) (h2 : Keep n0 g h) : Keep n0 f h := fun i x hi hx => h2 i x hi (h1 i x hi hx)
theorem Keep.of_pre {n0 : Nat} {f g : FM} (h : Sub f g) : Keep n0 f g := fun i x _ hx => h i x hx

section
variable {B : Nat} {f : FM} {M M' : Mem} {w : World}
theorem crampBy_ok {n0 : Nat} {fr fr' : List AV} {order : List Nat} (h : crampBy n0 fr M order = some (fr', M')) (hm : MRel B f M w) (hn : n0 ≤ M.length) {Vs : List Value} (hf : VRels f fr Vs) :
    ∃ f', Keep n0 f f' ∧ MRel B f' M' w ∧ VRels f' fr' Vs ∧ Went f M w f' M' w ∧ n0 ≤ M'.length ∧ (∀ (i : Nat) b', i < n0 → M'[i]? = some b' → b'.dirty = false → M[i]? = some b') := by
  unfold crampBy at h
  simp only at h
  split at h
  case h_2 => cases h
  rename_i fr1 A l hfr hA hl
  split at h
  case h_2 => cases h
  rename_i A' hA'
  obtain ⟨hq, h⟩ := bif_some h
  simp only [Option.some.injEq, Prod.mk.injEq] at h
  obtain ⟨rfl, rfl⟩ := h
  simp only [Bool.and_eq_true] at hq
  obtain ⟨hnd, hge⟩ := hq
  have hge := allGe_mem hge
  have hpick := pickM_get hl
  let f' : FM := fun i => if i < n0 then f i else pickF f order (i - n0)
  have f'_lt : ∀ {i : Nat}, i < n0 → f' i = f i := fun {i} h => by simp only [f']; rw [if_pos h]
  have f'_ge : ∀ {i : Nat}, n0 ≤ i → f' i = pickF f order (i - n0) := fun {i} h => by simp only [f']; rw [if_neg (Nat.not_lt.2 h)]
  let s : Nat → Option Nat := fun i => bif Nat.blt i n0 then some i else (match placeOf i order with | some k => some (n0 + k) | none => none)
  have hs : RenOK f f' s := by
    intro i j x hi hx
    simp only [s] at hi
    cases hq : Nat.blt i n0 with
    | true =>
      rw [hq, cond_true] at hi
      obtain rfl := Option.some.inj hi
      have hlt := blt_true hq
      rw [f'_lt hlt]; exact hx
    | false =>
      rw [hq, cond_false] at hi
      split at hi
      · rename_i k hk
        obtain rfl := Option.some.inj hi
        rw [f'_ge (by omega), show n0 + k - n0 = k by omega]
        exact pickF_get (placeOf_get hk) hx
      · cases hi
  have hH := renH_get hA
  have hAl : A.length = n0 := by rw [hH.1]; simp; omega
  have hA'l : A'.length = order.length := by rw [renM_length hA', ← hpick.1]
  -- each block is one of the elder ones
  have cls : ∀ (i : Nat) (b' : Blk) (x : Nat × Nat), (A ++ A')[i]? = some b' → f' i = some x → ∃ (j : Nat) (b : Blk), M[j]? = some b ∧ f j = some x ∧ b'.kind = b.kind ∧ ((i < n0 ∧ j = i) ∨ (n0 ≤ i ∧ order[i - n0]? = some j)) ∧ (BRel f w b x → BRel f' w b' x) := by
    intro i b' x hi hx
    by_cases hlt : i < n0
    · rw [List.getElem?_append_left (by rw [hAl]; exact hlt)] at hi
      have hx : f i = some x := by rwa [f'_lt hlt] at hx
      obtain ⟨b, h1, h2⟩ := hH.2 i b' hi
      rw [List.getElem?_take_of_lt hlt] at h1
      rcases h2 with ⟨_, h2⟩ | ⟨_, h2, rfl⟩
      · exact ⟨i, b, h1, hx, (blk_ren_kind h2).1, .inl ⟨hlt, rfl⟩, fun hb => BRel.ren hs h2 hb⟩
      · refine ⟨i, b', h1, hx, rfl, .inl ⟨hlt, rfl⟩, fun hb => ?_⟩
        rcases hb with hb | ⟨Ax, t, fz, g1, g2, g3, g4, g5, g6, g7⟩
        · exact .inl hb
        · by_cases hdd : b'.kind = .dead
          · exact .inl hdd
          refine .inr ⟨Ax, t, fz, g1, g2, g3, g4, g5, ?_, g7⟩
          refine VRels.on _ _ (fun j hj y hy => ?_) g6
          have hjr : j ∈ b'.refs := by
            unfold Blk.refs
            split
            · rename_i hk; exact absurd hk hdd
            · exact cells_refs g3 j hj
          have hjn := allLt_mem h2 j hjr
          rw [f'_lt hjn]; exact hy
    · have hge' : n0 ≤ i := by omega
      rw [List.getElem?_append_right (by rw [hAl]; exact hge'), hAl] at hi
      obtain ⟨b, h1, h2⟩ := renM_get' hA' _ hi
      have hik : i - n0 < order.length := by rw [hpick.1]; exact lt_of_get h1
      have hok : order[i - n0]? = some order[i - n0] := by simp
      obtain ⟨h3, _⟩ := hpick.2 _ _ hok
      have hx : pickF f order (i - n0) = some x := by rwa [f'_ge hge'] at hx
      obtain ⟨j, h4, h5⟩ := pickF_get' hx
      rw [hok] at h4; obtain rfl := Option.some.inj h4
      exact ⟨order[i - n0], b, by rw [h3]; exact h1, h5, (blk_ren_kind h2).1, .inr ⟨hge', hok⟩, fun hb => BRel.ren hs h2 hb⟩
  have clsK : ∀ (i : Nat) (b' : Blk), (A ++ A')[i]? = some b' → ∃ (j : Nat) (b : Blk), M[j]? = some b ∧ b'.kind = b.kind ∧ (∀ x, f j = some x → f' i = some x) := by
    intro i b' hi
    by_cases hlt : i < n0
    · rw [List.getElem?_append_left (by rw [hAl]; exact hlt)] at hi
      obtain ⟨b, h1, h2⟩ := hH.2 i b' hi
      rw [List.getElem?_take_of_lt hlt] at h1
      refine ⟨i, b, h1, ?_, fun x hx => by rw [f'_lt hlt]; exact hx⟩
      rcases h2 with ⟨_, h2⟩ | ⟨_, _, rfl⟩
      · exact (blk_ren_kind h2).1
      · rfl
    · have hge' : n0 ≤ i := by omega
      rw [List.getElem?_append_right (by rw [hAl]; exact hge'), hAl] at hi
      obtain ⟨b, h1, h2⟩ := renM_get' hA' _ hi
      have hik : i - n0 < order.length := by rw [hpick.1]; exact lt_of_get h1
      have hok : order[i - n0]? = some order[i - n0] := by simp
      obtain ⟨h3, _⟩ := hpick.2 _ _ hok
      exact ⟨order[i - n0], b, by rw [h3]; exact h1, (blk_ren_kind h2).1, fun x hx => by rw [f'_ge hge']; exact pickF_get hok hx⟩
  refine ⟨f', ?_, ⟨?_, ?_, ?_, ?_, ?_⟩, VRels.ren hs _ _ _ hfr hf, ⟨rfl, rfl, rfl, Nat.le_refl _, fun _ _ _ => rfl, ?_⟩, ?_, ?_⟩
  · exact fun i x hi hx => by rw [f'_lt hi]; exact hx
  · intro i x hx
    simp only [List.length_append, hAl, hA'l]
    by_cases hi : i < n0
    · omega
    · rw [f'_ge (by omega)] at hx
      obtain ⟨j, h4, _⟩ := pickF_get' hx
      have := lt_of_get h4
      omega
  · intro i b' hi hd
    obtain ⟨j, b, h1, h2, h3⟩ := clsK i b' hi
    obtain ⟨x, hx⟩ := hm.tot j b h1 (by rw [← h2]; exact hd)
    exact ⟨x, h3 x hx⟩
  · intro i b' x hi hx
    obtain ⟨j, b, h1, h2, _, _, h5⟩ := cls i b' x hi hx
    exact h5 (hm.blk j b x h1 h2)
  · intro i b' x hi hx hmine
    obtain ⟨j, b, h1, h2, h3, _, _⟩ := cls i b' x hi hx
    exact hm.fresh j b x h1 h2 (by rw [← h3]; exact hmine)
  · intro i i' b' c' x y hi hi' hx hy hne hmine hdead
    obtain ⟨j, b, h1, h2, h3, h4, _⟩ := cls i b' x hi hx
    obtain ⟨j', c, h1', h2', h3', h4', _⟩ := cls i' c' y hi' hy
    refine hm.inj j j' b c x y h1 h1' h2 h2' (fun e => hne ?_) (by rw [← h3]; exact hmine) (by rw [← h3']; exact hdead)
    subst e
    rcases h4 with ⟨g1, g2⟩ | ⟨g1, g2⟩ <;> rcases h4' with ⟨g3, g4⟩ | ⟨g3, g4⟩
    · omega
    · have := hge _ (List.mem_of_getElem? g4); omega
    · have := hge _ (List.mem_of_getElem? g2); omega
    · have := nodupN_get hnd _ _ _ g2 g4; omega
  · rintro b ⟨i, k, x, hi, hmine, hx, rfl⟩
    obtain ⟨j, b, h1, h2, h3, _, _⟩ := cls i k x hi hx
    exact .inl ⟨j, b, x, h1, by rw [← h3]; exact hmine, h2, rfl⟩
  · simp [hAl]
  · intro i b' hi hb' hd
    rw [List.getElem?_append_left (by rw [hAl]; exact hi)] at hb'
    obtain ⟨b, h1, h2⟩ := hH.2 i b' hb'
    rw [List.getElem?_take_of_lt hi] at h1
    rcases h2 with ⟨g1, g2⟩ | ⟨_, _, rfl⟩
    · rw [(blk_ren_kind g2).2, g1] at hd; cases hd
    · exact h1
theorem junk_rel : ∀ (dead : List Nat) (fr : List AV) {Vs : List Value}, VRels f fr Vs → VRels f (junkAll dead fr) Vs
  | [], fr, Vs, h => h
  | t :: l, fr, Vs, h => by
    refine junk_rel l _ ?_
    by_cases ht : t < fr.length
    · have hl := h.length
      have hV : Vs = Vs.set t (Vs[t]'(by omega)) := by simp
      rw [hV]
      exact h.set t (by simp [VRel])
    · rw [List.set_eq_of_length_le (by omega)]; exact h
theorem scrub_ok {n0 : Nat} {dead : Option (List Nat)} {s s' : St} (h : scrub n0 dead s = some s') (hm : MRel B f s.mem w) (hn : n0 ≤ s.mem.length) {Vs : List Value} (hf : VRels f s.fr Vs) :
    ∃ f', Keep n0 f f' ∧ MRel B f' s'.mem w ∧ VRels f' s'.fr Vs ∧ Went f s.mem w f' s'.mem w ∧ n0 ≤ s'.mem.length := by
  unfold scrub at h
  split at h
  · obtain rfl := Option.some.inj h
    exact ⟨f, Keep.refl _ _, hm, hf, Went.refl, hn⟩
  · split at h
    · rename_i fr m hcr
      obtain rfl := Option.some.inj h
      obtain ⟨f', h1, h2, h3, h4, h5, _⟩ := crampBy_ok hcr hm hn (junk_rel _ _ hf)
      exact ⟨f', h1, h2, h3, h4, h5⟩
    · cases h
end

/-- A loop, with a number that each round lowers. -/
theorem wp_loop_iter {P : Program} {c : Code} {Q : Exit → Act → World → Prop} (J : Nat → Act → World → Prop)
    (round : ∀ n a w, J n a w → c.wp P (Exit.then (fun a' w' => ∃ n', n' < n ∧ J n' a' w') Q) a w) {n : Nat} {a : Act} {w : World} (h0 : J n a w) : (Code.loop c).wp P Q a w := by
  intro b k cs
  have key : ∀ n a w, J n a w → ∃ e a' w', Q e a' w' ∧ Arrives P (lone (b.at a (.code c :: .inLoop c :: k)) cs w) b k cs e a' w' := by
    intro n
    induction n using Nat.strongRecOn with
    | _ n ih =>
      intro a w hI
      obtain ⟨e, a₁, w₁, hq, harr⟩ := round n a w hI b (.inLoop c :: k) cs
      cases e with
      | normal =>
        obtain ⟨n', hlt, hI₁⟩ := hq
        obtain ⟨e₂, a₂, w₂, hq₂, harr₂⟩ := ih n' hlt a₁ w₁ hI₁
        exact ⟨e₂, a₂, w₂, hq₂, .of_steps (Steps.trans harr (.one step_inLoop)) harr₂⟩
      | exit id => exact ⟨_, a₁, w₁, hq, .pass (x := .inLoop c) rfl (fun _ _ => .inl (by simp)) harr⟩
      | goto l => exact ⟨_, a₁, w₁, hq, .pass (x := .inLoop c) rfl (fun _ _ => .inl (by simp)) harr⟩
      | ret => exact ⟨_, a₁, w₁, hq, .pass (x := .inLoop c) rfl (fun _ _ => .inl (by simp)) harr⟩
      | panic ch => exact ⟨_, a₁, w₁, hq, .pass (x := .inLoop c) rfl (fun _ _ => .inl (by simp)) harr⟩
      | outgrown => exact ⟨_, a₁, w₁, hq, .pass (x := .inLoop c) rfl (fun _ _ => .inl (by simp)) harr⟩
  obtain ⟨e, a', w', hq, harr⟩ := key n a w h0
  exact ⟨e, a', w', hq, .of_steps (.one step_loop) harr⟩
end Go.Proofs.Ytnfglcfjjemjmaa
