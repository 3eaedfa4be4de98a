/- What a function does to blocks that it only reads hangs on their cells alone. No condition. -/
import Derived.Test.YtnfglcfjjemjmaaAm21
namespace Go.Proofs.Ytnfglcfjjemjmaa
open Go Go.RowKit

/-- A block as one that may only be read, its numbers behind no unknown cells. -/
def weakB (b : Blk) : Blk :=
  match b.kind with
  | .dead => b
  | _ => match b.cells with
    | .nums k l => ⟨.at 0 (.nums k l), .ro, b.dirty⟩
    | .at o c => ⟨.at o c, .ro, b.dirty⟩
    | _ => b
def WeakB (a b : Blk) : Prop := b = a ∨ (a.kind ≠ .dead ∧ b.kind = .ro ∧ b.dirty = a.dirty ∧ b.cells.mem3 = true ∧ a.cells.mem3 = true ∧ a.cells.cells = b.cells.cells)
theorem weakB_ok (b : Blk) : WeakB b (weakB b) := by
  unfold weakB
  split
  · exact .inl rfl
  · rename_i hk
    have hk : b.kind ≠ .dead := fun e => hk e
    split
    · rename_i k l hc
      exact .inr ⟨hk, rfl, rfl, rfl, by rw [hc]; rfl, by rw [hc]; simp [AV.cells]⟩
    · rename_i o c hc
      exact .inr ⟨hk, rfl, rfl, rfl, by rw [hc]; rfl, by rw [hc]⟩
    · exact .inl rfl
def newOK : List Blk → Bool
  | [] => true
  | b :: l => (match b.kind with | .ro => false | _ => true) && newOK l
theorem newOK_get : ∀ {l : List Blk} {i : Nat} {b : Blk}, newOK l = true → l[i]? = some b → b.kind = .dead ∨ b.kind.mine = true
  | [], i, b, _, hi => by simp at hi
  | a :: l, i, b, h, hi => by
    simp only [newOK, Bool.and_eq_true] at h
    cases i with
    | zero =>
      simp at hi; subst hi
      have h1 := h.1
      cases hk : a.kind <;> simp [hk, BK.mine] at h1 ⊢
    | succ i => exact newOK_get h.2 (by simpa using hi)

section
variable {B : Nat} {f f' : FM} {M N : Mem} {w w' : World}
theorem weak_get {i : Nat} {b : Blk} (h : M[i]? = some b) : (M.map weakB)[i]? = some (weakB b) := by rw [List.getElem?_map, h]; rfl
theorem weak_get' {i : Nat} {c : Blk} (h : (M.map weakB)[i]? = some c) : ∃ b, M[i]? = some b ∧ c = weakB b := by
  rw [List.getElem?_map, Option.map_eq_some_iff] at h
  obtain ⟨b, h1, h2⟩ := h
  exact ⟨b, h1, h2.symm⟩
theorem weak_kind (b : Blk) : (weakB b).kind = b.kind ∨ ((weakB b).kind = .ro ∧ b.kind ≠ .dead) := by
  rcases weakB_ok b with e | ⟨h1, h2, _⟩
  · exact .inl (by rw [e])
  · exact .inr ⟨h2, h1⟩
theorem weak_mine {b : Blk} (h : (weakB b).kind.mine = true) : weakB b = b ∧ b.kind.mine = true := by
  rcases weakB_ok b with e | ⟨_, h2, _⟩
  · exact ⟨e, by rw [e] at h; exact h⟩
  · rw [h2] at h; cases h
theorem weak_dead {b : Blk} (h : (weakB b).kind ≠ .dead) : b.kind ≠ .dead := by
  rcases weakB_ok b with e | ⟨h1, _⟩
  · rwa [e] at h
  · exact h1
theorem weak_mrel (hm : MRel B f M w) : MRel B f (M.map weakB) w := by
  refine ⟨fun i x hx => by rw [List.length_map]; exact hm.dom i x hx, fun i c hc hk => ?_, fun i c x hc hx => ?_, fun i c x hc hx hmine => ?_, fun i j c d x y hc hd hx hy hne hmine hdead => ?_⟩
  · obtain ⟨b, h1, rfl⟩ := weak_get' hc
    exact hm.tot i b h1 (weak_dead hk)
  · obtain ⟨b, h1, rfl⟩ := weak_get' hc
    have hr := hm.blk i b x h1 hx
    rcases weakB_ok b with e | ⟨g1, g2, g3, g4, g5, g6⟩
    · rw [e]; exact hr
    · have hcs : b.cells.csize = (weakB b).cells.csize := by rw [← csize_cells, ← csize_cells, g6]
      rcases hr with hr | ⟨A, t, fz, q1, q2, q3, q4, q5, q6, q7⟩
      · exact absurd hr g1
      · exact .inr ⟨A, t, fz, q1, q2, g4, (fun h => by rw [g2] at h; cases h), by rw [← hcs]; exact q5, by rw [← hcs, ← g6]; exact q6, (fun h => by rw [g2] at h; cases h)⟩
  · obtain ⟨b, h1, rfl⟩ := weak_get' hc
    exact hm.fresh i b x h1 hx (weak_mine hmine).2
  · obtain ⟨b, h1, rfl⟩ := weak_get' hc
    obtain ⟨b2, h2, rfl⟩ := weak_get' hd
    exact hm.inj i j b b2 x y h1 h2 hx hy hne (weak_mine hmine).2 (weak_dead hdead)
theorem weak_owns {k : Nat} (h : Owns f (M.map weakB) k) : ∃ (i : Nat) (b : Blk) (x : Nat × Nat), M[i]? = some b ∧ weakB b = b ∧ b.kind.mine = true ∧ f i = some x ∧ x.1 = k := by
  obtain ⟨i, c, x, h1, h2, h3, h4⟩ := h
  obtain ⟨b, g1, rfl⟩ := weak_get' h1
  obtain ⟨e, hm⟩ := weak_mine h2
  exact ⟨i, b, x, g1, e, hm, h3, h4⟩
/-- The blocks that were there stay as they are. -/
theorem weak_back (hm : MRel B f M w) (hs : Sub f f') (hr : MRel B f' (M.map weakB ++ N) w') (hw : Went f (M.map weakB) w f' (M.map weakB ++ N) w') (hN : newOK N = true) : MRel B f' (M ++ N) w' ∧ Went f M w f' (M ++ N) w' := by
  have hlen : (M.map weakB).length = M.length := List.length_map ..
  have new : ∀ {i : Nat} {b : Blk}, (M ++ N)[i]? = some b → (M[i]? = some b ∧ i < M.length) ∨ (M.length ≤ i ∧ (M.map weakB ++ N)[i]? = some b ∧ N[i - M.length]? = some b) := by
    intro i b hb
    by_cases hi : i < M.length
    · rw [List.getElem?_append_left hi] at hb; exact .inl ⟨hb, hi⟩
    · rw [List.getElem?_append_right (by omega)] at hb
      exact .inr ⟨by omega, by rw [List.getElem?_append_right (by omega), hlen]; exact hb, hb⟩
  have oldf : ∀ {i : Nat} {b : Blk} {x : Nat × Nat}, M[i]? = some b → b.kind ≠ .dead → f' i = some x → f i = some x := by
    intro i b x hb hk hx
    obtain ⟨y, hy⟩ := hm.tot i b hb hk
    have := hs i y hy
    rw [hx] at this
    rw [hy, Option.some.inj this]
  have oldw : ∀ {i : Nat} {b : Blk}, M[i]? = some b → (M.map weakB ++ N)[i]? = some (weakB b) := by
    intro i b hb
    rw [List.getElem?_append_left (by rw [hlen]; exact lt_of_get hb)]
    exact weak_get hb
  -- a new block lies apart from the old ones
  have apart : ∀ {i j : Nat} {b c : Blk} {x y : Nat × Nat}, M[i]? = some b → b.kind ≠ .dead → f' i = some x → M.length ≤ j → (M.map weakB ++ N)[j]? = some c → N[j - M.length]? = some c → c.kind ≠ .dead → f' j = some y → x.1 ≠ y.1 := by
    intro i j b c x y hb hk hx hj hc hcN hkc hy
    have hmine : c.kind.mine = true := by
      rcases newOK_get hN hcN with h | h
      · exact absurd h hkc
      · exact h
    have hij : j ≠ i := by have := lt_of_get hb; omega
    rcases hw.own y.1 ⟨j, c, y, hc, hmine, hy, rfl⟩ with ho | hge
    · have hd : (weakB b).kind ≠ .dead := by
        rcases weakB_ok b with e | ⟨_, h2, _⟩
        · rw [e]; exact hk
        · rw [h2]; intro h; cases h
      exact fun e => hr.inj j i c (weakB b) y x hc (oldw hb) hy hx hij hmine hd e.symm
    · have := (hm.blk i b x hb (oldf hb hk hx)).lt hk
      omega
  refine ⟨⟨fun i x hx => by have := hr.dom i x hx; simp only [List.length_append, hlen] at this ⊢; exact this, fun i b hb hk => ?_, fun i b x hb hx => ?_, fun i b x hb hx hmine => ?_, fun i j b c x y hb hc hx hy hne hmine hdead => ?_⟩, hw.os, hw.tape, hw.output, hw.size, fun k hk ho => ?_, fun k hk => ?_⟩
  · rcases new hb with ⟨h1, _⟩ | ⟨_, h2, _⟩
    · obtain ⟨x, hx⟩ := hm.tot i b h1 hk
      exact ⟨x, hs i x hx⟩
    · exact hr.tot i b h2 hk
  · rcases new hb with ⟨h1, _⟩ | ⟨_, h2, _⟩
    · by_cases hk : b.kind = .dead
      · exact .inl hk
      have hfx := oldf h1 hk hx
      rcases weakB_ok b with e | ⟨g1, g2, g3⟩
      · have := hr.blk i (weakB b) x (oldw h1) hx
        rwa [e] at this
      · have hbr := hm.blk i b x h1 hfx
        refine (hbr.pre hs).heap (hw.other x.1 (hbr.lt hk) fun ho => ?_)
        obtain ⟨j, c, y, q1, q2, q3, q4, q5⟩ := weak_owns ho
        have hij : j ≠ i := by
          intro e; subst e
          rw [h1] at q1
          obtain rfl := Option.some.inj q1
          rw [q2] at g2
          rw [g2] at q3; cases q3
        exact hm.inj j i c b y x q1 h1 q4 hfx hij q3 hk q5
    · exact hr.blk i b x h2 hx
  · rcases new hb with ⟨h1, _⟩ | ⟨_, h2, _⟩
    · exact hm.fresh i b x h1 (oldf h1 (not_dead_of_mine hmine) hx) hmine
    · exact hr.fresh i b x h2 hx hmine
  · rcases new hb with ⟨h1, _⟩ | ⟨g1, h1, g3⟩ <;> rcases new hc with ⟨h2, _⟩ | ⟨g2, h2, g4⟩
    · exact hm.inj i j b c x y h1 h2 (oldf h1 (not_dead_of_mine hmine) hx) (oldf h2 hdead hy) hne hmine hdead
    · exact apart h1 (not_dead_of_mine hmine) hx g2 h2 g4 hdead hy
    · exact fun e => apart h2 hdead hy g1 h1 g3 (not_dead_of_mine hmine) hx e.symm
    · exact hr.inj i j b c x y h1 h2 hx hy hne hmine hdead
  · refine hw.other k hk fun ho2 => ho ?_
    obtain ⟨i, b, x, q1, _, q3, q4, q5⟩ := weak_owns ho2
    exact ⟨i, b, x, q1, q3, q4, q5⟩
  · obtain ⟨i, b, x, q1, q2, q3, q4⟩ := hk
    rcases new q1 with ⟨h1, _⟩ | ⟨_, h2, _⟩
    · exact .inl ⟨i, b, x, h1, q2, oldf h1 (not_dead_of_mine q2) q3, q4⟩
    · rcases hw.own k ⟨i, b, x, h2, q2, q3, q4⟩ with ho | hge
      · obtain ⟨j, c, y, e1, _, e3, e4, e5⟩ := weak_owns ho
        exact .inl ⟨j, c, y, e1, e3, e4, e5⟩
      · exact .inr hge
end
/-- What is said of blocks that may only be read, said of all. -/
def weakS (S : Spec) : Spec := fun a M => match S a (M.map weakB) with
  | some (q, v, M') => bif newOK (M'.drop M.length) then some (q, v, M ++ M'.drop M.length) else none
  | none => none
theorem addS_weak {P : Program} (hP : P.follows .mixedOrders = true) {C C0 : OrcP} (hC : OrcPOK P C) (hC0 : OrcPOK P C0) {g : FuncId} {S : Spec} (hS : ∀ a M q v M', S a M = some (q, v, M') → M' = M ++ M'.drop M.length) (h : ∀ a M q v M', S a M = some (q, v, M') → holds q → ∃ D H N, specW P D C0 H N g a M fun v2 M2 => v2 = v ∧ M2 = M') : OrcPOK P (addS C g (weakS S)) := by
  have hA := addS_ok hP hC hC0 h
  intro dec f a M v M' hc hcl
  unfold clC addS at hc
  cases hfg : Nat.beq f g with
  | false =>
    rw [hfg, cond_false] at hc
    exact hC dec f a M v M' hc hcl
  | true =>
    rw [hfg, cond_true] at hc
    unfold weakS at hc
    cases hs : S a (M.map weakB) with
    | none => rw [hs] at hc; cases hc
    | some r =>
      obtain ⟨q, v', M''⟩ := r
      rw [hs] at hc
      simp only at hc
      cases hn : newOK (M''.drop M.length) with
      | false => rw [hn, cond_false] at hc; cases hc
      | true =>
        rw [hn, cond_true] at hc
        simp only at hc
        split at hc
        case isFalse => cases hc
        rename_i hq
        simp only [Option.some.injEq, Prod.mk.injEq] at hc
        obtain ⟨rfl, rfl⟩ := hc
        have hM := hS _ _ _ _ _ hs
        rw [List.length_map] at hM
        have hent : clC dec (addS C g S) f a (M.map weakB) = some (v', M'') := by
          unfold clC addS
          rw [hfg, cond_true, hs]
          simp only
          rw [if_pos hq]
        obtain ⟨k1, k2, k3, k4⟩ := hA dec f a (M.map weakB) v' M'' hent (fun c hc => by
          obtain ⟨b, hb, rfl⟩ := List.mem_map.1 hc
          have := hcl b hb
          rcases weakB_ok b with e | ⟨_, _, h3, _⟩
          · rw [e]; exact this
          · rw [h3]; exact this)
        refine ⟨k1, by simp, fun i b b' hb hb' _ => ?_, fun B f w Vs hm hB hv => (k4 B f w Vs (weak_mrel hm) hB hv).mono ?_⟩
        · rw [List.getElem?_append_left (lt_of_get hb), hb] at hb'
          exact (Option.some.inj hb').symm
        · rintro e w' ⟨f', V, h5, h6, h7, h8, h9⟩
          rw [hM] at h7 h9
          obtain ⟨q1, q2⟩ := weak_back hm h6 h7 h9 hn
          exact ⟨f', V, h5, h6, q1, h8, q2⟩
end Go.Proofs.Ytnfglcfjjemjmaa
