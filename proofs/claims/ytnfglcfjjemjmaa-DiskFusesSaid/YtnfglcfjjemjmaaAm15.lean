/- What an operation of the small machine reads and writes. No condition. -/
import Derived.Test.YtnfglcfjjemjmaaAm14
namespace Go.Proofs.Ytnfglcfjjemjmaa
open Go Go.RowKit

/-- The value that names a new block. -/
def NewV (g : Nat → AV) : Prop := (g = fun L => .ptr L 0) ∨ ∃ n e, g = fun L => .sl L 0 0 n e none
structure FootOK (C : Orc) (p : Prim) (vs : List AV) (M : Mem) (v : AV) (M' : Mem) (ft : Foot) : Prop where
  len : M.length ≤ M'.length
  keep : ∀ r, r < M.length → r ∉ ft.writes → M'[r]? = M[r]?
  clean : ∀ r b', r < M.length → M'[r]? = some b' → b'.dirty = false → M[r]? = some b'
  quiet : ft.eff = false → M' = M ∧ (∀ r ∈ ft.reads, r < M.length) ∧ ∀ M2 : Mem, (∀ r ∈ ft.reads, M2[r]? = M[r]?) → psem C p vs M2 = some (v, M2, ft)
  fresh : ft.fresh = true → ft.eff = true ∧ ft.reads = [] ∧ ∃ (g : Nat → AV) (b : Blk), NewV g ∧ v = g M.length ∧ M' = M ++ [b] ∧ b.cells.refs = [] ∧ ∀ M2 : Mem, psem C p vs M2 = some (g M2.length, M2 ++ [b], ft)

section
variable {C : Orc} {p : Prim} {vs : List AV} {M M' : Mem} {v : AV} {ft : Foot}
theorem foot_quiet {v0 : AV} (h : quiet v0 M = some (v, M', ft)) (hq : ∀ M2, psem C p vs M2 = quiet v0 M2) : FootOK C p vs M v M' ft := by
  simp only [quiet, Option.some.injEq, Prod.mk.injEq] at h
  obtain ⟨rfl, rfl, rfl⟩ := h
  exact ⟨Nat.le_refl _, fun _ _ _ => rfl, fun _ _ _ h _ => h, fun _ => ⟨rfl, by simp, fun M2 _ => by rw [hq]; rfl⟩, fun h => by cases h⟩
theorem foot_app {v0 : AV} {l : List Blk} {rd : List Nat} (h : some (v0, M ++ l, (⟨rd, [], true, false⟩ : Foot)) = some (v, M', ft)) : FootOK C p vs M v M' ft := by
  simp only [Option.some.injEq, Prod.mk.injEq] at h
  obtain ⟨rfl, rfl, rfl⟩ := h
  refine ⟨by simp, fun r hr _ => List.getElem?_append_left hr, fun r b' hr hb _ => ?_, (fun h => by cases h), (fun h => by cases h)⟩
  rwa [List.getElem?_append_left hr] at hb
theorem foot_new {g : Nat → AV} {c : AV} {k : BK} (hg : NewV g) (h : newB (g M.length) M c k = some (v, M', ft)) (hq : ∀ M2 : Mem, psem C p vs M2 = newB (g M2.length) M2 c k) : FootOK C p vs M v M' ft := by
  simp only [newB, Option.some.injEq, Prod.mk.injEq] at h
  obtain ⟨rfl, rfl, rfl⟩ := h
  refine ⟨by simp, fun r hr _ => List.getElem?_append_left hr, fun r b' hr hb _ => ?_, (fun h => by cases h), fun h => ⟨rfl, rfl, g, _, hg, rfl, rfl, ?_, fun M2 => by rw [hq]; rfl⟩⟩
  · rwa [List.getElem?_append_left hr] at hb
  · simp only [noneOf] at h
    split at h
    · assumption
    · cases h
theorem foot_set {v0 : AV} {i : Nat} {b : Blk} {l : List Blk} (hb : b.dirty = true) (h : some (v0, M.set i b ++ l, (⟨[], [i], true, false⟩ : Foot)) = some (v, M', ft)) : FootOK C p vs M v M' ft := by
  simp only [Option.some.injEq, Prod.mk.injEq] at h
  obtain ⟨rfl, rfl, rfl⟩ := h
  refine ⟨by simp, fun r hr hw => ?_, fun r b' hr hb' hd => ?_, (fun h => by cases h), (fun h => by cases h)⟩
  · rw [List.getElem?_append_left (by simpa using hr)]
    rw [List.getElem?_set_ne]
    intro e; subst e; simp at hw
  · rw [List.getElem?_append_left (by simpa using hr)] at hb'
    by_cases e : i = r
    · subst e
      rw [List.getElem?_set_self hr] at hb'
      obtain rfl := Option.some.inj hb'
      rw [hb] at hd; cases hd
    · rwa [List.getElem?_set_ne e] at hb'
theorem live_lt {i : Nat} {b : Blk} (h : liveB M i = some b) : i < M.length := by
  unfold liveB at h
  split at h
  · rename_i hb; exact lt_of_get hb
  · cases h
theorem live_same {M2 : Mem} {i : Nat} (h : M2[i]? = M[i]?) : liveB M2 i = liveB M i := by simp only [liveB, h]
theorem callOn_foot {g : FuncId} {args : List AV} {is : List Nat} (h : callOn C g args M is = some (v, M', ft)) : FootOK C p vs M v M' ft := by
  unfold callOn at h
  split at h
  case h_2 => cases h
  rename_i a' l ha' hl
  split at h
  case h_2 => cases h
  split at h
  case h_2 => cases h
  simp only at h
  split at h
  case h_2 => cases h
  rename_i v' m' hv' hm'
  split at h
  case h_2 => cases h
  rename_i M1 hback
  obtain ⟨hq, h⟩ := bif_some h
  simp only [Option.some.injEq, Prod.mk.injEq] at h
  obtain ⟨rfl, rfl, rfl⟩ := h
  simp only [Bool.and_eq_true] at hq
  have hpick := pickM_get hl
  have hinM : ∀ (k i : Nat), is[k]? = some i → i < M.length := fun k i hk => by
    obtain ⟨h1, b, h2⟩ := hpick.2 k i hk
    rw [h2] at h1; exact lt_of_get h1
  obtain ⟨hb1, hb2, hb3, hb4⟩ := backM_get hback hq.1 hinM
  have dirty_mem : ∀ {is : List Nat} {l : List Blk} (k i : Nat) (b : Blk), is[k]? = some i → l[k]? = some b → b.dirty = true → i ∈ dirtyOf is l := by
    intro is
    induction is with
    | nil => intro l k i b h; simp at h
    | cons j is ih =>
      intro l k i b hi hb hd
      cases l with
      | nil => simp at hb
      | cons c l =>
        simp only [dirtyOf]
        cases k with
        | zero =>
          simp only [List.getElem?_cons_zero, Option.some.injEq] at hi hb
          subst hi; subst hb
          rw [hd]; simp
        | succ k =>
          have := ih k i b (by simpa using hi) (by simpa using hb) hd
          cases c.dirty <;> simp [this]
  refine ⟨by simp [hb1], fun r hr hw => ?_, fun r b' hr hb' hd => ?_, (fun hh => by cases hh), (fun hh => by cases hh)⟩
  · rw [List.getElem?_append_left (by rw [hb1]; exact hr)]
    by_cases hmem : r ∈ is
    · obtain ⟨k, hk⟩ := List.getElem?_of_mem hmem
      have hkl : k < m'.length := Nat.lt_of_lt_of_le (lt_of_get hk) hb2
      rw [hb3 k r m'[k] hk (by simp)]
      cases hd : m'[k].dirty with
      | true => exact absurd (dirty_mem k r _ hk (by simp) hd) hw
      | false => simp
    · exact hb4 r hmem
  · rw [List.getElem?_append_left (by rw [hb1]; exact hr)] at hb'
    by_cases hmem : r ∈ is
    · obtain ⟨k, hk⟩ := List.getElem?_of_mem hmem
      have hkl : k < m'.length := Nat.lt_of_lt_of_le (lt_of_get hk) hb2
      rw [hb3 k r m'[k] hk (by simp)] at hb'
      cases hd' : m'[k].dirty with
      | true =>
        rw [hd'] at hb'
        simp only [if_true, Option.some.injEq] at hb'
        rw [← hb', hd'] at hd; cases hd
      | false => rw [hd'] at hb'; simpa using hb'
    · rwa [hb4 r hmem] at hb'
theorem callA_foot {g : FuncId} {args : List AV} (h : callA C g args M = some (v, M', ft)) (hp : ∀ M2, psem C p vs M2 = callA C g args M2) : FootOK C p vs M v M' ft := by
  unfold callA at h
  split at h
  · rename_i hr
    split at h
    · rename_i v0 hc
      split at h
      · rename_i hv0
        refine foot_quiet h fun M2 => ?_
        rw [hp]
        unfold callA
        simp only [hr, hc, hv0]
      · cases h
    · exact callOn_foot h
  · exact callOn_foot h
theorem append_foot {s b : Nat} {d x : AV} (h : appendA s b M d x = some (v, M', ft)) : FootOK C (.append s b) [d, x] M v M' ft := by
  have h0 := h
  unfold appendA at h
  split at h
  · cases h
  rename_i n hn
  split at h
  · cases h
  rename_i cc rs hsrc
  have made_foot : ∀ {v0 : AV}, made v0 M = some (v, M', ft) → FootOK C (.append s b) [d, x] M v M' ft := fun h => by
    simp only [made] at h
    rw [← List.append_nil M] at h
    have := foot_app (C := C) (p := .append s b) (vs := [d, x]) (M := M) (l := []) (rd := []) (v0 := _) (v := v) (M' := M') (ft := ft) (by simpa using h)
    exact this
  have inpl : ∀ {i off base len : Nat} {lim : Option Nat}, inplA s n i off base len lim M cc = some (v, M', ft) → FootOK C (.append s b) [d, x] M v M' ft := by
    intro i off base len lim h
    unfold inplA at h
    cases hn0 : Nat.beq n 0 with
    | true => rw [hn0, cond_true] at h; exact made_foot h
    | false =>
      rw [hn0, cond_false] at h
      split at h
      · have h := (bif_some h).2
        split at h
        · rw [← List.append_nil (List.set M _ _)] at h
          exact foot_set rfl h
        · cases h
      · cases h
  have bif2 : ∀ {b : Bool} {x y : Option (AV × Mem × Foot)}, (bif b then x else y) = some (v, M', ft) → x = some (v, M', ft) ∨ y = some (v, M', ft) := by
    intro b x y h
    cases b with
    | true => exact .inl h
    | false => exact .inr h
  split at h
  · cases hn0 : Nat.beq n 0 with
    | true => rw [hn0, cond_true] at h; exact made_foot h
    | false =>
      rw [hn0, cond_false] at h
      exact foot_app (bif_some h).2
  · rename_i i off base len e' lim
    have h0 := (bif_some h).1
    simp only [Bool.and_eq_true] at h0
    obtain rfl := Nat.eq_of_beq_eq_true h0.1
    have h := (bif_some h).2
    split at h
    · split at h
      · rcases bif2 h with h | h
        · split at h
          · exact foot_set rfl h
          · cases h
        · exact inpl h
      · rcases bif2 h with h | h
        · cases hn0 : Nat.beq n 0 with
          | true => rw [hn0, cond_true] at h; exact made_foot h
          | false =>
            rw [hn0, cond_false] at h
            split at h
            · split at h
              · exact foot_app h
              · cases h
            · cases h
        · exact inpl h
      · cases h
    · rcases bif2 h with h | h
      · cases hn0 : Nat.beq n 0 with
        | true => rw [hn0, cond_true] at h; exact made_foot h
        | false =>
          rw [hn0, cond_false] at h
          split at h
          · split at h
            · exact foot_app h
            · cases h
          · cases h
      · exact inpl h
    · cases h
  · cases h
theorem copy_foot {s : Nat} {d x : AV} (h : copyA s M d x = some (v, M', ft)) : FootOK C (.copy s) [d, x] M v M' ft := by
  unfold copyA at h
  have made_foot : ∀ {v0 : AV}, made v0 M = some (v, M', ft) → FootOK C (.copy s) [d, x] M v M' ft := fun h => by
    simp only [made] at h
    rw [← List.append_nil M] at h
    have := foot_app (C := C) (p := .copy s) (vs := [d, x]) (M := M) (l := []) (rd := []) (v0 := _) (v := v) (M' := M') (ft := ft) (by simpa using h)
    exact this
  split at h
  · simp only at h
    rename_i m i off base len e' lim hn
    cases hn0 : Nat.beq (Nat.min m len) 0 with
    | true => rw [hn0, cond_true] at h; exact made_foot h
    | false =>
      rw [hn0, cond_false] at h
      have h := (bif_some h).2
      split at h
      · split at h
        · rw [← List.append_nil (List.set M _ _)] at h
          exact foot_set rfl h
        · cases h
      · cases h
  · exact made_foot h
  · cases h
theorem psem_foot (h : psem C p vs M = some (v, M', ft)) : FootOK C p vs M v M' ft := by
  have h0 := h
  cases p <;> simp only [psem] at h
  case load k =>
    split at h
    case h_2 => cases h
    split at h
    case h_2 => cases h
    rename_i b hb
    split at h
    case h_2 => cases h
    rename_i v' hv'
    simp only [Option.some.injEq, Prod.mk.injEq] at h
    obtain ⟨rfl, rfl, rfl⟩ := h
    refine ⟨Nat.le_refl _, fun _ _ _ => rfl, fun _ _ _ h _ => h, fun _ => ⟨rfl, fun r hr => ?_, fun M2 h2 => ?_⟩, fun h => by cases h⟩
    · simp only [List.mem_singleton] at hr; subst hr; exact live_lt hb
    · have h3 := live_same (h2 _ (List.mem_singleton.2 rfl))
      simp only [psem, h3, hb, hv']
  case b2s =>
    split at h
    · exact foot_quiet h fun M2 => by simp only [psem]
    · obtain ⟨hq, h⟩ := bif_some h
      split at h
      case h_2 => cases h
      rename_i b hb
      split at h
      case h_2 => cases h
      rename_i l hl
      simp only [Option.some.injEq, Prod.mk.injEq] at h
      obtain ⟨rfl, rfl, rfl⟩ := h
      refine ⟨Nat.le_refl _, fun _ _ _ => rfl, fun _ _ _ h _ => h, fun _ => ⟨rfl, fun r hr => ?_, fun M2 h2 => ?_⟩, fun h => by cases h⟩
      · simp only [List.mem_singleton] at hr; subst hr; exact live_lt hb
      · have h3 := live_same (h2 _ (List.mem_singleton.2 rfl))
        simp only [psem, h3, hb, hl, hq, cond_true]
    · cases h
  case store n =>
    split at h
    case h_2 => cases h
    split at h
    case h_2 => cases h
    obtain ⟨hq, h⟩ := bif_some h
    split at h
    case h_2 => cases h
    rw [← List.append_nil (List.set M _ _)] at h
    exact foot_set rfl h
  case alloc z =>
    split at h
    case h_2 => cases h
    split at h
    case h_2 => cases h
    rename_i c hc
    exact foot_new (g := fun L => .ptr L 0) (.inl rfl) h fun M2 => by simp only [psem, hc]
  case box =>
    split at h
    case h_2 => cases h
    split at h
    case h_2 => cases h
    rename_i c hc
    exact foot_new (g := fun L => .ptr L 0) (.inl rfl) h fun M2 => by simp only [psem, hc]
  case buildSl z esz len ps =>
    split at h
    case h_2 => cases h
    rename_i c hc
    exact foot_new (g := fun L => .sl L 0 0 len esz none) (.inr ⟨_, _, rfl⟩) h fun M2 => by simp only [psem, hc]
  case s2b =>
    split at h
    case h_2 => cases h
    rename_i s0
    exact foot_new (g := fun L => .sl L 0 0 s0.length 1 none) (.inr ⟨_, _, rfl⟩) h fun M2 => by simp only [psem]
  case mksl z esz bytes =>
    split at h
    case h_2 => cases h
    split at h
    case h_2 => cases h
    obtain ⟨hq, h⟩ := bif_some h
    split at h
    case h_2 => cases h
    rename_i l0 c0 _ _ cs hcs
    exact foot_new (g := fun L => .sl L 0 0 l0 esz none) (.inr ⟨_, _, rfl⟩) h fun M2 => by simp only [psem, hq, cond_true, hcs]
  case mknz =>
    split at h
    case h_2 => cases h
    split at h
    case h_2 => cases h
    rename_i n hn
    exact foot_new (g := fun L => .sl L 0 0 n 1 none) (c := .flat (List.replicate n .junk)) (k := .grow) (.inr ⟨_, _, rfl⟩) h fun M2 => by simp only [psem, hn]; rfl
  case slS3 esz =>
    split at h
    case h_2 => cases h
    obtain ⟨hq, h⟩ := bif_some h
    split at h
    case h_2 => cases h
    rename_i m hm
    split at h
    case h_2 => cases h
    rename_i h' hh
    exact foot_quiet h fun M2 => by simp only [psem, hq, cond_true, hm, hh]
  case callf g => exact callA_foot h fun M2 => rfl
  case callv =>
    split at h
    case h_2 => cases h
    exact callA_foot h fun M2 => rfl
  case append s b =>
    split at h
    case h_2 => cases h
    exact append_foot h
  case copy s =>
    split at h
    case h_2 => cases h
    exact copy_foot h
  case field off k =>
    split at h
    case h_2 => cases h
    obtain ⟨hq, h⟩ := bif_some h
    split at h
    case h_2 => cases h
    rename_i hp
    exact foot_quiet h fun M2 => by simp only [psem, hq, cond_true, hp]
  case idxS esz =>
    split at h
    case h_2 => cases h
    obtain ⟨hq, h⟩ := bif_some h
    split at h
    case h_2 => cases h
    rename_i hp
    exact foot_quiet h fun M2 => by simp only [psem, hq, cond_true, hp]
  case idxV len esz k =>
    split at h
    case h_2 => cases h
    obtain ⟨hq, h⟩ := bif_some h
    split at h
    case h_2 => cases h
    rename_i hp
    split at h
    case h_2 => cases h
    rename_i hp2
    exact foot_quiet h fun M2 => by simp only [psem, hq, cond_true, hp, hp2]
  case s2ap n =>
    split at h
    case h_2 => cases h
    obtain ⟨hq, h⟩ := bif_some h
    exact foot_quiet h fun M2 => by simp only [psem, hq, cond_true]
  case slS esz lo hi =>
    split at h
    case h_3 => cases h
    · obtain ⟨hq, h⟩ := bif_some h
      split at h
      case h_2 => cases h
      rename_i hp
      exact foot_quiet h fun M2 => by simp only [psem, hq, cond_true, hp]
    · split at h
      case h_2 => cases h
      rename_i hp
      exact foot_quiet h fun M2 => by simp only [psem, hp]
  case add64 =>
    split at h
    case h_2 => cases h
    obtain ⟨hq, h⟩ := bif_some h
    exact foot_quiet h fun M2 => by simp only [psem, hq, cond_true]
  case sub64 =>
    split at h
    case h_2 => cases h
    obtain ⟨hq, h⟩ := bif_some h
    exact foot_quiet h fun M2 => by simp only [psem, hq, cond_true]
  case mark =>
    split at h
    case h_2 => cases h
    split at h
    case h_2 => cases h
    obtain ⟨hq, h⟩ := bif_some h
    rw [← List.append_nil (List.set M _ _)] at h
    exact foot_set rfl h
  case f2i k =>
    split at h
    case h_2 => cases h
    split at h
    case h_2 => cases h
    rename_i n hn
    split at h
    case isFalse => cases h
    rename_i hk
    exact foot_quiet h fun M2 => by simp only [psem, hn, if_pos hk]
  case len b =>
    cases b <;> simp only [psem] at h <;> (repeat' split at h) <;> first
      | (cases h; done)
      | exact foot_quiet h fun M2 => by simp only [psem]
  all_goals
    repeat' split at h
    all_goals first
      | (cases h; done)
      | (refine foot_quiet h fun M2 => ?_; simp only [psem]; done)
      | (refine foot_quiet h fun M2 => ?_; simp only [psem, *]; done)
end
end Go.Proofs.Ytnfglcfjjemjmaa
