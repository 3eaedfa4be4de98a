/- A call that is known on the blocks that its arguments reach is known in any memory that holds them. No condition. -/
import Derived.Test.YtnfglcfjjemjmaaAm10
namespace Go.Proofs.Ytnfglcfjjemjmaa
open Go Go.RowKit

/-! ### New numbers -/
mutual
theorem AV.ren_back {s t : Nat → Option Nat} (h : ∀ i j, s i = some j → t j = some i) : ∀ (v v' : AV), v.ren s = some v' → v'.ren t = some v
  | .junk, v', hv => by simp only [AV.ren, Option.some.injEq] at hv; subst hv; rfl
  | .bool b, v', hv => by simp only [AV.ren, Option.some.injEq] at hv; subst hv; rfl
  | .int k n, v', hv => by simp only [AV.ren, Option.some.injEq] at hv; subst hv; rfl
  | .str x, v', hv => by simp only [AV.ren, Option.some.injEq] at hv; subst hv; rfl
  | .nilp, v', hv => by simp only [AV.ren, Option.some.injEq] at hv; subst hv; rfl
  | .nilsl, v', hv => by simp only [AV.ren, Option.some.injEq] at hv; subst hv; rfl
  | .nilfn, v', hv => by simp only [AV.ren, Option.some.injEq] at hv; subst hv; rfl
  | .nilif, v', hv => by simp only [AV.ren, Option.some.injEq] at hv; subst hv; rfl
  | .flt b, v', hv => by simp only [AV.ren, Option.some.injEq] at hv; subst hv; rfl
  | .nums k l, v', hv => by simp only [AV.ren, Option.some.injEq] at hv; subst hv; rfl
  | .flat l, v', hv => by simp only [AV.ren, Option.some.injEq] at hv; subst hv; rfl
  | .ptr i off, v', hv => by
    simp only [AV.ren] at hv
    split at hv
    · rename_i j hj
      simp only [Option.some.injEq] at hv; subst hv
      simp only [AV.ren, h i j hj]
    · cases hv
  | .sl i off base len esz lim, v', hv => by
    simp only [AV.ren] at hv
    split at hv
    · rename_i j hj
      simp only [Option.some.injEq] at hv; subst hv
      simp only [AV.ren, h i j hj]
    · cases hv
  | .fn g a c, v', hv => by
    simp only [AV.ren] at hv
    split at hv
    · rename_i a' c' ha hc
      simp only [Option.some.injEq] at hv; subst hv
      simp only [AV.ren, renL_back h a a' ha, renL_back h c c' hc]
    · cases hv
  | .agg l, v', hv => by
    simp only [AV.ren] at hv
    split at hv
    · rename_i l' hl
      simp only [Option.some.injEq] at hv; subst hv
      simp only [AV.ren, renL_back h l l' hl]
    · cases hv
  | .tup l, v', hv => by
    simp only [AV.ren] at hv
    split at hv
    · rename_i l' hl
      simp only [Option.some.injEq] at hv; subst hv
      simp only [AV.ren, renL_back h l l' hl]
    · cases hv
  | .at o c, v', hv => by
    simp only [AV.ren] at hv
    split at hv
    · rename_i c' hc
      simp only [Option.some.injEq] at hv; subst hv
      simp only [AV.ren, AV.ren_back h c c' hc]
    · cases hv
theorem renL_back {s t : Nat → Option Nat} (h : ∀ i j, s i = some j → t j = some i) : ∀ (l l' : List AV), renL s l = some l' → renL t l' = some l
  | [], l', hv => by simp only [renL, Option.some.injEq] at hv; subst hv; rfl
  | v :: l, l', hv => by
    simp only [renL] at hv
    split at hv
    · rename_i v' r' h1 h2
      simp only [Option.some.injEq] at hv; subst hv
      simp only [renL, AV.ren_back h v v' h1, renL_back h l r' h2]
    · cases hv
end
theorem renL_length {s : Nat → Option Nat} : ∀ {l l' : List AV}, renL s l = some l' → l'.length = l.length
  | [], l', h => by simp only [renL, Option.some.injEq] at h; subst h; rfl
  | v :: l, l', h => by
    simp only [renL] at h
    split at h
    · rename_i v' r' h1 h2
      simp only [Option.some.injEq] at h; subst h
      simp [renL_length h2]
    · cases h
theorem renL_app {s : Nat → Option Nat} : ∀ {a b a' b' : List AV}, renL s a = some a' → renL s b = some b' → renL s (a ++ b) = some (a' ++ b')
  | [], b, a', b', h1, h2 => by simp only [renL, Option.some.injEq] at h1; subst h1; simpa using h2
  | v :: a, b, a', b', h1, h2 => by
    simp only [renL] at h1
    split at h1
    · rename_i v' r' e1 e2
      simp only [Option.some.injEq] at h1; subst h1
      simp only [List.cons_append, renL, e1, renL_app e2 h2]
    · cases h1
theorem renL_junk {s : Nat → Option Nat} : ∀ n, renL s (List.replicate n .junk) = some (List.replicate n .junk)
  | 0 => rfl
  | n + 1 => by simp only [List.replicate_succ, renL, AV.ren, renL_junk n]
theorem ren_cells {s : Nat → Option Nat} {c c' : AV} (h : c.ren s = some c') : c'.mem3 = c.mem3 ∧ c'.csize = c.csize ∧ renL s c.cells = some c'.cells := by
  induction c using AV.cellInd generalizing c' with
  | agg l =>
    simp only [AV.ren] at h
    split at h
    · rename_i l' hl
      simp only [Option.some.injEq] at h; subst h
      exact ⟨rfl, by simp [AV.csize, renL_length hl], by simpa [AV.cells] using hl⟩
    · cases h
  | nums k l =>
    simp only [AV.ren, Option.some.injEq] at h; subst h
    refine ⟨rfl, rfl, ?_⟩
    simp only [AV.cells]
    induction l with
    | nil => rfl
    | cons n l ih => simp only [List.map_cons, renL, AV.ren, ih]
  | flat l =>
    simp only [AV.ren, Option.some.injEq] at h; subst h
    refine ⟨rfl, rfl, ?_⟩
    simp only [AV.cells]
    induction l with
    | nil => rfl
    | cons n l ih =>
      have : (SV.av n).ren s = some n.av := by cases n <;> rfl
      simp only [List.map_cons, renL, this, ih]
  | «at» o c ih =>
    simp only [AV.ren] at h
    split at h
    · rename_i d hd
      simp only [Option.some.injEq] at h; subst h
      obtain ⟨_, h2, h3⟩ := ih hd
      exact ⟨rfl, by simp only [AV.csize, h2], by simp only [AV.cells]; exact renL_app (renL_junk o) h3⟩
    · cases h
  | other c hc =>
    have h0 := h
    cases c with
    | agg l => cases hc
    | nums k l => cases hc
    | flat l => cases hc
    | «at» o c => cases hc
    | ptr i o =>
      simp only [AV.ren] at h
      split at h
      · simp only [Option.some.injEq] at h; subst h; exact ⟨rfl, rfl, by simp only [AV.cells, renL, h0]⟩
      · cases h
    | sl i off base n e lim =>
      simp only [AV.ren] at h
      split at h
      · simp only [Option.some.injEq] at h; subst h; exact ⟨rfl, rfl, by simp only [AV.cells, renL, h0]⟩
      · cases h
    | fn g a b =>
      simp only [AV.ren] at h
      split at h
      · simp only [Option.some.injEq] at h; subst h; exact ⟨rfl, rfl, by simp only [AV.cells, renL, h0]⟩
      · cases h
    | tup l =>
      simp only [AV.ren] at h
      split at h
      · simp only [Option.some.injEq] at h; subst h; exact ⟨rfl, rfl, by simp only [AV.cells, renL, h0]⟩
      · cases h
    | _ => simp only [AV.ren, Option.some.injEq] at h; subst h; exact ⟨rfl, rfl, rfl⟩
theorem ren_agg {s : Nat → Option Nat} {c c' : AV} (h : c.ren s = some c') (ha : c.mem3 = true) : c'.mem3 = true ∧ c'.csize = c.csize ∧ renL s c.cells = some c'.cells := by
  obtain ⟨h1, h2⟩ := ren_cells h
  exact ⟨h1.trans ha, h2⟩
theorem renM_get {s : Nat → Option Nat} : ∀ {l l' : List Blk} (i : Nat) {b : Blk}, renM s l = some l' → l[i]? = some b → ∃ b', l'[i]? = some b' ∧ b.ren s = some b'
  | [], l', i, b, h, hi => by simp at hi
  | a :: l, l', i, b, h, hi => by
    simp only [renM] at h
    split at h
    · rename_i a' r' h1 h2
      simp only [Option.some.injEq] at h; subst h
      cases i with
      | zero => simp only [List.getElem?_cons_zero, Option.some.injEq] at hi; subst hi; exact ⟨a', by simp, h1⟩
      | succ i => obtain ⟨b', h3, h4⟩ := renM_get i h2 (by simpa using hi); exact ⟨b', by simpa using h3, h4⟩
    · cases h
theorem renM_length {s : Nat → Option Nat} : ∀ {l l' : List Blk}, renM s l = some l' → l'.length = l.length
  | [], l', h => by simp only [renM, Option.some.injEq] at h; subst h; rfl
  | a :: l, l', h => by
    simp only [renM] at h
    split at h
    · rename_i a' r' h1 h2
      simp only [Option.some.injEq] at h; subst h
      simp [renM_length h2]
    · cases h
theorem renM_get' {s : Nat → Option Nat} {l l' : List Blk} (h : renM s l = some l') (i : Nat) {b' : Blk} (hi : l'[i]? = some b') : ∃ b, l[i]? = some b ∧ b.ren s = some b' := by
  have hl := renM_length h
  have : i < l.length := by rw [← hl]; exact lt_of_get hi
  obtain ⟨b'', h1, h2⟩ := renM_get i h (b := l[i]) (by simp)
  rw [hi] at h1
  obtain rfl := Option.some.inj h1
  exact ⟨l[i], by simp, h2⟩
theorem blk_ren_kind {s : Nat → Option Nat} {b b' : Blk} (h : b.ren s = some b') : b'.kind = b.kind ∧ b'.dirty = b.dirty := by
  unfold Blk.ren at h
  split at h
  · rename_i hk
    simp only [Option.some.injEq] at h; subst h
    exact ⟨hk.symm, rfl⟩
  · split at h
    · simp only [Option.some.injEq] at h; subst h; exact ⟨rfl, rfl⟩
    · cases h
theorem BRel.ren {f g : FM} {s : Nat → Option Nat} (hs : RenOK f g s) {w : World} {b b' : Blk} {x : Nat × Nat} (h : b.ren s = some b') (hb : BRel f w b x) : BRel g w b' x := by
  obtain ⟨hk, hd⟩ := blk_ren_kind h
  rcases hb with hb | ⟨A, t, fz, h1, h2, h3, h4, h5, h6, h7⟩
  · exact .inl (hk.trans hb)
  · by_cases hdd : b.kind = .dead
    · exact .inl (hk.trans hdd)
    · unfold Blk.ren at h
      split at h
      · rename_i hk'; exact absurd hk' hdd
      · split at h
        · rename_i c hc
          simp only [Option.some.injEq] at h; subst h
          obtain ⟨g1, g2, g3⟩ := ren_agg hc h3
          exact .inr ⟨A, t, fz, h1, h2, g1, by simpa only [g2] using h4, by simpa only [g2] using h5, by simpa only [g2] using VRels.ren hs _ _ _ g3 h6, h7⟩
        · cases h
theorem blk_ren_back {s t : Nat → Option Nat} (h : ∀ i j, s i = some j → t j = some i) {b b' : Blk} (hb : b.ren s = some b') (hd : b.kind ≠ .dead) : b'.ren t = some b := by
  unfold Blk.ren at hb
  split at hb
  · rename_i hk; exact absurd hk hd
  · split at hb
    · rename_i c hc
      simp only [Option.some.injEq] at hb; subst hb
      have := AV.ren_back h _ _ hc
      unfold Blk.ren
      split
      · rename_i hk'; exact absurd hk' hd
      · simp only [this]
    · cases hb
theorem memN_iff {i : Nat} : ∀ {l : List Nat}, memN i l = true ↔ i ∈ l
  | [] => by simp [memN]
  | j :: l => by simp [memN, memN_iff (l := l)]
theorem nodupN_get : ∀ {l : List Nat}, nodupN l = true → ∀ (i j : Nat) a, l[i]? = some a → l[j]? = some a → i = j
  | [], _, i, j, a, hi, _ => by simp at hi
  | x :: l, h, i, j, a, hi, hj => by
    simp only [nodupN, Bool.and_eq_true, Bool.not_eq_true', ← Bool.not_eq_true, memN_iff] at h
    cases i with
    | zero =>
      simp only [List.getElem?_cons_zero, Option.some.injEq] at hi
      subst hi
      cases j with
      | zero => rfl
      | succ j => exact absurd (List.mem_of_getElem? (by simpa using hj)) h.1
    | succ i =>
      cases j with
      | zero =>
        simp only [List.getElem?_cons_zero, Option.some.injEq] at hj
        subst hj
        exact absurd (List.mem_of_getElem? (by simpa using hi)) h.1
      | succ j => exact congrArg _ (nodupN_get h.2 i j a (by simpa using hi) (by simpa using hj))
theorem placeOf_get : ∀ {l : List Nat} {i k : Nat}, placeOf i l = some k → l[k]? = some i
  | [], i, k, h => by simp [placeOf] at h
  | j :: l, i, k, h => by
    simp only [placeOf] at h
    cases hq : Nat.beq i j with
    | true =>
      simp only [hq, cond_true, Option.some.injEq] at h
      subst h
      simp [beq_true hq]
    | false =>
      simp only [hq, cond_false] at h
      split at h
      · rename_i k' hk'
        simp only [Option.some.injEq] at h; subst h
        simpa using placeOf_get hk'
      · cases h
theorem placeOf_some : ∀ {l : List Nat} {i : Nat}, i ∈ l → ∃ k, placeOf i l = some k
  | [], i, h => by cases h
  | j :: l, i, h => by
    simp only [placeOf]
    cases hq : Nat.beq i j with
    | true => exact ⟨0, rfl⟩
    | false =>
      simp only [cond_false]
      cases h with
      | head => simp at hq
      | tail _ h =>
        obtain ⟨k, hk⟩ := placeOf_some h
        rw [hk]; exact ⟨k + 1, rfl⟩
theorem pickM_get {M : Mem} : ∀ {is : List Nat} {l : List Blk}, pickM M is = some l → is.length = l.length ∧ ∀ (k i : Nat), is[k]? = some i → M[i]? = l[k]? ∧ ∃ b, l[k]? = some b
  | [], l, h => by simp only [pickM, Option.some.injEq] at h; subst h; exact ⟨rfl, by simp⟩
  | i :: is, l, h => by
    simp only [pickM] at h
    split at h
    · rename_i b r hb hr
      simp only [Option.some.injEq] at h; subst h
      have ih := pickM_get hr
      refine ⟨by simp [ih.1], fun k i' hk => ?_⟩
      cases k with
      | zero => simp only [List.getElem?_cons_zero, Option.some.injEq] at hk; subst hk; exact ⟨by simpa using hb, b, by simp⟩
      | succ k => simpa using ih.2 k i' (by simpa using hk)
    · cases h
theorem cleanM_get : ∀ {l : List Blk} (k : Nat), (cleanM l)[k]? = (l[k]?).map fun b => { b with dirty := false }
  | [], k => by simp [cleanM]
  | b :: l, 0 => by simp [cleanM]
  | b :: l, k + 1 => by simp [cleanM, cleanM_get (l := l) k]
theorem cleanM_length (l : List Blk) : (cleanM l).length = l.length := by induction l <;> simp_all [cleanM]
/-- The memory behind a call: each block that was written is as the callee left it; the others are as they were. -/
theorem backM_get : ∀ {is : List Nat} {m M M' : List Blk}, backM M is m = some M' → nodupN is = true → (∀ (k i : Nat), is[k]? = some i → i < M.length) → M'.length = M.length ∧ is.length ≤ m.length ∧
    (∀ (k i : Nat) b, is[k]? = some i → m[k]? = some b → M'[i]? = if b.dirty then some b else M[i]?) ∧ (∀ i, i ∉ is → M'[i]? = M[i]?)
  | [], m, M, M', h, _, _ => by simp only [backM, Option.some.injEq] at h; subst h; exact ⟨rfl, Nat.zero_le _, by simp, by simp⟩
  | i :: is, [], M, M', h, _, _ => by simp [backM] at h
  | i :: is, b :: m, M, M', h, hn, hl => by
    simp only [nodupN, Bool.and_eq_true, Bool.not_eq_true', ← Bool.not_eq_true, memN_iff] at hn
    simp only [backM] at h
    have hi : i < M.length := hl 0 i (by simp)
    cases hd : b.dirty with
    | true =>
      simp only [hd, cond_true] at h
      obtain ⟨h1, h2, h3, h4⟩ := backM_get h hn.2 (fun k j hk => by simpa using hl (k + 1) j (by simpa using hk))
      refine ⟨by simpa using h1, by simpa using h2, fun k j c hk hc => ?_, fun j hj => ?_⟩
      · cases k with
        | zero =>
          simp only [List.getElem?_cons_zero, Option.some.injEq] at hk hc
          subst hk; subst hc
          rw [h4 i hn.1, hd]; simp [hi]
        | succ k =>
          have hk' : is[k]? = some j := by simpa using hk
          rw [h3 k j c hk' (by simpa using hc)]
          have : j ≠ i := fun e => hn.1 (e ▸ List.mem_of_getElem? hk')
          rw [List.getElem?_set_ne (Ne.symm this)]
      · simp only [List.mem_cons, not_or] at hj
        rw [h4 j hj.2, List.getElem?_set_ne (Ne.symm hj.1)]
    | false =>
      simp only [hd, cond_false] at h
      obtain ⟨h1, h2, h3, h4⟩ := backM_get h hn.2 (fun k j hk => hl (k + 1) j (by simpa using hk))
      refine ⟨h1, by simpa using h2, fun k j c hk hc => ?_, fun j hj => ?_⟩
      · cases k with
        | zero =>
          simp only [List.getElem?_cons_zero, Option.some.injEq] at hk hc
          subst hk; subst hc
          rw [h4 i hn.1, hd]; simp
        | succ k => exact h3 k j c (by simpa using hk) (by simpa using hc)
      · simp only [List.mem_cons, not_or] at hj
        exact h4 j hj.2
theorem kindsOK_get : ∀ {l m : List Blk}, kindsOK l m = true → l.length ≤ m.length ∧ (∀ (k : Nat) a b, l[k]? = some a → m[k]? = some b → a.kind = .dead → b.kind = .dead) ∧ (∀ (k : Nat) b, l.length ≤ k → m[k]? = some b → b.kind ≠ .ro)
  | [], [], _ => ⟨Nat.le_refl _, by simp, by simp⟩
  | [], b :: m, h => by
    simp only [kindsOK, Bool.and_eq_true] at h
    have ih := kindsOK_get h.2
    refine ⟨Nat.zero_le _, by simp, fun k c _ hc => ?_⟩
    cases k with
    | zero =>
      simp only [List.getElem?_cons_zero, Option.some.injEq] at hc
      subst hc
      intro hk; rw [hk] at h; simp [BK.isRo] at h
    | succ k => exact ih.2.2 k c (Nat.zero_le _) (by simpa using hc)
  | a :: l, b :: m, h => by
    simp only [kindsOK, Bool.and_eq_true] at h
    have ih := kindsOK_get h.2
    refine ⟨by simpa using ih.1, fun k c d hc hd hk => ?_, fun k c hk hc => ?_⟩
    · cases k with
      | zero =>
        simp only [List.getElem?_cons_zero, Option.some.injEq] at hc hd
        subst hc; subst hd
        rw [hk] at h
        cases hb : b.kind <;> simp [hb, BK.isDead] at h <;> rfl
      | succ k => exact ih.2.1 k c d (by simpa using hc) (by simpa using hd) hk
    · cases k with
      | zero => simp at hk
      | succ k => exact ih.2.2 k c (by simpa using hk) (by simpa using hc)
  | a :: l, [], h => by simp [kindsOK] at h
end Go.Proofs.Ytnfglcfjjemjmaa
