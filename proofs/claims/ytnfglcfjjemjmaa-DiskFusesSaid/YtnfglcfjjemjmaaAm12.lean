/- A call that is known on the blocks that its arguments reach is known in any memory that holds them: the theorem. No condition. -/
import Derived.Test.YtnfglcfjjemjmaaAm11
namespace Go.Proofs.Ytnfglcfjjemjmaa
open Go Go.RowKit

/-- What the table of functions says is what the program does. -/
def OrcOK (P : Program) (C : Orc) : Prop := ∀ (g : FuncId) (args : List AV) (M : Mem) (v : AV) (M' : Mem), C g args M = some (v, M') → (∀ b ∈ M, b.dirty = false) →
  (∃ fn, P.funcs[g]? = some fn ∧ fn.name ≠ "runtime.NumGoroutine" ∧ fn.body.isSome = true) ∧ M.length ≤ M'.length ∧ (∀ (i : Nat) (b b' : Blk), M[i]? = some b → M'[i]? = some b' → b'.dirty = false → b' = b) ∧
  ∀ (B : Nat) (f : FM) (w : World) (Vs : Array Value), MRel B f M w → B ≤ w.heap.size → VRels f args Vs.toList → Calls P g Vs w (fun e w' => ∃ f' V, e = .returned V ∧ Sub f f' ∧ MRel B f' M' w' ∧ VRel f' v V ∧ Went f M w f' M' w')

section
variable {P : Program} {C : Orc} {B : Nat} {f : FM} {M M' : Mem} {w : World}
/-- The numbers of the blocks is. -/
def pickF (f : FM) (is : List Nat) : FM := fun k => match is[k]? with
  | some i => f i
  | none => none
theorem pickF_get {is : List Nat} {k i : Nat} {x : Nat × Nat} (hk : is[k]? = some i) (hx : f i = some x) : pickF f is k = some x := by
  simp only [pickF, hk, hx]
theorem pickF_get' {is : List Nat} {k : Nat} {x : Nat × Nat} (hx : pickF f is k = some x) : ∃ i, is[k]? = some i ∧ f i = some x := by
  unfold pickF at hx
  split at hx
  · rename_i i hi; exact ⟨i, hi, hx⟩
  · cases hx
theorem ro_of {k : BK} (h : k ≠ .dead) (h2 : ¬ k.mine = true) : k = .ro := by cases k <;> simp_all [BK.mine]
theorem callOn_ok (hC : OrcOK P C) {g : FuncId} {args : List AV} {is : List Nat} {v : AV} {ft : Foot} (h : callOn C g args M is = some (v, M', ft)) (hm : MRel B f M w) (hB : B ≤ w.heap.size) {Vs : Array Value} (hv : VRels f args Vs.toList) :
    (∃ fn, P.funcs[g]? = some fn ∧ fn.name ≠ "runtime.NumGoroutine" ∧ fn.body.isSome = true) ∧
    Calls P g Vs w (fun e w' => ∃ f' V, e = .returned V ∧ Sub f f' ∧ MRel B f' M' w' ∧ VRel f' v V ∧ Went f M w f' M' w' ∧ (∀ r, r < M.length → f r = none → r ∉ ft.reads → f' r = none)) := by
  unfold callOn at h
  split at h
  case h_2 => cases h
  rename_i a' l ha' hl
  split at h
  case h_2 => cases h
  rename_i l' hl'
  split at h
  case h_2 => cases h
  rename_i v0 m hcall
  simp only at h
  split at h
  case h_2 => cases h
  rename_i v' m' hv' hm'
  split at h
  case h_2 => cases h
  rename_i M1 hback
  cases hq : (nodupN is && kindsOK l m') with
  | false => simp [hq] at h
  | true =>
  simp only [hq, cond_true, Option.some.injEq, Prod.mk.injEq] at h
  obtain ⟨rfl, rfl, rfl⟩ := h
  simp only [Bool.and_eq_true] at hq
  obtain ⟨hnd, hkinds⟩ := hq
  -- the places
  have hpick := pickM_get hl
  have hinM : ∀ (k i : Nat), is[k]? = some i → i < M.length := fun k i hk => by
    obtain ⟨h1, b, h2⟩ := hpick.2 k i hk
    rw [h2] at h1; exact lt_of_get h1
  have hs1 : RenOK f (pickF f is) (fun i => placeOf i is) := fun i k x hk hx => pickF_get (placeOf_get hk) hx
  have hl'len : l'.length = is.length := by rw [renM_length hl', cleanM_length, ← hpick.1]
  -- the callee's memory
  have getl : ∀ (k : Nat) (b' : Blk), l'[k]? = some b' → ∃ i b, is[k]? = some i ∧ M[i]? = some b ∧ l[k]? = some b ∧ ({ b with dirty := false } : Blk).ren (fun i => placeOf i is) = some b' := by
    intro k b' hk
    obtain ⟨b1, h1, h2⟩ := renM_get' hl' k hk
    rw [cleanM_get] at h1
    obtain ⟨b, h3, h4⟩ := Option.map_eq_some_iff.1 h1
    have hk' : k < is.length := by rw [hpick.1]; exact lt_of_get h3
    have hki : is[k]? = some is[k] := by simp
    obtain ⟨h5, _⟩ := hpick.2 k _ hki
    exact ⟨is[k], b, hki, by rw [h5]; exact h3, h3, by rw [h4]; exact h2⟩
  have hm1 : MRel B (pickF f is) l' w := by
    refine ⟨fun k x hx => ?_, fun k b' hk hd => ?_, ?_, ?_, ?_⟩
    · obtain ⟨i, h1, _⟩ := pickF_get' hx
      rw [hl'len]; exact lt_of_get h1
    · obtain ⟨i, b, h1, h2, _, h4⟩ := getl k b' hk
      obtain ⟨x, hx⟩ := hm.tot i b h2 (by rw [(blk_ren_kind h4).1] at hd; exact hd)
      exact ⟨x, pickF_get h1 hx⟩
    · intro k b' x hk hx
      obtain ⟨i, b, h1, h2, _, h4⟩ := getl k b' hk
      obtain ⟨i', h5, h6⟩ := pickF_get' hx
      rw [h1] at h5; obtain rfl := Option.some.inj h5
      have hb := hm.blk i b x h2 h6
      exact BRel.ren hs1 h4 (b := { b with dirty := false }) hb
    · intro k b' x hk hx hmine
      obtain ⟨i, b, h1, h2, _, h4⟩ := getl k b' hk
      obtain ⟨i', h5, h6⟩ := pickF_get' hx
      rw [h1] at h5; obtain rfl := Option.some.inj h5
      exact hm.fresh i b x h2 h6 (by rw [(blk_ren_kind h4).1] at hmine; exact hmine)
    · intro k k' b' c' x y hk hk' hx hy hne hmine hdead
      obtain ⟨i, b, h1, h2, _, h4⟩ := getl k b' hk
      obtain ⟨i1, h5, h6⟩ := pickF_get' hx
      rw [h1] at h5; obtain rfl := Option.some.inj h5
      obtain ⟨j, c, h1', h2', _, h4'⟩ := getl k' c' hk'
      obtain ⟨j1, h5', h6'⟩ := pickF_get' hy
      rw [h1'] at h5'; obtain rfl := Option.some.inj h5'
      refine hm.inj i j b c x y h2 h2' h6 h6' (fun e => hne ?_) (by rw [(blk_ren_kind h4).1] at hmine; exact hmine) (by rw [(blk_ren_kind h4').1] at hdead; exact hdead)
      subst e
      exact nodupN_get hnd k k' i h1 h1'
  have hclean : ∀ b ∈ l', b.dirty = false := by
    intro b hb
    obtain ⟨k, hk⟩ := List.getElem?_of_mem hb
    obtain ⟨i, b0, _, _, _, h4⟩ := getl k b hk
    exact (blk_ren_kind h4).2
  have hva : VRels (pickF f is) a' Vs.toList := VRels.ren hs1 _ _ _ ha' hv
  obtain ⟨hfn, hmlen, hkeep, hcalls⟩ := hC g a' l' v0 m hcall hclean
  refine ⟨hfn, (hcalls B (pickF f is) w Vs hm1 hB hva).mono ?_⟩
  rintro e w' ⟨f1, V, rfl, hsub1, hm2, hvV, hwent⟩
  -- back
  have hm'len := renM_length hm'
  obtain ⟨hb1, hb2, hb3, hb4⟩ := backM_get hback hnd hinM
  have hk1 := kindsOK_get hkinds
  let s2 : Nat → Option Nat := fun k => bif Nat.blt k is.length then is[k]? else some (M.length + (k - is.length))
  let f2 : FM := fun i => match f i with
    | some x => some x
    | none => if i < M.length then (match placeOf i is with | some k => f1 k | none => none) else f1 (is.length + (i - M.length))
  have hpre : Sub f f2 := fun i x hx => by simp only [f2, hx]
  have f2_ge : ∀ {i : Nat}, M.length ≤ i → f2 i = f1 (is.length + (i - M.length)) := fun {i} h => by
    have : f i = none := by
      cases hx : f i with
      | none => rfl
      | some x => have := hm.dom i x hx; omega
    simp only [f2, this]
    rw [if_neg (Nat.not_lt.2 h)]
  have hold : ∀ r, r < M.length → f r = none → r ∉ is → f2 r = none := by
    intro r hr hfr hri
    simp only [f2, hfr]
    rw [if_pos hr]
    cases hp : placeOf r is with
    | none => rfl
    | some k => exact absurd (List.mem_of_getElem? (placeOf_get hp)) hri
  -- the blocks that the callee had stand where they stood
  have f2_is : ∀ {k i : Nat} {x : Nat × Nat}, is[k]? = some i → (f2 i = some x ↔ f1 k = some x) := by
    intro k i x hk
    cases hfi : f i with
    | some y =>
      have h1 := hsub1 k y (pickF_get hk hfi)
      rw [h1]
      simp only [f2, hfi]
    | none =>
      have hp : placeOf i is = some k := by
        obtain ⟨k', hk'⟩ := placeOf_some (List.mem_of_getElem? hk)
        have := placeOf_get hk'
        rw [nodupN_get hnd k k' i hk this]; exact hk'
      simp only [f2, hfi, hp]
      rw [if_pos (hinM k i hk)]
  have hs2 : RenOK f1 f2 s2 := by
    intro k j x hk hx
    simp only [s2] at hk
    cases hq : Nat.blt k is.length with
    | true =>
      simp only [hq, cond_true] at hk
      exact (f2_is hk).2 hx
    | false =>
      simp only [hq, cond_false, Option.some.injEq] at hk
      have hge : is.length ≤ k := by
        rcases Nat.lt_or_ge k is.length with h | h
        · have : Nat.blt k is.length = true := by simpa using h
          rw [hq] at this; cases this
        · exact h
      subst hk
      rw [f2_ge (by omega), show is.length + (M.length + (k - is.length) - M.length) = k by omega]
      exact hx
  have hvV' : VRel f2 v' V := VRel.ren hs2 _ _ _ hv' hvV
  -- the new memory, block by block
  let M2 : Mem := M1 ++ m'.drop is.length
  have getM2 : ∀ (i : Nat) (b : Blk) (x : Nat × Nat), M2[i]? = some b → f2 i = some x → b.kind ≠ .dead →
      (∃ (k : Nat) (c : Blk), m[k]? = some c ∧ c.ren s2 = some b ∧ f1 k = some x ∧ ((is[k]? = some i ∧ b.dirty = true) ∨ (is.length ≤ k ∧ i = M.length + (k - is.length)))) ∨ (M[i]? = some b ∧ f i = some x ∧ (∀ (k : Nat), is[k]? = some i → ∃ c b', m[k]? = some c ∧ c.ren s2 = some b' ∧ b'.dirty = false)) := by
    intro i b x hi hx hdd
    by_cases hilt : i < M.length
    · have hi1 : M1[i]? = some b := by rwa [List.getElem?_append_left (by rw [hb1]; exact hilt)] at hi
      have old : M[i]? = some b → f i = some x := fun hb => by
        obtain ⟨y, hy⟩ := hm.tot i b hb hdd
        have := hpre i y hy
        rw [hx] at this
        obtain rfl := Option.some.inj this
        exact hy
      by_cases hmem : i ∈ is
      · obtain ⟨k, hk⟩ := List.getElem?_of_mem hmem
        have hkl : k < m'.length := Nat.lt_of_lt_of_le (lt_of_get hk) hb2
        have hkm : m'[k]? = some m'[k] := by simp
        have := hb3 k i _ hk hkm
        rw [hi1] at this
        obtain ⟨c, hc1, hc2⟩ := renM_get' hm' k hkm
        cases hd : m'[k].dirty with
        | true =>
          rw [hd] at this
          simp only [if_true] at this
          obtain rfl := Option.some.inj this
          exact .inl ⟨k, c, hc1, hc2, (f2_is hk).1 hx, .inl ⟨hk, hd⟩⟩
        | false =>
          rw [hd] at this
          simp only [Bool.false_eq_true, if_false] at this
          refine .inr ⟨this.symm, old this.symm, fun k' hk' => ?_⟩
          obtain rfl := nodupN_get hnd k k' i hk hk'
          exact ⟨c, _, hc1, hc2, hd⟩
      · have hb : M[i]? = some b := by rw [← hb4 i hmem]; exact hi1
        exact .inr ⟨hb, old hb, fun k hk => absurd (List.mem_of_getElem? hk) hmem⟩
    · have hi1 : m'[is.length + (i - M.length)]? = some b := by
        rw [List.getElem?_append_right (by rw [hb1]; omega), hb1, List.getElem?_drop] at hi
        exact hi
      obtain ⟨c, hc1, hc2⟩ := renM_get' hm' _ hi1
      refine .inl ⟨is.length + (i - M.length), c, hc1, hc2, ?_, .inr ⟨by omega, by omega⟩⟩
      rw [f2_ge (by omega)] at hx
      exact hx
  -- who may be written in the callee's memory may be written here
  have own1 : ∀ b, Owns (pickF f is) l' b → ∃ (k i : Nat) (c : Blk) (x : Nat × Nat), is[k]? = some i ∧ M[i]? = some c ∧ c.kind.mine = true ∧ f i = some x ∧ x.1 = b := by
    rintro b ⟨k, c', x, hk, hmine, hx, rfl⟩
    obtain ⟨i, c, h1, h2, _, h4⟩ := getl k c' hk
    obtain ⟨i', h5, h6⟩ := pickF_get' hx
    rw [h1] at h5; obtain rfl := Option.some.inj h5
    exact ⟨k, i, c, x, h1, h2, by rw [(blk_ren_kind h4).1] at hmine; exact hmine, h6, rfl⟩
  have own2 : ∀ (k : Nat) (c : Blk) (x : Nat × Nat), m[k]? = some c → c.kind.mine = true → f1 k = some x → (∃ (k' i : Nat) (c' : Blk) (y : Nat × Nat), is[k']? = some i ∧ M[i]? = some c' ∧ c'.kind.mine = true ∧ f i = some y ∧ y.1 = x.1) ∨ w.heap.size ≤ x.1 := by
    intro k c x hk hmine hx
    rcases hwent.own x.1 ⟨k, c, x, hk, hmine, hx, rfl⟩ with h | h
    · exact .inl (own1 _ h)
    · exact .inr h
  -- a block that is as it was
  have same : ∀ (i : Nat) (b : Blk) (x : Nat × Nat), M[i]? = some b → f i = some x → b.kind ≠ .dead → i ∉ is → w'.heap[x.1]? = w.heap[x.1]? := by
    intro i b x hi hx hd hmem
    refine hwent.other x.1 ((hm.blk i b x hi hx).lt hd) fun ho => ?_
    obtain ⟨k, j, c, y, h1, h2, h3, h4, h5⟩ := own1 _ ho
    exact hm.inj j i c b y x h2 hi h4 hx (fun e => hmem (e ▸ List.mem_of_getElem? h1)) h3 hd h5
  -- each block is one of the callee's, or one that it did not know
  have cls : ∀ (i : Nat) (b : Blk) (x : Nat × Nat), M2[i]? = some b → f2 i = some x → b.kind ≠ .dead →
      (∃ (k : Nat) (c : Blk), m[k]? = some c ∧ c.kind = b.kind ∧ f1 k = some x ∧ (is[k]? = some i ∨ (is.length ≤ k ∧ i = M.length + (k - is.length)))) ∨ (M[i]? = some b ∧ f i = some x ∧ i ∉ is) := by
    intro i b x hi hx hdd
    rcases getM2 i b x hi hx hdd with ⟨k, c, h1, h2, h3, h4⟩ | ⟨h1, h2, h3⟩
    · exact .inl ⟨k, c, h1, (blk_ren_kind h2).1.symm, h3, h4.imp (fun h => h.1) id⟩
    · by_cases hmem : i ∈ is
      · obtain ⟨k, hk⟩ := List.getElem?_of_mem hmem
        obtain ⟨c, b', hc1, hc2, hc3⟩ := h3 k hk
        have hkl : k < l'.length := by rw [hl'len]; exact lt_of_get hk
        have hlk : l'[k]? = some l'[k] := by simp
        obtain ⟨i', b0, g1, g2, _, g4⟩ := getl k _ hlk
        rw [hk] at g1; obtain rfl := Option.some.inj g1
        rw [h1] at g2; obtain rfl := Option.some.inj g2
        have hck : c = l'[k] := hkeep k _ _ hlk hc1 (by rw [← (blk_ren_kind hc2).2]; exact hc3)
        exact .inl ⟨k, c, hc1, by rw [hck]; exact (blk_ren_kind g4).1, hsub1 k x (pickF_get hk h2), .inl hk⟩
      · exact .inr ⟨h1, h2, hmem⟩
  -- a block of the callee's that may be written is none of the others
  have far : ∀ (k j : Nat) (c d : Blk) (x y : Nat × Nat), m[k]? = some c → c.kind.mine = true → f1 k = some x → M[j]? = some d → f j = some y → d.kind ≠ .dead → j ∉ is → x.1 ≠ y.1 := by
    intro k j c d x y h1 h2 h3 h4 h5 h6 h7
    rcases own2 k c x h1 h2 h3 with ⟨k', i2, c', y2, g1, g2, g3, g4, g5⟩ | hge
    · rw [← g5]
      exact hm.inj i2 j c' d y2 y g2 h4 g4 h5 (fun e => h7 (e ▸ List.mem_of_getElem? g1)) g3 h6
    · have := (hm.blk j d y h4 h5).lt h6
      omega
  refine ⟨f2, V, rfl, hpre, ⟨?_, ?_, ?_, ?_, ?_⟩, hvV', ⟨hwent.os, hwent.tape, hwent.output, hwent.size, ?_, ?_⟩, hold⟩
  · intro i x hx
    show i < (M1 ++ m'.drop is.length).length
    simp only [List.length_append, hb1, List.length_drop, hm'len]
    by_cases hi : i < M.length
    · omega
    · rw [f2_ge (by omega)] at hx
      have := hm2.dom _ x hx
      omega
  · intro i b hi hd
    by_cases hilt : i < M.length
    · have hi1 : M1[i]? = some b := by rwa [List.getElem?_append_left (by rw [hb1]; exact hilt)] at hi
      by_cases hmem : i ∈ is
      · obtain ⟨k, hk⟩ := List.getElem?_of_mem hmem
        have hkl : k < m'.length := Nat.lt_of_lt_of_le (lt_of_get hk) hb2
        have hkm : m'[k]? = some m'[k] := by simp
        have h3 := hb3 k i _ hk hkm
        rw [hi1] at h3
        obtain ⟨c, hc1, hc2⟩ := renM_get' hm' k hkm
        cases hd' : m'[k].dirty with
        | true =>
          rw [hd'] at h3
          simp only [if_true] at h3
          obtain rfl := Option.some.inj h3
          obtain ⟨x, hx⟩ := hm2.tot k c hc1 (by rw [← (blk_ren_kind hc2).1]; exact hd)
          exact ⟨x, (f2_is hk).2 hx⟩
        | false =>
          rw [hd'] at h3
          simp only [Bool.false_eq_true, if_false] at h3
          obtain ⟨x, hx⟩ := hm.tot i b h3.symm hd
          exact ⟨x, hpre i x hx⟩
      · obtain ⟨x, hx⟩ := hm.tot i b (by rw [← hb4 i hmem]; exact hi1) hd
        exact ⟨x, hpre i x hx⟩
    · have hi1 : m'[is.length + (i - M.length)]? = some b := by
        rw [List.getElem?_append_right (by rw [hb1]; omega), hb1, List.getElem?_drop] at hi
        exact hi
      obtain ⟨c, hc1, hc2⟩ := renM_get' hm' _ hi1
      obtain ⟨x, hx⟩ := hm2.tot _ c hc1 (by rw [← (blk_ren_kind hc2).1]; exact hd)
      exact ⟨x, by rw [f2_ge (by omega)]; exact hx⟩
  · intro i b x hi hx
    by_cases hd : b.kind = .dead
    · exact .inl hd
    rcases getM2 i b x hi hx hd with ⟨k, c, h1, h2, h3, _⟩ | ⟨h1, h2, h3⟩
    · exact BRel.ren hs2 h2 (hm2.blk k c x h1 h3)
    · by_cases hmem : i ∈ is
      · -- not written: as the callee had it
        obtain ⟨k, hk⟩ := List.getElem?_of_mem hmem
        obtain ⟨c, b', hc1, hc2, hc3⟩ := h3 k hk
        have hkl : k < l'.length := by rw [hl'len]; exact lt_of_get hk
        have hlk : l'[k]? = some l'[k] := by simp
        obtain ⟨i', b0, g1, g2, _, g4⟩ := getl k _ hlk
        rw [hk] at g1; obtain rfl := Option.some.inj g1
        rw [h1] at g2; obtain rfl := Option.some.inj g2
        have hck : c = l'[k] := hkeep k _ _ hlk hc1 (by rw [← (blk_ren_kind hc2).2]; exact hc3)
        have hback2 : (l'[k]).ren s2 = some ({ b with dirty := false } : Blk) := by
          refine blk_ren_back (s := fun i => placeOf i is) (fun a j haj => ?_) g4 hd
          have := placeOf_get haj
          simp only [s2]
          have hlt : Nat.blt j is.length = true := by simpa using lt_of_get this
          rw [hlt, cond_true]; exact this
        have hxk : f1 k = some x := hsub1 k x (pickF_get hk h2)
        have := BRel.ren hs2 hback2 (hm2.blk k l'[k] x (by rw [← hck]; exact hc1) hxk)
        exact this
      · exact ((hm.blk i b x h1 h2).pre hpre).heap (same i b x h1 h2 hd hmem)
  · intro i b x hi hx hmine
    rcases getM2 i b x hi hx (not_dead_of_mine hmine) with ⟨k, c, h1, h2, h3, _⟩ | ⟨h1, h2, _⟩
    · exact hm2.fresh k c x h1 h3 (by rw [← (blk_ren_kind h2).1]; exact hmine)
    · exact hm.fresh i b x h1 h2 hmine
  · intro i j b c x y hi hj hx hy hne hmine hdead
    rcases cls i b x hi hx (not_dead_of_mine hmine) with ⟨k, bk, h1, h2, h3, h4⟩ | ⟨h1, h2, h3⟩ <;> rcases cls j c y hj hy hdead with ⟨k', ck, h1', h2', h3', h4'⟩ | ⟨h1', h2', h3'⟩
    · refine hm2.inj k k' bk ck x y h1 h1' h3 h3' (fun e => hne ?_) (by rw [h2]; exact hmine) (by rw [h2']; exact hdead)
      subst e
      rcases h4 with h4 | h4 <;> rcases h4' with h4' | h4'
      · rw [h4] at h4'; exact Option.some.inj h4'
      · have := lt_of_get h4; omega
      · have := lt_of_get h4'; omega
      · omega
    · exact far k j bk c x y h1 (by rw [h2]; exact hmine) h3 h1' h2' hdead h3'
    · have hb : b.kind ≠ .dead := not_dead_of_mine hmine
      by_cases hcm : ck.kind.mine = true
      · exact (far k' i ck b y x h1' hcm h3' h1 h2 hb h3).symm
      · have hro : ck.kind = .ro := by
          have : ck.kind ≠ .dead := by rw [h2']; exact hdead
          exact ro_of this hcm
        rcases h4' with h4' | ⟨h4', _⟩
        · have hkd : k' < is.length := lt_of_get h4'
          obtain ⟨g1, b0, g2⟩ := hpick.2 k' j h4'
          rw [g2] at g1
          have hb0 : b0.kind ≠ .dead := fun hd => by
            obtain ⟨c2, e1, e2⟩ := renM_get k' hm' h1'
            have := hk1.2.1 k' b0 c2 g2 e1 hd
            rw [(blk_ren_kind e2).1, hro] at this
            cases this
          have hy' : f j = some y := by
            obtain ⟨y2, hy2⟩ := hm.tot j b0 g1 hb0
            have := hpre j y2 hy2
            rw [hy] at this
            obtain rfl := Option.some.inj this
            exact hy2
          exact hm.inj i j b b0 x y h1 g1 h2 hy' hne hmine hb0
        · obtain ⟨c2, e1, e2⟩ := renM_get k' hm' h1'
          exact absurd ((blk_ren_kind e2).1.trans hro) (hk1.2.2 k' c2 (by rw [← hpick.1]; exact h4') e1)
    · exact hm.inj i j b c x y h1 h1' h2 h2' hne hmine hdead
  · intro b hb ho
    refine hwent.other b hb fun h => ho ?_
    obtain ⟨k, i, c, x, h1, h2, h3, h4, h5⟩ := own1 b h
    exact ⟨i, c, x, h2, h3, h4, h5⟩
  · rintro b ⟨i, c, x, hi, hmine, hx, rfl⟩
    rcases cls i c x hi hx (not_dead_of_mine hmine) with ⟨k, ck, h1, h2, h3, _⟩ | ⟨h1, h2, _⟩
    · rcases own2 k ck x h1 (by rw [h2]; exact hmine) h3 with ⟨k', i2, c', y2, g1, g2, g3, g4, g5⟩ | hge
      · exact .inl ⟨i2, c', y2, g2, g3, g4, g5⟩
      · exact .inr hge
    · exact .inl ⟨i, c, x, h1, hmine, h2, rfl⟩

mutual
theorem AV.ren_none {s : Nat → Option Nat} : ∀ v : AV, v.refs = [] → v.ren s = some v
  | .junk, _ => rfl
  | .bool b, _ => rfl
  | .int k n, _ => rfl
  | .str x, _ => rfl
  | .nilp, _ => rfl
  | .nilsl, _ => rfl
  | .nilfn, _ => rfl
  | .nilif, _ => rfl
  | .flt b, _ => rfl
  | .nums k l, _ => rfl
  | .flat l, _ => rfl
  | .ptr i off, h => by simp [AV.refs] at h
  | .sl i off base len esz lim, h => by simp [AV.refs] at h
  | .fn g a c, h => by
    simp only [AV.refs, List.append_eq_nil_iff] at h
    simp only [AV.ren, renL_none a h.1, renL_none c h.2]
  | .agg l, h => by simp only [AV.refs] at h; simp only [AV.ren, renL_none l h]
  | .tup l, h => by simp only [AV.refs] at h; simp only [AV.ren, renL_none l h]
  | .at o c, h => by simp only [AV.refs] at h; simp only [AV.ren, AV.ren_none c h]
theorem renL_none {s : Nat → Option Nat} : ∀ l : List AV, refsL l = [] → renL s l = some l
  | [], _ => rfl
  | v :: l, h => by
    simp only [refsL, List.append_eq_nil_iff] at h
    simp only [renL, AV.ren_none v h.1, renL_none l h.2]
end
theorem callA_ok (hC : OrcOK P C) {g : FuncId} {args : List AV} {v : AV} {ft : Foot} (h : callA C g args M = some (v, M', ft)) (hm : MRel B f M w) (hB : B ≤ w.heap.size) {Vs : Array Value} (hv : VRels f args Vs.toList) :
    (∃ fn, P.funcs[g]? = some fn ∧ fn.name ≠ "runtime.NumGoroutine" ∧ fn.body.isSome = true) ∧
    Calls P g Vs w (fun e w' => ∃ f' V, e = .returned V ∧ Sub f f' ∧ MRel B f' M' w' ∧ VRel f' v V ∧ Went f M w f' M' w' ∧ (∀ r, r < M.length → f r = none → r ∉ ft.reads → f' r = none)) := by
  unfold callA at h
  split at h
  · rename_i hr
    split at h
    · rename_i v0 hc
      split at h
      · rename_i hv0
        simp only [quiet, Option.some.injEq, Prod.mk.injEq] at h
        obtain ⟨rfl, rfl, rfl⟩ := h
        refine callOn_ok (is := []) (ft := ⟨[], [], true, false⟩) hC ?_ hm hB hv
        simp only [callOn, renL_none args hr, pickM, cleanM, renM, hc, List.length_nil]
        rw [AV.ren_none v0 hv0]
        simp [backM, nodupN, kindsOK, dirtyOf]
      · cases h
    · exact callOn_ok hC h hm hB hv
  · exact callOn_ok hC h hm hB hv
end
end Go.Proofs.Ytnfglcfjjemjmaa
