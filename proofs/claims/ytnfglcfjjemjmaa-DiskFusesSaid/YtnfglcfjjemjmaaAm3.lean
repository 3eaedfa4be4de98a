/- The small machine's memory: loads and stores. No condition. -/
import Derived.Test.YtnfglcfjjemjmaaAm2
import Derived.Laws.Rows
namespace Go.Proofs.Ytnfglcfjjemjmaa
open Go Go.RowKit

theorem toInts_eq {k : IntKind} : ∀ {l : List AV} {r : List Int}, toInts k l = some r → l = r.map (AV.int k)
  | [], r, h => by simp only [toInts, Option.some.injEq] at h; subst h; rfl
  | v :: l, r, h => by
    unfold toInts at h
    split at h
    · simp at *
    · rename_i k' n l' heq
      obtain ⟨rfl, rfl⟩ := List.cons.inj heq
      split at h
      · rename_i hk
        subst hk
        split at h
        · rename_i q hq
          simp only [Option.some.injEq] at h; subst h
          rw [toInts_eq hq]; rfl
        · cases h
      · cases h
    · cases h

theorem toIntsS_eq {k : IntKind} : ∀ {l : List SV} {r : List Int}, toIntsS k l = some r → l.map SV.av = r.map (AV.int k)
  | [], r, h => by simp only [toIntsS, Option.some.injEq] at h; subst h; rfl
  | s :: l, r, h => by
    unfold toIntsS at h
    split at h
    · simp at *
    · rename_i k' n l' heq
      obtain ⟨rfl, rfl⟩ := List.cons.inj heq
      split at h
      · rename_i hk
        subst hk
        split at h
        · rename_i q hq
          simp only [Option.some.injEq] at h; subst h
          rw [List.map_cons, toIntsS_eq hq]; rfl
        · cases h
      · cases h
    · cases h

section
variable {f : FM}
theorem take_mid {α : Type} (l v : List α) (o n : Nat) (h : o + v.length ≤ n) (hn : n ≤ l.length) : (l.take o ++ (v ++ l.drop (o + v.length))).take n = (l.take n).take o ++ (v ++ (l.take n).drop (o + v.length)) := by
  have h1 : (l.take o).length = o := by simp; omega
  rw [List.take_append, List.take_append, h1, List.take_take, List.take_take, Nat.min_eq_right (by omega), Nat.min_eq_left (by omega),
    List.take_of_length_le (l := v) (by omega), List.drop_take, show n - o - v.length = n - (o + v.length) by omega]
theorem set_mid {α : Type} (l : List α) (o : Nat) (v : α) (h : o < l.length) : l.set o v = l.take o ++ ([v] ++ l.drop (o + 1)) := by
  rw [List.set_eq_take_append_cons_drop]; simp [h]
/-- What a store of a part does to the cells. -/
theorem putR_cells {c v c' : AV} {off : Nat} (h : c.putR off v = some c') :
    c'.isAgg = true ∧ off + v.csize ≤ c.csize ∧ c'.csize = c.csize ∧ c'.cells = c.cells.take off ++ (v.cells ++ c.cells.drop (off + v.csize)) ∧ (∀ (i : Nat) u, v.cells[i]? = some u → u.one = true) ∧ (v.isAgg = true ∨ v.one = true) ∧ c.isAgg = true := by
  cases c with
  | nums k l =>
    cases v with
    | int k' n =>
      simp only [AV.putR] at h
      split at h
      · rename_i hk; subst hk
        split at h
        · rename_i hl
          simp only [Option.some.injEq] at h; subst h
          have hl : off < l.length := by simpa using hl
          refine ⟨rfl, by simp [AV.csize]; omega, by simp [AV.csize], ?_, fun i u hi => plain_one (v := .int k n) rfl i u hi, .inr rfl, rfl⟩
          simp only [AV.cells, AV.csize]
          rw [set_mid l off n hl]; simp
        · cases h
      · cases h
    | nums k' l' =>
      simp only [AV.putR] at h
      split at h
      · rename_i hk; subst hk
        split at h
        · rename_i hl
          simp only [Option.some.injEq] at h; subst h
          have hl : off + l'.length ≤ l.length := by simpa using hl
          refine ⟨rfl, by simpa [AV.csize] using hl, by simp [AV.csize]; omega, by simp [AV.cells, AV.csize], fun i u hi => plain_one (v := .nums k l') rfl i u hi, .inl rfl, rfl⟩
        · cases h
      · cases h
    | _ => simp [AV.putR] at h
  | agg l =>
    have scalar : ∀ v : AV, v.one = true → (if v.one && Nat.blt off l.length then some (AV.agg (l.set off v)) else none) = some c' →
        c'.isAgg = true ∧ off + v.csize ≤ (AV.agg l).csize ∧ c'.csize = (AV.agg l).csize ∧ c'.cells = (AV.agg l).cells.take off ++ (v.cells ++ (AV.agg l).cells.drop (off + v.csize)) ∧ (∀ (i : Nat) u, v.cells[i]? = some u → u.one = true) ∧ (v.isAgg = true ∨ v.one = true) ∧ (AV.agg l).isAgg = true := by
      intro v hv h
      have hvc : v.cells = [v] ∧ v.csize = 1 ∧ v.plain = true := by cases v <;> simp_all [AV.one, AV.cells, AV.csize, AV.plain]
      split at h
      · rename_i hl
        simp only [Option.some.injEq] at h; subst h
        have hl : off < l.length := by simpa [hv] using hl
        refine ⟨rfl, by rw [hvc.2.1]; simp [AV.csize]; omega, by simp [AV.csize], ?_, plain_one hvc.2.2, .inr hv, rfl⟩
        rw [hvc.1, hvc.2.1]
        simp only [AV.cells]
        exact set_mid l off v hl
      · cases h
    cases v with
    | nums k' l' =>
      simp only [AV.putR] at h
      split at h
      · rename_i hl
        simp only [Option.some.injEq] at h; subst h
        have hl : off + l'.length ≤ l.length := by simpa using hl
        refine ⟨rfl, by simpa [AV.csize] using hl, by simp [AV.csize]; omega, by simp [AV.cells, AV.csize], fun i u hi => plain_one (v := .nums k' l') rfl i u hi, .inl rfl, rfl⟩
      · cases h
    | agg l' =>
      simp only [AV.putR] at h
      split at h
      · rename_i hl
        simp only [Option.some.injEq] at h; subst h
        have hl : allOne l' = true ∧ off + l'.length ≤ l.length := by simpa using hl
        refine ⟨rfl, by simpa [AV.csize] using hl.2, by simp [AV.csize]; omega, by simp [AV.cells, AV.csize], fun i u hi => plain_one (v := .agg l') hl.1 i u hi, .inl rfl, rfl⟩
      · cases h
    | flat l' =>
      simp only [AV.putR] at h
      split at h
      · rename_i hl
        simp only [Option.some.injEq] at h; subst h
        have hl : allS l' = true ∧ off + l'.length ≤ l.length := by simpa using hl
        refine ⟨rfl, by simpa [AV.csize] using hl.2, by simp [AV.csize]; omega, by simp [AV.cells, AV.csize], fun i u hi => plain_one (v := .flat l') hl.1 i u hi, .inl rfl, rfl⟩
      · cases h
    | junk => simp [AV.putR, AV.one] at h
    | tup l' => simp [AV.putR, AV.one] at h
    | «at» o c => simp [AV.putR, AV.one] at h
    | _ => exact scalar _ rfl h
  | flat l =>
    have scalar : ∀ v : AV, v.one = true → (if v.one && Nat.blt off l.length then (match toSV v with
        | some s => some (AV.flat (l.set off s))
        | none => some (AV.agg ((l.map SV.av).set off v))) else none) = some c' →
        c'.isAgg = true ∧ off + v.csize ≤ (AV.flat l).csize ∧ c'.csize = (AV.flat l).csize ∧ c'.cells = (AV.flat l).cells.take off ++ (v.cells ++ (AV.flat l).cells.drop (off + v.csize)) ∧ (∀ (i : Nat) u, v.cells[i]? = some u → u.one = true) ∧ (v.isAgg = true ∨ v.one = true) ∧ (AV.flat l).isAgg = true := by
      intro v hv h
      have hvc : v.cells = [v] ∧ v.csize = 1 ∧ v.plain = true := by cases v <;> simp_all [AV.one, AV.cells, AV.csize, AV.plain]
      split at h
      · rename_i hl
        have hl : off < l.length := by simpa [hv] using hl
        have hcl : ∀ c2 : AV, c2.cells = (l.map SV.av).set off v → c2.cells = (AV.flat l).cells.take off ++ (v.cells ++ (AV.flat l).cells.drop (off + v.csize)) := by
          intro c2 h2
          rw [h2, hvc.1, hvc.2.1]
          exact set_mid _ off v (by simpa using hl)
        split at h
        · rename_i s hs
          simp only [Option.some.injEq] at h; subst h
          exact ⟨rfl, by rw [hvc.2.1]; simp [AV.csize]; omega, by simp [AV.csize], hcl _ (by simp only [AV.cells, List.map_set, toSV_av hs]), plain_one hvc.2.2, .inr hv, rfl⟩
        · simp only [Option.some.injEq] at h; subst h
          exact ⟨rfl, by rw [hvc.2.1]; simp [AV.csize]; omega, by simp [AV.csize], hcl _ rfl, plain_one hvc.2.2, .inr hv, rfl⟩
      · cases h
    cases v with
    | nums k' l' =>
      simp only [AV.putR] at h
      split at h
      · rename_i hl
        simp only [Option.some.injEq] at h; subst h
        have hl : off + l'.length ≤ l.length := by simpa using hl
        refine ⟨rfl, by simpa [AV.csize] using hl, by simp [AV.csize]; omega, ?_, fun i u hi => plain_one (v := .nums k' l') rfl i u hi, .inl rfl, rfl⟩
        simp only [AV.cells, AV.csize, List.map_append, List.map_take, List.map_drop, List.map_map]
        rfl
      · cases h
    | agg l' =>
      simp only [AV.putR] at h
      split at h
      · rename_i hl
        simp only [Option.some.injEq] at h; subst h
        have hl : allOne l' = true ∧ off + l'.length ≤ l.length := by simpa using hl
        refine ⟨rfl, by simpa [AV.csize] using hl.2, by simp [AV.csize]; omega, by simp [AV.cells, AV.csize], fun i u hi => plain_one (v := .agg l') hl.1 i u hi, .inl rfl, rfl⟩
      · cases h
    | flat l' =>
      simp only [AV.putR] at h
      split at h
      · rename_i hl
        simp only [Option.some.injEq] at h; subst h
        have hl : allS l' = true ∧ off + l'.length ≤ l.length := by simpa using hl
        refine ⟨rfl, by simpa [AV.csize] using hl.2, by simp [AV.csize]; omega, by simp [AV.cells, AV.csize, List.map_append, List.map_take, List.map_drop], fun i u hi => plain_one (v := .flat l') hl.1 i u hi, .inl rfl, rfl⟩
      · cases h
    | junk => simp [AV.putR, AV.one] at h
    | tup l' => simp [AV.putR, AV.one] at h
    | «at» o c => simp [AV.putR, AV.one] at h
    | _ => exact scalar _ rfl h
  | _ => simp [AV.putR] at h

theorem at_drop {o : Nat} {c : AV} {L : List Value} (hL : VRels f (AV.at o c).cells L) : VRels f c.cells (L.drop o) := by
  have := hL.drop o
  simpa only [AV.cells, List.drop_append_of_le_length (Nat.le_of_eq (List.length_replicate (n := o) (a := AV.junk)).symm), List.drop_of_length_le (Nat.le_of_eq (List.length_replicate (n := o) (a := AV.junk))), List.nil_append] using this
/-- A part that is read. -/
theorem sub_rel {c v : AV} {off n : Nat} {ck : Option IntKind} (h : c.sub off n ck = some v) {L : List Value} (hL : VRels f c.cells L) :
    off + n ≤ c.csize ∧ v.isAgg = true ∧ v.csize = n ∧ VRel f v (.agg ((L.drop off).take n).toArray) ∧ v.cells = (c.cells.drop off).take n := by
  induction c using AV.cellInd generalizing off L with
  | «at» o c ih =>
    simp only [AV.sub] at h
    cases ho : Nat.ble o off with
    | false => rw [ho] at h; cases h
    | true =>
      rw [ho, cond_true] at h
      have ho : o ≤ off := by simpa using ho
      obtain ⟨h1, h2, h3, h4, h5⟩ := ih h (at_drop hL)
      refine ⟨by simp only [AV.csize]; omega, h2, h3, ?_, ?_⟩
      · rw [List.drop_drop, show o + (off - o) = off by omega] at h4; exact h4
      · rw [h5]
        simp only [AV.cells]
        rw [List.drop_append, List.drop_of_length_le (l := List.replicate o AV.junk) (by simpa using ho), List.nil_append, List.length_replicate]
  | nums k l =>
    simp only [AV.sub] at h
    split at h
    · rename_i hl
      simp only [Option.some.injEq] at h; subst h
      have hl : off + n ≤ l.length := by simpa using hl
      refine ⟨by simpa [AV.csize] using hl, rfl, by simp [AV.csize]; omega, ?_, by simp [AV.cells, List.map_take, List.map_drop]⟩
      rw [VRel, VRels.of_nums hL]
      simp [List.map_take, List.map_drop]
    · cases h
  | agg l =>
    simp only [AV.sub] at h
    split at h
    · rename_i hl
      have hl : off + n ≤ l.length := by simpa using hl
      have hd : VRels f ((l.drop off).take n) ((L.drop off).take n) := (hL.drop off).take n
      cases ck with
      | none =>
        simp only [Option.some.injEq] at h; subst h
        exact ⟨by simpa [AV.csize] using hl, rfl, by simp [AV.csize]; omega, by rw [VRel]; exact ⟨_, rfl, by simpa using hd⟩, rfl⟩
      | some k =>
        simp only at h
        split at h
        · rename_i r hr
          simp only [Option.some.injEq] at h; subst h
          have he := toInts_eq hr
          refine ⟨by simpa [AV.csize] using hl, rfl, ?_, ?_, by simp only [AV.cells]; exact he.symm⟩
          · have := congrArg List.length he
            simp at this
            simp [AV.csize]; omega
          · rw [he] at hd
            rw [VRel, VRels.of_nums hd]
        · cases h
    · cases h
  | flat l =>
    simp only [AV.sub] at h
    split at h
    · rename_i hl
      have hl : off + n ≤ l.length := by simpa using hl
      have hd : VRels f (((l.drop off).take n).map SV.av) ((L.drop off).take n) := by
        have := (hL.drop off).take n
        simpa only [AV.cells, List.map_take, List.map_drop] using this
      cases ck with
      | none =>
        simp only [Option.some.injEq] at h; subst h
        exact ⟨by simpa [AV.csize] using hl, rfl, by simp [AV.csize]; omega, by rw [VRel]; exact ⟨_, rfl, by simpa using SRels.av.1 hd⟩, by simp only [AV.cells, List.map_take, List.map_drop]⟩
      | some k =>
        simp only at h
        split at h
        · rename_i r hr
          simp only [Option.some.injEq] at h; subst h
          have he := toIntsS_eq hr
          refine ⟨by simpa [AV.csize] using hl, rfl, ?_, ?_, by simp only [AV.cells]; rw [← he]; simp only [List.map_take, List.map_drop]⟩
          · have := congrArg List.length he
            simp at this
            simp [AV.csize]; omega
          · rw [he] at hd
            rw [VRel, VRels.of_nums hd]
        · cases h
    · cases h
  | other c hc => cases c <;> first | (simp [AV.sub] at h; done) | cases hc
theorem get_rel {c v : AV} {i : Nat} (h : c.get? i = some v) {L : List Value} (hL : VRels f c.cells L) : i < c.csize ∧ ∃ V, L[i]? = some V ∧ VRel f v V := by
  induction c using AV.cellInd generalizing i L with
  | «at» o c ih =>
    simp only [AV.get?] at h
    cases ho : Nat.ble o i with
    | false => rw [ho] at h; cases h
    | true =>
      rw [ho, cond_true] at h
      have ho : o ≤ i := by simpa using ho
      obtain ⟨h1, V, h2, h3⟩ := ih h (at_drop hL)
      refine ⟨by simp only [AV.csize]; omega, V, ?_, h3⟩
      rw [List.getElem?_drop, show o + (i - o) = i by omega] at h2; exact h2
  | nums k l =>
    simp only [AV.get?] at h
    split at h
    · rename_i n hn
      simp only [Option.some.injEq] at h; subst h
      exact ⟨by simpa [AV.csize] using lt_of_get hn, hL.get i (by simp [AV.cells, hn])⟩
    · cases h
  | agg l => exact ⟨by simpa [AV.csize] using lt_of_get h, hL.get i h⟩
  | flat l =>
    simp only [AV.get?] at h
    split at h
    · rename_i s hs
      simp only [Option.some.injEq] at h; subst h
      exact ⟨by simpa [AV.csize] using lt_of_get hs, hL.get i (by simp [AV.cells, hs])⟩
    · cases h
  | other c hc => cases c <;> first | (simp [AV.get?] at h; done) | cases hc
end

/-! ### Addresses and cells -/
theorem addr_add (b off n : Nat) : (⟨b, off, none⟩ : Addr).add n = ⟨b, off + n, none⟩ := by unfold Addr.add; split <;> simp_all

section
variable {P : Program} {B : Nat} {f : FM} {M : Mem} {w : World}
/-- The cells of a living block. -/
theorem MRel.live (h : MRel B f M w) {i : Nat} {b : Blk} (hb : liveB M i = some b) : ∃ x A t fz, M[i]? = some b ∧ f i = some x ∧ w.heap[x.1]? = some (.cells A t fz) ∧ A.size = x.2 ∧ b.cells.mem3 = true ∧ (b.kind = .own → b.cells.csize = x.2) ∧ b.cells.csize ≤ x.2 ∧
    VRels f b.cells.cells (A.toList.take b.cells.csize) ∧ (b.kind.mine = true → Loose fz x.2) ∧ b.kind ≠ .dead := by
  unfold liveB at hb
  split at hb
  · rename_i b0 hi
    split at hb
    · cases hb
    · rename_i hk
      simp only [Option.some.injEq] at hb; subst hb
      have hk : b0.kind ≠ .dead := hk
      obtain ⟨x, hx, hr⟩ := h.get hi hk
      rcases hr with hr | ⟨A, t, fz, h1⟩
      · exact absurd hr hk
      · exact ⟨x, A, t, fz, hi, hx, h1.1, h1.2.1, h1.2.2.1, h1.2.2.2.1, h1.2.2.2.2.1, h1.2.2.2.2.2.1, h1.2.2.2.2.2.2, hk⟩
  · cases hb
theorem own_live {i : Nat} {b : Blk} (h : ownB M i = some b) : liveB M i = some b ∧ b.kind.mine = true := by
  unfold ownB at h
  unfold liveB
  cases hm : M[i]? with
  | none => simp [hm] at h
  | some b0 =>
    simp only [hm] at h ⊢
    cases hk : b0.kind <;> simp only [hk] at h ⊢
    · cases h
    · cases h
    · simp only [Option.some.injEq] at h; subst h; exact ⟨rfl, by simp [hk, BK.mine]⟩
    · simp only [Option.some.injEq] at h; subst h; exact ⟨rfl, by simp [hk, BK.mine]⟩

theorem take_drop_le {α : Type} (l : List α) (c off n : Nat) (h : off + n ≤ c) : ((l.take c).drop off).take n = (l.drop off).take n := by
  rw [List.drop_take, List.take_take, Nat.min_eq_left (by omega)]
theorem run_loadCells_mid {b : Nat} {A : Array Value} {t : TypeId} {fz : Nat × Nat} (hw : w.heap[b]? = some (.cells A t fz)) (off n : Nat) (hn : off + n ≤ A.size) :
    (loadCells ⟨b, off, none⟩ n).run P w = .ok ((A.toList.drop off).take n).toArray w := by
  have h1 : ((A.toList.drop off).take n).length = n := by simp; omega
  have h2 := run_loadCells_list (P := P) w ⟨b, off, none⟩ ((A.toList.drop off).take n) (fun j v hv => by
    rw [addr_add, cell_of_row w b (off + j) A t fz hw]
    have hj : j < n := by rw [← h1]; exact lt_of_get hv
    rw [List.getElem?_take_of_lt hj, List.getElem?_drop] at hv
    simpa using hv)
  rwa [h1] at h2
theorem run_isAgg {ty : TypeId} {d : TypeDesc} (hu : P.underlying ty = some d) : (isAgg ty).run P w = .ok (isAggD d) w := by
  unfold isAgg
  rw [Sem.run_bind, run_underlying hu w]
  cases d <;> rfl
theorem kindT_spec {ty : TypeId} {k : Option (Nat × Option IntKind)} (h : kindT P ty = some k) : ∃ d i, P.underlying ty = some d ∧ P.info? ty = some i ∧ ((k = none ∧ isAggD d = false) ∨ (∃ ck, k = some (i.size, ck) ∧ isAggD d = true)) := by
  unfold kindT at h
  split at h
  · rename_i d i hd hi
    refine ⟨d, i, hd, hi, ?_⟩
    cases ha : isAggD d with
    | false => simp only [ha, cond_false, Option.some.injEq] at h; exact .inl ⟨h.symm, rfl⟩
    | true =>
      simp only [ha, cond_true] at h
      split at h
      · split at h
        · simp only [Option.some.injEq] at h; exact .inr ⟨_, h.symm, rfl⟩
        · cases h
      · cases h
  · cases h
/-- A variable is read. -/
theorem run_load_part (h : MRel B f M w) {i off : Nat} {b : Blk} {ty : TypeId} {k : Option (Nat × Option IntKind)} {v : AV} (hk : kindT P ty = some k) (hb : liveB M i = some b) (hv : b.cells.part off k = some v) {V : Value} (hp : VRel f (.ptr i off) V) :
    ∃ U, (Instr.loadAt ty V).run P w = .ok U w ∧ VRel f v U := by
  obtain ⟨x, A, t, fz, hi, hx, hw, hs, ha, ho, hle, hc, hfz, hd⟩ := h.live hb
  rw [VRel] at hp
  obtain ⟨y, hy, rfl⟩ := hp
  obtain rfl : x = y := by rw [hx] at hy; exact Option.some.inj hy
  obtain ⟨d, inf, hu, hinf, hk⟩ := kindT_spec hk
  rcases hk with ⟨rfl, hag⟩ | ⟨ck, rfl, hag⟩
  · obtain ⟨hlt, U, hU, hvU⟩ := get_rel (f := f) hv hc
    refine ⟨U, ?_, hvU⟩
    have hcell : w.cell? ⟨x.1, off, none⟩ = some U := by
      rw [cell_of_row w x.1 off A t fz hw]
      rw [List.getElem?_take_of_lt hlt] at hU
      simpa using hU
    simp [Instr.loadAt, Instr.sureAddr, loadVar, run_isAgg hu, hag, hcell]
  · obtain ⟨hle2, _, _, hvU, _⟩ := sub_rel (f := f) hv hc
    refine ⟨_, ?_, hvU⟩
    rw [take_drop_le _ _ _ _ hle2]
    simp [Instr.loadAt, Instr.sureAddr, loadVar, run_isAgg hu, hag, sizeOf, typeInfo, hinf, run_loadCells_mid (P := P) hw off inf.size (by omega)]

/-! ### Stores -/
theorem heap_set_here {b : Nat} {A : Array Value} {t : TypeId} {fz : Nat × Nat} (hw : w.heap[b]? = some (.cells A t fz)) (o : Nat) (V : Value) :
    (w.setCell ⟨b, o, none⟩ V).heap[b]? = some (.cells (A.setIfInBounds o V) t fz) := by
  simp [World.setCell, Array.getElem?_modify, hw]
def setL : List Value → Nat → List Value → List Value
  | L, _, [] => L
  | L, o, v :: r => setL (L.set o v) (o + 1) r
theorem setL_mid : ∀ (vs L : List Value) (o : Nat), o + vs.length ≤ L.length → setL L o vs = L.take o ++ (vs ++ L.drop (o + vs.length))
  | [], L, o, _ => by simp [setL]
  | v :: r, L, o, h => by
    simp only [List.length_cons] at h
    rw [setL, setL_mid r _ _ (by simp; omega), List.drop_set_of_lt (by omega), List.take_add_one,
      List.take_set_of_le (by omega), List.getElem?_set_self (by omega)]
    simp [Nat.add_assoc, Nat.add_comm 1 r.length]
theorem run_storeCells {b t : Nat} {fz : Nat × Nat} (off : Nat) : ∀ (vs : List Value) (i : Nat) (w : World) (A : Array Value), w.heap[b]? = some (.cells A t fz) → off + i + vs.length ≤ A.size →
    (∀ v ∈ vs, v.oneCell' = true) → (∀ o, o < A.size → ¬(fz.1 ≤ o ∧ o < fz.2)) →
    ∃ w' A', (storeCells ⟨b, off, none⟩ vs i).run P w = .ok () w' ∧ w'.heap[b]? = some (.cells A' t fz) ∧ A'.toList = setL A.toList (off + i) vs ∧ (∀ k, k ≠ b → w'.heap[k]? = w.heap[k]?) ∧ w'.heap.size = w.heap.size ∧ w'.os = w.os ∧ w'.tape = w.tape ∧ w'.output = w.output
  | [], i, w, A, hw, _, _, _ => ⟨w, A, by simp [storeCells], hw, by simp [setL], fun _ _ => rfl, rfl, rfl, rfl, rfl⟩
  | v :: r, i, w, A, hw, hle, h1, hz => by
    simp only [List.length_cons] at hle
    have hv := h1 v (by simp)
    have hcell : ∃ u, w.cell? ⟨b, off + i, none⟩ = some u := by rw [cell_of_row w b (off + i) A t fz hw]; exact ⟨A[off + i], by simp⟩
    obtain ⟨u, hu⟩ := hcell
    have hfr : w.frozen? ⟨b, off + i, none⟩ = false := by
      have := hz (off + i) (by omega)
      simp only [World.frozen?, hw]
      simp; omega
    obtain ⟨w', A', h2, h3, h4, h5, h6, h7, h8, h9⟩ := run_storeCells off r (i + 1) (w.setCell ⟨b, off + i, none⟩ v) (A.setIfInBounds (off + i) v) (heap_set_here hw _ _) (by simp; omega) (fun u hu => h1 u (by simp [hu])) (fun o ho => hz o (by simpa using ho))
    refine ⟨w', A', ?_, h3, ?_, fun k hk => (h5 k hk).trans (Below.heap_setCell w _ v k hk), ?_, h7, h8, h9⟩
    · simp only [storeCells, addr_add, Sem.run_bind, run_store P w _ v _ hv, hu, hfr, Bool.false_eq_true, if_false, Result.andThen_ok]
      exact h2
    · rw [h4, setL]
      simp [Nat.add_assoc]
    · rw [h6]; simp [World.setCell]

/-- A block is written. -/
theorem MRel.store (h : MRel B f M w) {i : Nat} {b : Blk} {x : Nat × Nat} {w' : World} {c : AV} {kd : BK} {A : Array Value} {t : TypeId} {fz : Nat × Nat} (hi : M[i]? = some b) (hx : f i = some x) (hm : b.kind.mine = true) (hkd : kd = b.kind)
    (ha : c.isAgg = true) (hbs : b.kind = .own → c.csize = x.2) (hle : c.csize ≤ x.2) (hw : w'.heap[x.1]? = some (.cells A t fz)) (hA : A.size = x.2) (hc : VRels f c.cells (A.toList.take c.csize)) (hfz : Loose fz x.2)
    (ho : ∀ k, k ≠ x.1 → w'.heap[k]? = w.heap[k]?) (hs : w'.heap.size = w.heap.size) (e1 : w'.os = w.os) (e2 : w'.tape = w.tape) (e3 : w'.output = w.output) :
    MRel B f (M.set i ⟨c, kd, true⟩) w' ∧ Went f M w f (M.set i ⟨c, kd, true⟩) w' := by
  subst hkd
  have hil := lt_of_get hi
  have old : ∀ (j : Nat) (k : Blk), (M.set i ⟨c, b.kind, true⟩)[j]? = some k → (j = i ∧ k = ⟨c, b.kind, true⟩) ∨ (j ≠ i ∧ M[j]? = some k) := by
    intro j k hj
    by_cases hji : j = i
    · subst hji
      rw [List.getElem?_set_self hil] at hj
      exact .inl ⟨rfl, (Option.some.inj hj).symm⟩
    · rw [List.getElem?_set_ne (Ne.symm hji)] at hj
      exact .inr ⟨hji, hj⟩
  refine ⟨⟨fun j y hy => by simpa using h.dom j y hy, fun j k hj hd => ?_, ?_, ?_, ?_⟩, e1, e2, e3, Nat.le_of_eq hs.symm, ?_, ?_⟩
  · rcases old j k hj with ⟨rfl, rfl⟩ | ⟨hji, hj⟩
    · exact ⟨x, hx⟩
    · exact h.tot j k hj hd
  · intro j k y hj hy
    rcases old j k hj with ⟨rfl, rfl⟩ | ⟨hji, hj⟩
    · obtain rfl : x = y := by rw [hx] at hy; exact Option.some.inj hy
      exact .inr ⟨A, t, fz, hw, hA, isAgg_mem3 ha, hbs, hle, hc, fun _ => hfz⟩
    · by_cases hd : k.kind = .dead
      · exact .inl hd
      · exact (h.blk j k y hj hy).heap (ho _ ((h.inj i j b k x y hi hj hx hy (Ne.symm hji) hm hd).symm))
  · intro j k y hj hy hmk
    rcases old j k hj with ⟨rfl, rfl⟩ | ⟨hji, hj⟩
    · exact h.fresh j b y hi hy hm
    · exact h.fresh j k y hj hy hmk
  · intro j j' k k' y y' hj hj' hy hy' hne hmk hd
    rcases old j k hj with ⟨e1, e2⟩ | ⟨hji, hq⟩ <;> rcases old j' k' hj' with ⟨e3, e4⟩ | ⟨hji', hq'⟩
    · exact absurd (e1.trans e3.symm) hne
    · subst e1; exact h.inj j j' b k' y y' hi hq' hy hy' hne hm hd
    · subst e3; exact h.inj j j' k b y y' hq hi hy hy' hne hmk (not_dead_of_mine hm)
    · exact h.inj j j' k k' y y' hq hq' hy hy' hne hmk hd
  · intro k _ hk
    exact ho k fun e => hk ⟨i, b, x, hi, hm, hx, e.symm⟩
  · rintro k ⟨j, b', y, hj, hmj, hy, rfl⟩
    rcases old j b' hj with ⟨rfl, rfl⟩ | ⟨hji, hj⟩
    · exact .inl ⟨j, b, y, hi, hm, hy, rfl⟩
    · exact .inl ⟨j, b', y, hj, hmj, hy, rfl⟩

theorem mem_of_cells {v : AV} {V : Value} (h : VRel f v V) (hv : v.isAgg = true ∨ v.one = true) (h1 : ∀ (i : Nat) u, v.cells[i]? = some u → u.one = true) : ∀ U ∈ V.cells.toList, U.oneCell' = true := by
  intro U hU
  obtain ⟨i, hi⟩ := List.getElem?_of_mem hU
  have hc := h.cells hv
  have hl := hc.length
  obtain ⟨u, hu⟩ : ∃ u, v.cells[i]? = some u := ⟨v.cells[i]'(by rw [hl]; exact lt_of_get hi), by simp⟩
  obtain ⟨U', hU', hr⟩ := hc.get i hu
  rw [hi] at hU'
  obtain rfl := Option.some.inj hU'
  exact (hr.one (h1 i u hu)).1

/-- A part of a block is written. -/
theorem run_store_part (h : MRel B f M w) {i off : Nat} {b : Blk} {v c : AV} (hb : ownB M i = some b) (hc : b.cells.putR off v = some c) {x : Nat × Nat} (hx : f i = some x) {V : Value} (hV : VRel f v V) :
    ∃ w', (storeCells ⟨x.1, off, none⟩ V.cells.toList).run P w = .ok () w' ∧ MRel B f (M.set i ⟨c, b.kind, true⟩) w' ∧ Went f M w f (M.set i ⟨c, b.kind, true⟩) w' := by
  obtain ⟨hb, hm⟩ := own_live hb
  obtain ⟨y, A, t, fz, hi, hy, hw, hs, ha, ho, hle, hcs, hfz, hd⟩ := h.live hb
  obtain rfl : x = y := by rw [hx] at hy; exact Option.some.inj hy
  obtain ⟨ha', hle', hcs', hcc, h1, hag, _⟩ := putR_cells hc
  have hVc := hV.cells hag
  have hlen : V.cells.toList.length = v.csize := by rw [← hVc.length, csize_cells]
  obtain ⟨w', A', r1, r2, r3, r4, r5, r6, r7, r8⟩ := run_storeCells (P := P) off V.cells.toList 0 w A hw (by simp only [Nat.add_zero]; rw [hlen, hs]; omega) (mem_of_cells hV hag h1) (fun o ho => (hfz hm).out o (by omega))
  have hsz : A'.toList.length = A.toList.length := by
    rw [r3, setL_mid _ _ _ (by simp only [Nat.add_zero, hlen, Array.length_toList, hs]; omega)]
    simp only [Nat.add_zero, List.length_append, List.length_take, List.length_drop, hlen, Array.length_toList, hs]; omega
  refine ⟨w', r1, h.store hi hx hm rfl ha' (fun hk => hcs'.trans (ho hk)) (by rw [hcs']; exact hle) r2 (by simpa [hs] using hsz) ?_ (hfz hm) r4 r5 r6 r7 r8⟩
  rw [r3, setL_mid _ _ _ (by simp only [Nat.add_zero, hlen, Array.length_toList, hs]; omega), hcs', hcc]
  simp only [Nat.add_zero]
  rw [take_mid _ _ _ _ (by rw [hlen]; exact hle') (by simp [hs]; exact hle), hlen]
  exact (hcs.take off).app (hVc.app (hcs.drop _))
end
end Go.Proofs.Ytnfglcfjjemjmaa
