/- Each operation of the small machine stands for what the program's operation does: what grows, what is copied. No condition. -/
import Derived.Test.YtnfglcfjjemjmaaAm7
import Derived.Shelf.Spec.BitsCarry
namespace Go.Proofs.Ytnfglcfjjemjmaa
open Go Go.RowKit

section
variable {P : Program} {B : Nat} {f : FM} {M M' : Mem} {w : World} {ρ : Operand → Value} {o : Oper} {v : AV}

/-- A block that is given up. -/
theorem MRel.kill (h : MRel B f M w) (i : Nat) : MRel B f (M.set i ⟨.junk, .dead, true⟩) w ∧ Went f M w f (M.set i ⟨.junk, .dead, true⟩) w := by
  have old : ∀ (j : Nat) (k : Blk), (M.set i ⟨.junk, .dead, true⟩)[j]? = some k → k.kind = .dead ∨ M[j]? = some k := by
    intro j k hj
    by_cases hji : i = j
    · subst hji
      rw [List.getElem?_set_self (by have := lt_of_get hj; simpa using this)] at hj
      obtain rfl := Option.some.inj hj
      exact .inl rfl
    · rw [List.getElem?_set_ne hji] at hj
      exact .inr hj
  refine ⟨⟨fun j x hx => by simpa using h.dom j x hx, fun j k hj hd => (old j k hj).elim (fun e => absurd e hd) fun hq => h.tot j k hq hd, ?_, ?_, ?_⟩, rfl, rfl, rfl, Nat.le_refl _, fun _ _ _ => rfl, ?_⟩
  · intro j k x hj hx
    rcases old j k hj with hk | hj'
    · exact .inl hk
    · exact h.blk j k x hj' hx
  · intro j k x hj hx hm
    rcases old j k hj with hk | hj'
    · rw [hk] at hm; cases hm
    · exact h.fresh j k x hj' hx hm
  · intro j j' k k' x y hj hj' hx hy hne hm hd
    rcases old j k hj with hk | hq
    · rw [hk] at hm; cases hm
    · rcases old j' k' hj' with hk' | hq'
      · exact absurd hk' hd
      · exact h.inj j j' k k' x y hq hq' hx hy hne hm hd
  · rintro b ⟨j, k, x, hj, hm, hx, rfl⟩
    rcases old j k hj with hk | hq
    · rw [hk] at hm; cases hm
    · exact .inl ⟨j, k, x, hq, hm, hx, rfl⟩
/-- A block under a new number. -/
theorem MRel.shift (h : MRel B f M w) {i : Nat} {b : Blk} {x : Nat × Nat} (hi : M[i]? = some b) (hx : f i = some x) (hm : b.kind.mine = true) {d : Bool} :
    MRel B (upd f M.length x) (M.set i ⟨.junk, .dead, true⟩ ++ [⟨b.cells, b.kind, d⟩]) w ∧ Went f M w (upd f M.length x) (M.set i ⟨.junk, .dead, true⟩ ++ [⟨b.cells, b.kind, d⟩]) w := by
  obtain ⟨h1, h2⟩ := h.kill i
  have hil := lt_of_get hi
  have hpre : Sub f (upd f M.length x) := upd_sub h.none
  have old : ∀ (j : Nat) (k : Blk) (y : Nat × Nat), (M.set i ⟨.junk, .dead, true⟩)[j]? = some k → upd f M.length x j = some y → f j = some y := by
    intro j k y hj hy
    have := lt_of_get hj
    rwa [upd_ne _ _ (by simp at this; omega)] at hy
  have new : ∀ y : Nat × Nat, upd f M.length x (M.set i ⟨.junk, .dead, true⟩).length = some y → y = x := by
    intro y hy
    rw [List.length_set, upd_same] at hy
    exact (Option.some.inj hy).symm
  have live : ∀ (j : Nat) (k : Blk), (M.set i ⟨.junk, .dead, true⟩)[j]? = some k → k.kind ≠ .dead → M[j]? = some k ∧ j ≠ i := by
    intro j k hj hk
    by_cases hji : i = j
    · subst hji
      rw [List.getElem?_set_self hil] at hj
      obtain rfl := Option.some.inj hj
      exact absurd rfl hk
    · rw [List.getElem?_set_ne hji] at hj
      exact ⟨hj, Ne.symm hji⟩
  refine ⟨⟨fun j y hy => ?_, fun j k hj hd => ?_, ?_, ?_, ?_⟩, rfl, rfl, rfl, Nat.le_refl _, fun _ _ _ => rfl, ?_⟩
  · by_cases e : j = M.length
    · subst e; simp
    · rw [upd_ne _ _ e] at hy
      have := h.dom j y hy
      simp; omega
  · rcases getElem?_snoc hj with hj | ⟨rfl, rfl⟩
    · obtain ⟨y, hy⟩ := h1.tot j k hj hd
      exact ⟨y, hpre j y hy⟩
    · rw [List.length_set]; exact ⟨x, upd_same _ _ _⟩
  · intro j k y hj hy
    rcases getElem?_snoc hj with hj | ⟨rfl, rfl⟩
    · exact (h1.blk j k y hj (old j k y hj hy)).pre hpre
    · obtain rfl := new y hy
      rcases h.blk i b y hi hx with hb | ⟨A, t, fz, hb⟩
      · rw [hb] at hm; cases hm
      · exact .inr ⟨A, t, fz, hb.1, hb.2.1, hb.2.2.1, hb.2.2.2.1, hb.2.2.2.2.1, hb.2.2.2.2.2.1.pre hpre, hb.2.2.2.2.2.2⟩
  · intro j k y hj hy hmk
    rcases getElem?_snoc hj with hj | ⟨rfl, rfl⟩
    · exact h1.fresh j k y hj (old j k y hj hy) hmk
    · obtain rfl := new y hy
      exact h.fresh i b y hi hx hm
  · intro j j' k k' y y' hj hj' hy hy' hne hmk hd
    rcases getElem?_snoc hj with hq | ⟨e1, e2⟩ <;> rcases getElem?_snoc hj' with hq' | ⟨e3, e4⟩
    · exact h1.inj j j' k k' y y' hq hq' (old _ _ _ hq hy) (old _ _ _ hq' hy') hne hmk hd
    · obtain ⟨hq1, hq2⟩ := live j k hq (not_dead_of_mine hmk)
      subst e3
      obtain rfl := new y' hy'
      exact h.inj j i k b y y' hq1 hi (old _ _ _ hq hy) hx hq2 hmk (not_dead_of_mine hm)
    · obtain ⟨hq1, hq2⟩ := live j' k' hq' hd
      subst e1
      obtain rfl := new y hy
      exact h.inj i j' b k' y y' hi hq1 hx (old _ _ _ hq' hy') (Ne.symm hq2) hm hd
    · exact absurd (e1.trans e3.symm) hne
  · rintro c ⟨j, k, y, hj, hmk, hy, rfl⟩
    rcases getElem?_snoc hj with hj | ⟨rfl, rfl⟩
    · exact h2.own _ ⟨j, k, y, hj, hmk, old j k y hj hy, rfl⟩
    · obtain rfl := new y hy
      exact .inl ⟨i, b, y, hi, hm, hx, rfl⟩

/-! ### What is read for an append or a copy -/
theorem src_run {esz n : Nat} {x c : AV} {rs : List Nat} (h : srcA esz n M x = some (c, rs)) (hm : MRel B f M w) {X : Value} (hX : VRel f x X) (h0 : 0 < esz) :
    ∃ C : Array Value, (Builtin.firstCells esz n X).run P w = .ok C w ∧ c.isAgg = true ∧ VRels f c.cells C.toList ∧ c.csize = n * esz := by
  cases x <;> simp only [srcA, reduceCtorEq] at h
  case sl i off base len e lim =>
    cases hq : (Nat.beq e esz && Nat.ble n len) with
    | false => simp [hq] at h
    | true =>
      simp only [hq, cond_true] at h
      simp only [Bool.and_eq_true] at hq
      obtain rfl := Nat.eq_of_beq_eq_true hq.1
      have hn : n ≤ len := by simpa using hq.2
      split at h
      · rename_i b hb
        split at h
        · rename_i c' hc'
          simp only [Option.some.injEq, Prod.mk.injEq] at h
          obtain ⟨rfl, _⟩ := h
          obtain ⟨y, A, t, fz, hi, hy, hw, hsz, ha, hown, hle, hcs, hfz, hdd⟩ := hm.live hb
          rw [VRel] at hX
          obtain ⟨z, cap, hz, _, hcap, hlc, rfl⟩ := hX
          obtain rfl : y = z := by rw [hy] at hz; exact Option.some.inj hz
          obtain ⟨hle2, g1, g2, hvU, g5⟩ := sub_rel (f := f) hc' hcs
          rw [take_drop_le _ _ _ _ hle2] at hvU
          have hvc := hvU.cells (.inl g1)
          refine ⟨((A.toList.drop off).take (n * e)).toArray, ?_, g1, by simpa [Value.cells] using hvc, g2⟩
          simp only [Builtin.firstCells]
          by_cases hn0 : n = 0
          · subst hn0; simp [loadCells, loadCellsFrom]
          · rw [if_neg (by omega), run_loadCells_mid (P := P) hw off (n * e) (by omega)]
        · cases h
      · cases h
  case nilsl =>
    cases hq : Nat.beq n 0 with
    | false => simp [hq] at h
    | true =>
      simp only [hq, cond_true, Option.some.injEq, Prod.mk.injEq] at h
      obtain ⟨rfl, _⟩ := h
      obtain rfl := Nat.eq_of_beq_eq_true hq
      rw [VRel] at hX; subst hX
      exact ⟨#[], by simp [Builtin.firstCells], rfl, by simp [AV.cells, VRels], by simp [AV.csize]⟩
  case str s =>
    cases hq : (Nat.beq esz 1 && Nat.ble n s.length) with
    | false => simp [hq] at h
    | true =>
      simp only [hq, cond_true, Option.some.injEq, Prod.mk.injEq] at h
      obtain ⟨rfl, _⟩ := h
      simp only [Bool.and_eq_true] at hq
      obtain rfl := Nat.eq_of_beq_eq_true hq.1
      have hn : n ≤ s.length := by simpa using hq.2
      rw [VRel] at hX; subst hX
      refine ⟨(((ByteArray.mk s.toArray).extract 0 n).data.map fun b => .int .u8 b.toNat), by simp [Builtin.firstCells], rfl, ?_, by simp [AV.csize]; omega⟩
      have e : (((ByteArray.mk s.toArray).extract 0 n).data.map fun b => (Value.int .u8 b.toNat)).toList = ((s.take n).map fun b => (b.toNat : Int)).map (Value.int .u8) := by
        simp [ByteArray.data_extract]
        rfl
      rw [e]
      simp only [AV.cells]
      exact VRels.nums _ _

/-! ### How much a slice grows -/
theorem growBy_le (n : Nat) : ∀ (r c : Nat), c ≤ n + (n + 768) / 4 → Builtin.growBy n r c ≤ n + (n + 768) / 4
  | 0, c, h => by simpa [Builtin.growBy] using h
  | r + 1, c, h => by
    simp only [Builtin.growBy]
    split
    · exact h
    · exact growBy_le n r _ (by omega)
theorem nextcap_le {n c : Nat} (h : c < n) : Builtin.nextslicecap n c ≤ 2 * n + 192 := by
  unfold Builtin.nextslicecap
  split
  · omega
  · split
    · omega
    · have := growBy_le n 4 c (by omega)
      omega
theorem room_spec {n esz bytes : Nat} (h : roomA n esz bytes = true) (h0 : 0 < n) {m : Nat} (hm : m ≤ 2 * n + 192) : m * bytes ≤ 2 ^ 48 := by
  unfold roomA at h
  have h : n * (bytes + esz) ≤ 68719476736 := by simpa using h
  rw [Nat.mul_add] at h
  have hb : bytes ≤ n * bytes := Nat.le_mul_of_pos_left _ h0
  have h1 : m * bytes ≤ (2 * n + 192) * bytes := Nat.mul_le_mul_right _ hm
  rw [Nat.add_mul, Nat.mul_assoc] at h1
  omega
theorem join_rel {d c r : AV} (h : joinD d c = some r) {D C : List Value} (hd : VRels f d.cells D) (hc : VRels f c.cells C) (ha : d.isAgg = true) (hb : c.isAgg = true) : r.isAgg = true ∧ VRels f r.cells (D ++ C) ∧ r.csize = d.csize + c.csize := by
  have gen : d.join c = some r → r.isAgg = true ∧ VRels f r.cells (D ++ C) ∧ r.csize = d.csize + c.csize := by
    intro h
    have e : r.isAgg = true ∧ r.cells = d.cells ++ c.cells := by
      cases d <;> cases c <;> simp only [AV.join, Option.some.injEq, reduceCtorEq] at h
      case agg.agg => subst h; exact ⟨rfl, rfl⟩
      case agg.nums => subst h; exact ⟨rfl, rfl⟩
      case nums.agg => subst h; exact ⟨rfl, rfl⟩
      case agg.flat => subst h; exact ⟨rfl, rfl⟩
      case flat.agg => subst h; exact ⟨rfl, rfl⟩
      case nums.flat => subst h; exact ⟨rfl, by simp only [AV.cells, List.map_append, List.map_map]; rfl⟩
      case flat.nums => subst h; exact ⟨rfl, by simp only [AV.cells, List.map_append, List.map_map]; rfl⟩
      case flat.flat => subst h; exact ⟨rfl, by simp only [AV.cells, List.map_append]⟩
      case nums.nums =>
        split at h
        · rename_i hk
          simp only [Option.some.injEq] at h; subst h; subst hk
          exact ⟨rfl, by simp [AV.cells]⟩
        · cases h
    refine ⟨e.1, by rw [e.2]; exact hd.app hc, ?_⟩
    rw [← csize_cells, e.2, List.length_append, csize_cells, csize_cells]
  unfold joinD at h
  split at h
  · simp only [Option.some.injEq] at h; subst h
    simp only [AV.cells, VRels] at hc
    subst hc
    exact ⟨ha, by simpa using hd, by simp [AV.csize]⟩
  · simp only [Option.some.injEq] at h; subst h
    simp only [AV.cells, VRels] at hd
    subst hd
    exact ⟨hb, by simpa using hc, by simp [AV.csize]⟩
  · exact gen h
/-- A new array: what was there, what is added, and room. -/
theorem grow_run {c : Call} {t e : TypeId} {u : TypeDesc} (ht : c.argTypes[0]? = some t) (hu : P.underlying t = some (.slice e)) {t' : TypeId} (ht' : c.argTypes[1]? = some t') (hu' : P.underlying t' = some u) (hni : ∀ k, u ≠ .int k) {s b : Nat} (hs : sizeT P e = some s) (hb : bytesT P e = some b) (hb0 : 0 < b) {z : AV} (hz : zeroT P e = some z) (hzs : (aggBlock z).csize = s)
    {base : Option Addr} {len cap n : Nat} {X : Value} {ty : TypeId} {D C : Array Value} (hlen : (Builtin.lenOf X).run P w = .ok n w) (hD : (Builtin.firstCells s len (.slice base len cap)).run P w.drew = .ok D w.drew) (hC : (Builtin.firstCells s n X).run P w.drew = .ok C w.drew) (hDs : D.size = len * s) (hCs : C.size = n * s) (hroom : roomA (len + n) s b = true) (hgrow : cap < len + n) :
    ∃ (cap' : Nat) (A : Array Value), len + n ≤ cap' ∧ A.size = cap' * s ∧ A.toList.take ((len + n) * s) = D.toList ++ C.toList ∧ (Builtin.append_ c.argTypes ty #[.slice base len cap, X]).run P w = .ok (.slice (some ⟨w.heap.size, 0, none⟩) (len + n) cap') (w.drew.alloc (.cells A e)) := by
  obtain ⟨i, V, hi, hV, hr, hk⟩ := zeroT_rel (f := noF) hz
  obtain ⟨i', hi', rfl⟩ := sizeT_spec hs
  obtain rfl : i = i' := by rw [hi] at hi'; exact Option.some.inj hi'
  obtain ⟨i'', hi'', rfl⟩ := bytesT_spec hb
  obtain rfl : i = i'' := by rw [hi] at hi''; exact Option.some.inj hi''
  obtain ⟨_, _, k3⟩ := aggBlock_rel hr hk
  have hVs : V.cells.size = i.size := by rw [← k3, hzs]
  have hpos : 0 < len + n := by omega
  have hcapb := room_spec hroom hpos (nextcap_le hgrow)
  let cap' := len + n + (w.tape w.drawn (.appendCap (len + n) cap e)) % (2 ^ 63 - (len + n))
  refine ⟨cap', D ++ C ++ Builtin.zeroCells V.cells (cap' - (len + n)), Nat.le_add_right _ _, ?_, ?_, ?_⟩
  · simp only [Array.size_append, hDs, hCs, size_zeroCells, hVs]
    rw [← Nat.add_mul, ← Nat.add_mul]
    congr 1
    show len + n + (cap' - (len + n)) = cap'
    have : len + n ≤ cap' := Nat.le_add_right _ _
    omega
  · rw [Array.toList_append, List.take_append_of_le_length (by simp [hDs, hCs, Nat.add_mul]), Array.toList_append, List.take_of_length_le (by simp [hDs, hCs, Nat.add_mul])]
  · have hzeros : (match u with | .int _ => true | _ => false) = false := by cases u <;> first | rfl | exact absurd rfl (hni _)
    have hask : (choose (.appendCap (len + n) cap e)).run P w = .ok cap' w.drew := by rw [run_choose]; rfl
    have c1 : ¬ (len + n ≤ cap) := by omega
    have c2 : ¬ (((len + n : Nat) : Int) > IntKind.i64.max ∧ ((false : Bool) = true ∨ i.bytes = 0)) := by
      rintro ⟨_, h | h⟩
      · cases h
      · omega
    have c3 : ¬ (Builtin.nextslicecap (len + n) cap * i.bytes > 2 ^ 48) := by omega
    unfold Builtin.append_
    simp only [ht, List.getElem?_toArray, List.getElem?_cons_zero, List.getElem?_cons_succ, Sem.run_bind, run_underlying hu, Result.andThen_ok, run_sizeOf hs, ht', run_underlying hu']
    have ti : ∀ w', (typeInfo e).run P w' = .ok i w' := fun w' => by simp [typeInfo, hi]
    have zv : ∀ w', (zeroValue e).run P w' = .ok V w' := fun w' => run_zeroValue hi hV
    simp only [Sem.run_pure, Result.andThen_ok, Bool.false_eq_true, if_false, Bool.not_false, if_true, Sem.run_bind, hlen]
    rw [if_neg c1]
    simp only [Sem.run_bind, ti, Result.andThen_ok]
    rw [if_neg (by rintro ⟨_, h⟩; simp at h; omega)]
    simp only [Sem.run_bind, ti, Result.andThen_ok]
    rw [if_neg c3]
    simp only [Sem.run_bind, hask, ti, run_askRoom, Result.andThen_ok, hD, hC, zv, newRow, run_newObj, Sem.run_pure]
    rfl
theorem inplace_run {c : Call} {t e : TypeId} {u : TypeDesc} (ht : c.argTypes[0]? = some t) (hu : P.underlying t = some (.slice e)) {t' : TypeId} (ht' : c.argTypes[1]? = some t') (hu' : P.underlying t' = some u) (hni : ∀ k, u ≠ .int k) {s : Nat} (hs : sizeT P e = some s)
    {base : Option Addr} {len cap n : Nat} {X : Value} {ty : TypeId} {C : Array Value} {w' : World} (hlen : (Builtin.lenOf X).run P w = .ok n w) (hC : (Builtin.firstCells s n X).run P w = .ok C w) (hcap : len + n ≤ cap) (hst : ∀ a, base = some a → (storeCells (a.add (len * s)) C.toList).run P w = .ok () w') (hnone : base = none → w' = w) :
    (Builtin.append_ c.argTypes ty #[.slice base len cap, X]).run P w = .ok (.slice base (len + n) cap) w' := by
  unfold Builtin.append_
  simp only [ht, List.getElem?_toArray, List.getElem?_cons_zero, List.getElem?_cons_succ, Sem.run_bind, run_underlying hu, Result.andThen_ok, run_sizeOf hs, ht', run_underlying hu']
  simp only [Sem.run_pure, Result.andThen_ok, Bool.false_eq_true, if_false, Bool.not_false, if_true, Sem.run_bind, hlen]
  rw [if_pos hcap]
  cases base with
  | none => simp only [Sem.run_bind, hC, Result.andThen_ok, Sem.run_pure, hnone rfl]
  | some a => simp only [Sem.run_bind, hC, Result.andThen_ok, hst a rfl, Sem.run_pure]

theorem call_args2 {c : Call} {a b : AV} (hv : VRels f [a, b] (c.args.toList.map ρ)) : ∃ A D, c.args.toList.map ρ = (#[A, D] : Array Value).toList ∧ VRel f a A ∧ VRel f b D := by
  obtain ⟨A, D, h1, h2, h3⟩ := rels2 hv
  exact ⟨A, D, by simpa using h1, h2, h3⟩
/-- What makes a call of 'append' one that the small machine takes. -/
structure AppT (P : Program) (c : Call) (e : TypeId) (s b : Nat) : Prop where
  t : ∃ t, c.argTypes[0]? = some t ∧ P.underlying t = some (.slice e)
  u : ∃ t u, c.argTypes[1]? = some t ∧ P.underlying t = some u ∧ ∀ k, u ≠ .int k
  hs : sizeT P e = some s
  hb : bytesT P e = some b
  s0 : 0 < s
  b0 : 0 < b
  z : ∃ z, zeroT P e = some z ∧ (aggBlock z).csize = s
theorem fine_eff (hm : MRel B f M w) {c : Call} (ho : o.op = .call c) {b : Builtin} (hc : c.callee = .builtin b) {A : Array Value} (hA : c.args.toList.map ρ = A.toList) {V : Value} {w' : World} {f' : FM} (hr : (builtin b c.argTypes o.type (c.args.map fun | .const _ => true | _ => false) A).run P w = .ok (.value V) w') (hp : Sub f f') (hm' : MRel B f' M' w') (hv : VRel f' v V) (hw : Went f M w f' M' w') (hx : f' = f ∨ ∃ x, f' = upd f M.length x) : Fine P ρ o w B f M v M' := by
  have hargs : c.args.map ρ = A := by apply Array.ext'; simpa using hA
  refine ⟨V, w', f', .inl ?_, hp, hm', hv, hw, hx⟩
  simp [execOp, ho, resolve, hc, invoke, hargs]
  exact hr
/-- The slice grows into a new array. -/
theorem fine_grow (hm : MRel B f M w) (hB : B ≤ w.heap.size) {c : Call} (ho : o.op = .call c) (hc : c.callee = .builtin .append) {e : TypeId} {s b : Nat} (hT : AppT P c e s b) {base : Option Addr} {len cap n : Nat} {X : Value} (hA : c.args.toList.map ρ = (#[.slice base len cap, X] : Array Value).toList) {D C : Array Value} {dc cc r : AV}
    (hlen : (Builtin.lenOf X).run P w = .ok n w) (hD : (Builtin.firstCells s len (.slice base len cap)).run P w.drew = .ok D w.drew) (hC : (Builtin.firstCells s n X).run P w.drew = .ok C w.drew) (hroom : roomA (len + n) s b = true) (hgrow : cap < len + n)
    (hDr : VRels f dc.cells D.toList) (hCr : VRels f cc.cells C.toList) (hda : dc.isAgg = true) (hca : cc.isAgg = true) (hds : dc.csize = len * s) (hcs : cc.csize = n * s) (hj : joinD dc cc = some r) (base' : Nat) :
    Fine P ρ o w B f M (.sl M.length 0 base' (len + n) s none) (M ++ [⟨r, .grow, false⟩]) := by
  obtain ⟨t, ht, hu⟩ := hT.t
  obtain ⟨t', u, ht', hu', hni⟩ := hT.u
  obtain ⟨z, hz, hzs⟩ := hT.z
  have hDs : D.size = len * s := by rw [← hds, ← csize_cells, hDr.length, Array.length_toList]
  have hCs : C.size = n * s := by rw [← hcs, ← csize_cells, hCr.length, Array.length_toList]
  obtain ⟨cap', A, g1, g2, g3, g4⟩ := grow_run (P := P) (w := w) (ty := o.type) ht hu ht' hu' hni hT.hs hT.hb hT.b0 hz hzs hlen hD hC hDs hCs hroom hgrow
  obtain ⟨j1, j2, j3⟩ := join_rel hj hDr hCr hda hca
  have hrs : r.csize = (len + n) * s := by rw [j3, hds, hcs, Nat.add_mul]
  obtain ⟨m1, m2⟩ := hm.drew.alloc (d := false) (by exact hB) e (.inr rfl : BK.grow = .own ∨ BK.grow = .grow) j1 (by intro h; cases h) (by rw [hrs, g2]; exact Nat.mul_le_mul_right _ g1) (A := A) (by rw [hrs, g3]; exact j2)
  refine fine_eff hm ho hc hA (V := .slice (some ⟨w.heap.size, 0, none⟩) (len + n) cap') ?_ (upd_sub hm.none) m1 ?_ (Went.drew.trans m2) (.inr ⟨_, rfl⟩)
  · simp only [builtin, Sem.run_bind, g4, Result.andThen_ok, Sem.run_pure]
  · rw [VRel]
    have hc' : cap' ≠ 0 := by omega
    exact ⟨_, cap', new_get hm _, hT.s0, by simp [g2], g1, by rw [if_neg hc']; rfl⟩
theorem firstCells_nil (s n : Nat) (w : World) : (Builtin.firstCells s n (.slice none 0 0)).run P w = .ok #[] w := by simp [Builtin.firstCells]
theorem sub_agg {c v : AV} {off n : Nat} (h : c.sub off n none = some v) : off + n ≤ c.csize ∧ v.isAgg = true ∧ v.csize = n ∧ v.cells = (c.cells.drop off).take n := by
  induction c using AV.cellInd generalizing off with
  | «at» o c ih =>
    simp only [AV.sub] at h
    cases ho : Nat.ble o off with
    | false => rw [ho] at h; cases h
    | true =>
      rw [ho, cond_true] at h
      have ho : o ≤ off := by simpa using ho
      obtain ⟨h1, h2, h3, h5⟩ := ih h
      refine ⟨by simp only [AV.csize]; omega, h2, h3, ?_⟩
      rw [h5]
      simp only [AV.cells]
      rw [List.drop_append, List.drop_of_length_le (l := List.replicate o AV.junk) (by simpa using ho), List.nil_append, List.length_replicate]
  | nums k l =>
    simp only [AV.sub] at h
    split at h
    · rename_i hl
      simp only [Option.some.injEq] at h; subst h
      have hl : off + n ≤ l.length := by simpa using hl
      exact ⟨by simpa [AV.csize] using hl, rfl, by simp [AV.csize]; omega, by simp [AV.cells, List.map_take, List.map_drop]⟩
    · cases h
  | agg l =>
    simp only [AV.sub] at h
    split at h
    · rename_i hl
      simp only [Option.some.injEq] at h; subst h
      have hl : off + n ≤ l.length := by simpa using hl
      exact ⟨by simpa [AV.csize] using hl, rfl, by simp [AV.csize]; omega, rfl⟩
    · cases h
  | flat l =>
    simp only [AV.sub] at h
    split at h
    · rename_i hl
      simp only [Option.some.injEq] at h; subst h
      have hl : off + n ≤ l.length := by simpa using hl
      exact ⟨by simpa [AV.csize] using hl, rfl, by simp [AV.csize]; omega, by simp [AV.cells, List.map_take, List.map_drop]⟩
    · cases h
  | other c hc => cases c <;> first | (simp [AV.sub] at h; done) | cases hc
/-- The cells of a slice of a living block. -/
theorem slice_run (hm : MRel B f M w) {i off base len s : Nat} {lim : Option Nat} {b : Blk} (hb : liveB M i = some b) {c0 : AV} (hc0 : b.cells.sub off (len * s) none = some c0) {V : Value} (hV : VRel f (.sl i off base len s lim) V) :
    ∃ a cap D, V = .slice (some a) len cap ∧ (Builtin.firstCells s len V).run P w = .ok D w ∧ VRels f c0.cells D.toList ∧ c0.isAgg = true ∧ c0.csize = len * s := by
  obtain ⟨y, A, t, fz, hi, hy, hw, hsz, ha, hown, hle, hcs, hfz, hdd⟩ := hm.live hb
  rw [VRel] at hV
  obtain ⟨z, cap, hz, h0, hcap, hlc, rfl⟩ := hV
  obtain rfl : y = z := by rw [hy] at hz; exact Option.some.inj hz
  obtain ⟨hle2, g1, g2, hvU, g5⟩ := sub_rel (f := f) hc0 hcs
  rw [take_drop_le _ _ _ _ hle2] at hvU
  have hvc := hvU.cells (.inl g1)
  refine ⟨_, cap, ((A.toList.drop off).take (len * s)).toArray, rfl, ?_, by simpa [Value.cells] using hvc, g1, g2⟩
  simp only [Builtin.firstCells]
  by_cases hn0 : len = 0
  · subst hn0; simp [loadCells, loadCellsFrom]
  · rw [if_neg (by omega), run_loadCells_mid (P := P) hw off (len * s) (by omega)]
theorem fine_append (hm : MRel B f M w) (hB : B ≤ w.heap.size) {c : Call} (ho : o.op = .call c) (hc : c.callee = .builtin .append) {e : TypeId} {s b : Nat} (hT : AppT P c e s b) {d x : AV} {ft : Foot} (hv : VRels f [d, x] (c.args.toList.map ρ)) (h : appendA s b M d x = some (v, M', ft)) : Fine P ρ o w B f M v M' := by
  obtain ⟨D, X, hA, hD, hX⟩ := call_args2 hv
  obtain ⟨t, ht, hu⟩ := hT.t
  obtain ⟨t', u, ht', hu', hni⟩ := hT.u
  unfold appendA at h
  split at h
  · cases h
  rename_i n hn
  split at h
  · cases h
  rename_i cc rs hsrc
  have hlen := len_rel (P := P) (w := w) hn hX
  obtain ⟨C, c1, c2, c3, c4⟩ := src_run (P := P) hsrc hm hX hT.s0
  obtain ⟨C', d1, _, d3, _⟩ := src_run (P := P) hsrc hm.drew hX hT.s0
  split at h
  · -- nil
    rw [VRel] at hD; subst hD
    cases hn0 : Nat.beq n 0 with
    | true =>
      simp only [hn0, cond_true, made, Option.some.injEq, Prod.mk.injEq] at h
      obtain ⟨rfl, rfl, _⟩ := h
      obtain rfl := Nat.eq_of_beq_eq_true hn0
      refine fine_builtin hm ho hc hA (V := .slice none 0 0) ?_ (by rw [VRel])
      simp only [builtin, Sem.run_bind, inplace_run (P := P) (w := w) (w' := w) (ty := o.type) ht hu ht' hu' hni hT.hs (base := none) (len := 0) (cap := 0) hlen c1 (by omega) (by intro a h; cases h) (fun _ => rfl), Result.andThen_ok, Sem.run_pure]
    | false =>
      simp only [hn0, cond_false] at h
      cases hr : roomA n s b with
      | false => simp [hr] at h
      | true =>
        simp only [hr, cond_true, Option.some.injEq, Prod.mk.injEq] at h
        obtain ⟨rfl, rfl, _⟩ := h
        have hn0 : n ≠ 0 := fun h => by subst h; cases hn0
        have := fine_grow hm hB ho hc hT hA hlen (firstCells_nil s 0 _) d1 (by simpa using hr) (by omega) (dc := .agg []) (cc := cc) (r := cc) (by simp [AV.cells, VRels]) d3 rfl c2 (by simp [AV.csize]) c4 (by unfold joinD; cases cc with | agg l => cases l <;> rfl | _ => rfl) 0
        simpa using this
  · rename_i i off base len e' lim
    cases hq : (Nat.beq e' s && roomA (len + n) s b) with
    | false => simp [hq] at h
    | true =>
      simp only [hq, cond_true] at h
      simp only [Bool.and_eq_true] at hq
      obtain ⟨hq1, hroom⟩ := hq
      obtain rfl := Nat.eq_of_beq_eq_true hq1
      have inpl : inplA e' n i off base len lim M cc = some (v, M', ft) → Fine P ρ o w B f M v M' := by
        intro h
        unfold inplA at h
        have hD' := hD
        rw [VRel] at hD'
        obtain ⟨z, cap, hz, h0, hcap, hlc, hDe⟩ := hD'
        cases hn0 : Nat.beq n 0 with
        | true =>
          simp only [hn0, cond_true, made, Option.some.injEq, Prod.mk.injEq] at h
          obtain ⟨rfl, rfl, _⟩ := h
          obtain rfl := Nat.eq_of_beq_eq_true hn0
          have hC0 : C = #[] := by
            have := c3.length
            rw [csize_cells, c4] at this
            apply Array.ext'
            rw [← List.length_eq_zero_iff]; omega
          rw [hDe] at hA
          refine fine_builtin hm ho hc hA (V := D) ?_ hD
          rw [hDe]
          simp only [builtin, Sem.run_bind, inplace_run (P := P) (w := w) (w' := w) (ty := o.type) (base := some ⟨z.1, if cap = 0 then base else off, none⟩) (len := len) (cap := cap) ht hu ht' hu' hni hT.hs hlen c1 (by omega) (fun a _ => by rw [hC0]; exact Sem.run_pure P w ()) (fun h => by cases h), Result.andThen_ok, Sem.run_pure, Nat.add_zero]
        | false =>
          simp only [hn0, cond_false] at h
          have hn0 : n ≠ 0 := fun h => by subst h; cases hn0
          split at h
          case h_2 => cases h
          rename_i bk hbk
          cases hq : Nat.ble (off + (len + n) * e') (lim.getD bk.cells.csize) with
          | false => rw [hq] at h; cases h
          | true =>
          rw [hq, cond_true] at h
          have hq : off + (len + n) * e' ≤ lim.getD bk.cells.csize := by simpa using hq
          split at h
          case h_2 => cases h
          rename_i c' hc'
          simp only [Option.some.injEq, Prod.mk.injEq] at h
          obtain ⟨rfl, rfl, _⟩ := h
          obtain ⟨hlb, hmine⟩ := own_live hbk
          obtain ⟨y, A, t0, fz, hi, hy, hw, hsz, ha, hown, hle, hcs, hfz, hdd⟩ := hm.live hlb
          obtain rfl : y = z := by rw [hy] at hz; exact Option.some.inj hz
          have hle2 : lim.getD bk.cells.csize ≤ lim.getD y.2 := by cases lim <;> simp [hle]
          have hcap2 : len + n ≤ cap := by
            have : (len + n) * e' ≤ cap * e' := by omega
            exact Nat.le_of_mul_le_mul_right this h0
          have hCV : VRel f cc (.agg C) := agg_of_cells c2 c3
          obtain ⟨w', r1, r2, r3⟩ := run_store_part (P := P) hm hbk hc' hz hCV
          rw [hDe] at hA
          refine fine_eff hm ho hc hA (V := .slice (some ⟨y.1, if cap = 0 then base else off, none⟩) (len + n) cap) ?_ (Sub.refl _) r2 ?_ r3 (.inl rfl)
          · have hst : ∀ a, (some (⟨y.1, if cap = 0 then base else off, none⟩ : Addr)) = some a → (storeCells (a.add (len * e')) C.toList).run P w = .ok () w' := by
              intro a ha'
              obtain rfl := Option.some.inj ha'
              rw [if_neg (by omega), addr_add]
              simpa only [Value.cells] using r1
            simp only [builtin, Sem.run_bind, inplace_run (P := P) (w := w) (w' := w') (ty := o.type) ht hu ht' hu' hni hT.hs hlen c1 hcap2 hst (fun h => by cases h), Result.andThen_ok, Sem.run_pure]
          · rw [VRel]
            exact ⟨y, cap, hy, h0, hcap, hcap2, rfl⟩
      -- a slice whose room is known to be used up
      have full : ∀ (bk : Blk) (r : AV), liveB M i = some bk → (∀ z, f i = some z → lim.getD z.2 = off + len * e') →
          (bif Nat.beq n 0 then made (.sl i off base len e' lim) M else
            (match bk.cells.sub off (len * e') none with
            | some c0 => match joinD c0 cc with
              | some c' => some (.sl M.length 0 0 (len + n) e' none, M ++ [⟨c', .grow, false⟩], (⟨[i], [], true, false⟩ : Foot))
              | none => none
            | none => none)) = some (v, M', ft) → Fine P ρ o w B f M v M' := by
        intro bk _ hbk hfull h
        have hD' := hD
        rw [VRel] at hD'
        obtain ⟨z, cap, hz, h0, hcap, hlc, hDe⟩ := hD'
        have hcl : cap = len := by
          have := hfull z hz
          rw [this] at hcap
          exact Nat.eq_of_mul_eq_mul_right h0 (Nat.add_left_cancel hcap)
        cases hn0 : Nat.beq n 0 with
        | true =>
          simp only [hn0, cond_true, made, Option.some.injEq, Prod.mk.injEq] at h
          obtain ⟨rfl, rfl, _⟩ := h
          obtain rfl := Nat.eq_of_beq_eq_true hn0
          have hC0 : C = #[] := by
            have := c3.length
            rw [csize_cells, c4] at this
            apply Array.ext'
            rw [← List.length_eq_zero_iff]; omega
          rw [hDe] at hA
          refine fine_builtin hm ho hc hA (V := D) ?_ hD
          rw [hDe]
          simp only [builtin, Sem.run_bind, inplace_run (P := P) (w := w) (w' := w) (ty := o.type) (base := some ⟨z.1, if cap = 0 then base else off, none⟩) (len := len) (cap := cap) ht hu ht' hu' hni hT.hs hlen c1 (by omega) (fun a _ => by rw [hC0]; exact Sem.run_pure P w ()) (fun h => by cases h), Result.andThen_ok, Sem.run_pure, Nat.add_zero]
        | false =>
          simp only [hn0, cond_false] at h
          have hn0 : n ≠ 0 := fun h => by subst h; cases hn0
          split at h
          · rename_i c0 hc0
            split at h
            · rename_i r hr
              simp only [Option.some.injEq, Prod.mk.injEq] at h
              obtain ⟨rfl, rfl, _⟩ := h
              obtain ⟨a, cap2, D2, e1, e2, e3, e4, e5⟩ := slice_run (P := P) hm.drew hbk hc0 hD
              rw [hDe] at e1
              injection e1 with e1 e1' e1''
              subst e1''
              rw [hDe] at e2 hA
              exact fine_grow hm hB ho hc hT hA hlen e2 d1 hroom (by omega) e3 d3 e4 c2 e5 c4 hr 0
            · cases h
          · cases h
      cases lim with
      | none =>
        split at h
        case h_2 => simp at *
        case h_3 => cases h
        rename_i bk hbk _
        obtain ⟨y, A, t0, fz, hi, hy, hw, hsz, ha, hown, hle, hcs, hfz, hdd⟩ := hm.live hbk
        split at h
        · -- grown
          rename_i hk
          cases hq : (Nat.beq off 0 && Nat.beq (len * e') bk.cells.csize && (bk.cells.isAgg && cc.plain)) with
          | false => rw [hq, cond_false] at h; exact inpl h
          | true =>
            simp only [hq, cond_true] at h
            simp only [Bool.and_eq_true] at hq
            obtain ⟨⟨q1, q2⟩, qa, q3⟩ := hq
            obtain rfl := Nat.eq_of_beq_eq_true q1
            have q2 := Nat.eq_of_beq_eq_true q2
            split at h
            · rename_i r hr
              simp only [Option.some.injEq, Prod.mk.injEq] at h
              obtain ⟨rfl, rfl, _⟩ := h
              have hmine : bk.kind.mine = true := by rw [hk]; rfl
              have hD' := hD
              rw [VRel] at hD'
              obtain ⟨z, cap, hz, h0, hcap, hlc, hDe⟩ := hD'
              obtain rfl : y = z := by rw [hy] at hz; exact Option.some.inj hz
              simp only [Option.getD_none, Nat.zero_add] at hcap
              rw [hDe] at hA
              by_cases hgrow : cap < len + n
              · -- a new array
                have hcells : bk.cells.sub 0 (len * e') none = some bk.cells := by
                  rw [q2]
                  cases hb : bk.cells with
                  | agg l => simp [AV.sub, AV.csize]
                  | nums k l => simp [AV.sub, AV.csize]
                  | flat l => simp [AV.sub, AV.csize]
                  | _ => rw [hb] at qa; cases qa
                obtain ⟨k1, k2⟩ := hm.kill i
                obtain ⟨a, cap2, D2, e1, e2, e3, e4, e5⟩ := slice_run (P := P) hm.drew hbk hcells hD
                rw [hDe] at e1
                injection e1 with e1 e1' e1''
                subst e1''
                rw [hDe] at e2
                obtain ⟨V, w', f', g1, g2, g3, g4, g5, g6⟩ := fine_grow (o := o) (ρ := ρ) k1 hB ho hc hT hA hlen e2 d1 hroom hgrow e3 d3 e4 c2 e5 c4 hr base
                simp only [List.length_set] at g3 g4 g5 g6
                exact ⟨V, w', f', g1, g2, g3, g4, k2.trans g5, g6⟩
              · -- in place
                have hcap2 : len + n ≤ cap := by omega
                obtain ⟨j1, j2, j3⟩ := join_rel hr hcs c3 qa c2
                have hone : ∀ U ∈ C.toList, U.oneCell' = true := by
                  intro U hU
                  obtain ⟨j, hj⟩ := List.getElem?_of_mem hU
                  have hl := c3.length
                  obtain ⟨u', hu''⟩ : ∃ u', cc.cells[j]? = some u' := ⟨cc.cells[j]'(by rw [hl]; exact lt_of_get hj), by simp⟩
                  obtain ⟨U', hU', hr'⟩ := c3.get j hu''
                  rw [hj] at hU'
                  obtain rfl := Option.some.inj hU'
                  exact (hr'.one (plain_one q3 j u' hu'')).1
                have hCl : C.toList.length = n * e' := by rw [← c3.length, csize_cells, c4]
                have htot : len * e' + n * e' ≤ y.2 := by rw [← Nat.add_mul, ← hcap]; exact Nat.mul_le_mul_right _ hcap2
                obtain ⟨w', A', r1, r2, r3, r4, r5, r6, r7, r8⟩ := run_storeCells (P := P) (len * e') C.toList 0 w A hw (by rw [hCl, hsz, Nat.add_zero]; exact htot) hone (fun o' ho' => (hfz hmine).out o' (by omega))
                rw [Nat.add_zero, setL_mid _ _ _ (by rw [hCl, Array.length_toList, hsz]; exact htot), hCl] at r3
                have hA'l : A'.size = y.2 := by
                  rw [← Array.length_toList, r3]
                  simp only [List.length_append, List.length_take, List.length_drop, hCl, Array.length_toList, hsz]; omega
                have hrs : r.csize = (len + n) * e' := by rw [j3, ← q2, c4, Nat.add_mul]
                obtain ⟨s1, s2⟩ := hm.store (c := r) (kd := bk.kind) hi hy hmine rfl j1 (by rw [hk]; intro h; cases h) (by rw [hrs, Nat.add_mul]; exact htot) r2 hA'l (by
                  rw [r3, hrs, Nat.add_mul, ← List.append_assoc, List.take_append_of_le_length (by simp only [List.length_append, List.length_take, hCl, Array.length_toList, hsz]; omega), List.take_of_length_le (by simp only [List.length_append, List.length_take, hCl]; omega)]
                  rw [q2]; exact j2) (hfz hmine) r4 r5 r6 r7 r8
                obtain ⟨t1, t2⟩ := s1.shift (d := false) (i := i) (b := ⟨r, bk.kind, true⟩) (by rw [List.getElem?_set_self (lt_of_get hi)]) hy hmine
                simp only [List.set_set, hk, List.length_set] at t1 t2
                refine fine_eff hm ho hc hA (V := .slice (some ⟨y.1, if cap = 0 then base else 0, none⟩) (len + n) cap) ?_ (upd_sub hm.none) t1 ?_ ((by simpa only [hk] using s2 : Went f M w f (M.set i ⟨r, .grow, true⟩) w').trans t2) (.inr ⟨_, rfl⟩)
                · have hst : ∀ a, (some (⟨y.1, if cap = 0 then base else 0, none⟩ : Addr)) = some a → (storeCells (a.add (len * e')) C.toList).run P w = .ok () w' := by
                    intro a ha'
                    obtain rfl := Option.some.inj ha'
                    by_cases hc0 : cap = 0
                    · have hn0 : n = 0 := by omega
                      have hC0 : C.toList = [] := List.length_eq_zero_iff.1 (by rw [hCl, hn0]; simp)
                      rw [hC0] at r1 ⊢
                      simpa [storeCells] using r1
                    · rw [if_neg hc0, addr_add, Nat.zero_add]
                      exact r1
                  simp only [builtin, Sem.run_bind, inplace_run (P := P) (w := w) (w' := w') (ty := o.type) ht hu ht' hu' hni hT.hs hlen c1 hcap2 hst (fun h => by cases h), Result.andThen_ok, Sem.run_pure]
                · rw [VRel]
                  exact ⟨y, cap, new_get hm _, h0, by simpa using hcap, hcap2, rfl⟩
            · cases h
        · -- exact
          rename_i hk
          cases hq : Nat.beq (off + len * e') bk.cells.csize with
          | false => rw [hq, cond_false] at h; exact inpl h
          | true =>
            simp only [hq, cond_true] at h
            refine full bk .junk hbk (fun z hz => ?_) h
            have := Nat.eq_of_beq_eq_true hq
            rw [hy] at hz
            obtain rfl := Option.some.inj hz
            rw [this, hown hk]; rfl
        · cases h
      | some l =>
        split at h
        case h_1 => simp at *
        case h_3 => cases h
        rename_i bk l' hbk hl'
        obtain rfl := Option.some.inj hl'
        cases hq : Nat.beq (off + len * e') l with
        | false => rw [hq, cond_false] at h; exact inpl h
        | true =>
          simp only [hq, cond_true] at h
          refine full bk .junk hbk (fun z hz => ?_) h
          rw [Nat.eq_of_beq_eq_true hq]; rfl
  · cases h
end
end Go.Proofs.Ytnfglcfjjemjmaa
