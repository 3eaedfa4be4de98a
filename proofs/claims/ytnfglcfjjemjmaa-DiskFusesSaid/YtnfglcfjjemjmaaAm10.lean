/- Each operation of the small machine stands for what the program's operation does: all but the calls of the program's own functions. No condition. -/
import Derived.Test.YtnfglcfjjemjmaaAm9
namespace Go.Proofs.Ytnfglcfjjemjmaa
open Go Go.RowKit

def Prim.isCall : Prim → Bool
  | .callf _ | .callv => true
  | _ => false
section
variable {P : Program} {B : Nat} {f : FM} {M M' : Mem} {w : World} {ρ : Operand → Value} {o : Oper} {v : AV} {C : Orc}

theorem quiet_eq {v' : AV} {ft : Foot} (h : quiet v' M = some (v, M', ft)) : v = v' ∧ M' = M := by
  simp only [quiet, Option.some.injEq, Prod.mk.injEq] at h
  exact ⟨h.1.symm, h.2.1.symm⟩
theorem made_eq {v' : AV} {M1 : Mem} {ft : Foot} (h : made v' M1 = some (v, M', ft)) : v = v' ∧ M' = M1 := by
  simp only [made, Option.some.injEq, Prod.mk.injEq] at h
  exact ⟨h.1.symm, h.2.1.symm⟩
theorem newB_eq {v' c : AV} {k : BK} {ft : Foot} (h : newB v' M c k = some (v, M', ft)) : v = v' ∧ M' = M ++ [⟨c, k, false⟩] := by
  simp only [newB, Option.some.injEq, Prod.mk.injEq] at h
  exact ⟨h.1.symm, h.2.1.symm⟩
theorem nil_rels {vs : List AV} (h : VRels f vs []) : vs = [] := by
  cases vs with
  | nil => rfl
  | cons v l => rw [VRels] at h; obtain ⟨_, _, h, _⟩ := h; cases h
theorem one_rels {vs : List AV} {X : Value} (h : VRels f vs [X]) : ∃ x, vs = [x] ∧ VRel f x X := by
  cases vs with
  | nil => rw [VRels] at h; cases h
  | cons v l =>
    rw [VRels] at h
    obtain ⟨V, r, h1, h2, h3⟩ := h
    obtain ⟨rfl, rfl⟩ := List.cons.inj h1
    obtain rfl := nil_rels h3
    exact ⟨v, rfl, h2⟩
theorem two_rels {vs : List AV} {X Y : Value} (h : VRels f vs [X, Y]) : ∃ x y, vs = [x, y] ∧ VRel f x X ∧ VRel f y Y := by
  cases vs with
  | nil => rw [VRels] at h; cases h
  | cons v l =>
    rw [VRels] at h
    obtain ⟨V, r, h1, h2, h3⟩ := h
    obtain ⟨rfl, rfl⟩ := List.cons.inj h1
    obtain ⟨y, rfl, h4⟩ := one_rels h3
    exact ⟨v, y, rfl, h2, h4⟩
theorem three_rels {vs : List AV} {X Y Z : Value} (h : VRels f vs [X, Y, Z]) : ∃ x y z, vs = [x, y, z] ∧ VRel f x X ∧ VRel f y Y ∧ VRel f z Z := by
  cases vs with
  | nil => rw [VRels] at h; cases h
  | cons v l =>
    rw [VRels] at h
    obtain ⟨V, r, h1, h2, h3⟩ := h
    obtain ⟨rfl, rfl⟩ := List.cons.inj h1
    obtain ⟨y, z, rfl, h4, h5⟩ := two_rels h3
    exact ⟨v, y, z, rfl, h2, h4, h5⟩
theorem beq_true {a b : Nat} (h : Nat.beq a b = true) : a = b := Nat.eq_of_beq_eq_true h
theorem blt_true {a b : Nat} (h : Nat.blt a b = true) : a < b := by simpa using h
theorem ble_true {a b : Nat} (h : Nat.ble a b = true) : a ≤ b := by simpa using h

theorem ext_fine (hm : MRel B f M w) {c : Call} (ho : o.op = .call c) (hρ : ∀ g, ρ (.func g) = .func (.func g) #[] #[]) {g : FuncId} (hcal : c.callee = .value (.func g)) {fn : Func} (hfn : P.funcs[g]? = some fn) (hbody : fn.body = none) {E : Array Value → Sem Value} (h1 : Extern.findNext fn = none) (h2 : Extern.find fn = some E) (h3 : fn.name ≠ "runtime.NumGoroutine")
    {k1 k2 k3 : IntKind} {x y cc : Int} {V : Value} (hv : VRels f [.int k1 x, .int k2 y, .int k3 cc] (c.args.toList.map ρ)) (h5 : (E #[.int k1 x, .int k2 y, .int k3 cc]).run P w = .ok V w) (h6 : VRel f v V) : Fine P ρ o w B f M v M := by
  obtain ⟨X, Y, Z, e1, e2, e3, e4⟩ := rels3 hv
  rw [VRel] at e2
  rw [VRel] at e3
  rw [VRel] at e4
  have hargs : c.args.map ρ = #[.int k1 x, .int k2 y, .int k3 cc] := by apply Array.ext'; simp only [Array.toList_map]; rw [e1, e2, e3, e4]
  refine Fine.same hm (V := V) ?_ h6
  simp only [execOp, ho, resolve, hcal, hargs, hρ, Deferred.ofValue, pure_bind, invoke]
  simp only [Array.empty_append, Array.append_empty]
  rw [run_callFunc_extern hfn (by simpa using h3) (by simp [hbody]) h1 h2, h5]
  rfl
theorem ext_fine1 (hm : MRel B f M w) {c : Call} (ho : o.op = .call c) (hρ : ∀ g, ρ (.func g) = .func (.func g) #[] #[]) {g : FuncId} (hcal : c.callee = .value (.func g)) {fn : Func} (hfn : P.funcs[g]? = some fn) (hbody : fn.body = none) {E : Array Value → Sem Value} (h1 : Extern.findNext fn = none) (h2 : Extern.find fn = some E) (h3 : fn.name ≠ "runtime.NumGoroutine")
    {u : AV} {U V : Value} (hu : ∀ X, VRel f u X → X = U) (hv : VRels f [u] (c.args.toList.map ρ)) (h5 : (E #[U]).run P w = .ok V w) (h6 : VRel f v V) : Fine P ρ o w B f M v M := by
  obtain ⟨X, e1, e2⟩ := rels1 hv
  obtain rfl := hu X e2
  have hargs : c.args.map ρ = #[X] := by apply Array.ext'; simp only [Array.toList_map]; rw [e1]
  refine Fine.same hm (V := V) ?_ h6
  simp only [execOp, ho, resolve, hcal, hargs, hρ, Deferred.ofValue, pure_bind, invoke]
  simp only [Array.empty_append, Array.append_empty]
  rw [run_callFunc_extern hfn (by simpa using h3) (by simp [hbody]) h1 h2, h5]
  rfl
theorem call_fine (hm : MRel B f M w) (hB : B ≤ w.heap.size) {c : Call} (ho : o.op = .call c) (hρ : ∀ g, ρ (.func g) = .func (.func g) #[] #[]) {p : Prim} {xs : List Operand} (hc : compCall P c = some (p, xs)) (hp : p.isCall = false) {vs : List AV} (hv : VRels f vs (xs.map ρ)) {ft : Foot} (h : psem C p vs M = some (v, M', ft)) : Fine P ρ o w B f M v M' := by
  unfold compCall at hc
  split at hc
  case h_1 g hcal =>
    split at hc
    case h_2 => cases hc
    rename_i fn hfn
    split at hc
    · rename_i body hbody
      simp only [Option.some.injEq, Prod.mk.injEq] at hc
      obtain ⟨rfl, _⟩ := hc
      cases hp
    · rename_i hbody
      split at hc
      case h_2 =>
        split at hc
        case isFalse => cases hc
        rename_i horig
        split at hc
        case isFalse => cases hc
        rename_i hname
        split at hc
        case h_2 => cases hc
        rename_i t ht
        split at hc
        case h_2 => cases hc
        rename_i e hu
        simp only [Option.some.injEq, Prod.mk.injEq] at hc
        obtain ⟨rfl, rfl⟩ := hc
        simp only [psem] at h
        split at h
        case h_2 => cases h
        split at h
        case h_2 => cases h
        rename_i n hn
        simp only [Option.some.injEq, Prod.mk.injEq] at h
        obtain ⟨rfl, rfl, _⟩ := h
        obtain ⟨rfl, hn2⟩ := inB_spec hn
        exact fine_mknz hm hB ho hρ hcal hfn hbody hname horig ht hu hn2 hv
      rename_i p' hp'
      simp only [Option.some.injEq, Prod.mk.injEq] at hc
      obtain ⟨rfl, rfl⟩ := hc
      split at hp'
      case isFalse => cases hp'
      rename_i horig
      unfold externOf at hp'
      split at hp'
      · rename_i hname
        simp only [Option.some.injEq] at hp'
        subst hp'
        obtain ⟨e1, e2⟩ := ext_add hname horig
        simp only [psem] at h
        split at h
        case h_2 => cases h
        rename_i k1 x k2 y k3 cc
        cases hq : Nat.ble cc.toNat 1 with
        | false => simp [hq] at h
        | true =>
          simp only [hq, cond_true] at h
          obtain ⟨rfl, rfl⟩ := quiet_eq h
          exact ext_fine hm ho hρ hcal hfn hbody e1 e2 (by rw [hname]; decide) hv (run_add_any k1 k2 k3 x y cc (ble_true hq)) (by rw [VRel]; exact ⟨_, rfl, by simp [VRels, VRel]⟩)
      · split at hp'
        · rename_i hname
          simp only [Option.some.injEq] at hp'
          subst hp'
          obtain ⟨e1, e2⟩ := ext_sub hname horig
          simp only [psem] at h
          split at h
          case h_2 => cases h
          rename_i k1 x k2 y k3 cc
          cases hq : Nat.ble cc.toNat 1 with
          | false => simp [hq] at h
          | true =>
            simp only [hq, cond_true] at h
            obtain ⟨rfl, rfl⟩ := quiet_eq h
            exact ext_fine hm ho hρ hcal hfn hbody e1 e2 (by rw [hname]; decide) hv (run_sub_any k1 k2 k3 x y cc (ble_true hq)) (by rw [VRel]; exact ⟨_, rfl, VRels.cons (by rw [VRel]) (VRels.cons (by rw [VRel]) VRels.nil)⟩)
        · split at hp'
          · rename_i hname
            simp only [Option.some.injEq] at hp'
            subst hp'
            obtain ⟨e1, e2⟩ := ext_sqrt hname horig
            simp only [psem] at h
            split at h
            case h_4 => cases h
            · split at h
              case h_2 => cases h
              rename_i r hr
              obtain ⟨rfl, rfl⟩ := quiet_eq h
              exact ext_fine1 hm ho hρ hcal hfn hbody e1 e2 (by rw [hname]; decide) (fun X hX => by rw [VRel] at hX; exact hX) hv (run_sqrt hr) (by rw [VRel])
            · rename_i he; cases he
            · rename_i he; cases he
          · split at hp'
            · rename_i hname
              simp only [Option.some.injEq] at hp'
              subst hp'
              obtain ⟨e1, e2⟩ := ext_f2b hname horig
              simp only [psem] at h
              split at h
              case h_4 => cases h
              · rename_i he; cases he
              · obtain ⟨rfl, rfl⟩ := quiet_eq h
                exact ext_fine1 hm ho hρ hcal hfn hbody e1 e2 (by rw [hname]; decide) (fun X hX => by rw [VRel] at hX; exact hX) hv rfl (by rw [VRel])
              · rename_i he; cases he
            · split at hp'
              · rename_i hname
                simp only [Option.some.injEq] at hp'
                subst hp'
                obtain ⟨e1, e2⟩ := ext_b2f hname horig
                simp only [psem] at h
                split at h
                case h_4 => cases h
                · rename_i he; cases he
                · rename_i he; cases he
                · obtain ⟨rfl, rfl⟩ := quiet_eq h
                  exact ext_fine1 hm ho hρ hcal hfn hbody e1 e2 (by rw [hname]; decide) (fun X hX => by rw [VRel] at hX; exact hX) hv rfl (by rw [VRel])
              · cases hp'
  case h_2 => 
    simp only [Option.some.injEq, Prod.mk.injEq] at hc
    obtain ⟨rfl, _⟩ := hc
    cases hp
  case h_3 hcal =>
    split at hc
    case h_2 => cases hc
    rename_i t ht
    split at hc
    · rename_i n e hu
      simp only [Option.some.injEq, Prod.mk.injEq] at hc
      obtain ⟨rfl, rfl⟩ := hc
      simp only [psem] at h
      split at h
      case h_2 => cases h
      obtain ⟨rfl, rfl⟩ := quiet_eq h
      exact fine_lenC hm ho hcal ht hu hv
    · rename_i hu
      simp only [Option.some.injEq, Prod.mk.injEq] at hc
      obtain ⟨rfl, rfl⟩ := hc
      simp only [psem] at h
      split at h
      case h_2 => cases h
      obtain ⟨rfl, rfl⟩ := quiet_eq h
      exact fine_lenStr hm ho hcal ht hu hv
    · rename_i e hu
      simp only [Option.some.injEq, Prod.mk.injEq] at hc
      obtain ⟨rfl, rfl⟩ := hc
      simp only [psem] at h
      split at h
      case h_3 => cases h
      · obtain ⟨rfl, rfl⟩ := quiet_eq h
        exact fine_lenSl hm ho hcal ht hu hv
      · obtain ⟨rfl, rfl⟩ := quiet_eq h
        exact fine_lenNil hm ho hcal ht hu hv
    · cases hc
  case h_4 hcal =>
    split at hc
    case h_2 => cases hc
    rename_i t u ht hu
    split at hc
    case h_1 => cases hc
    case h_3 => cases hc
    rename_i e d hni hte hud
    split at hc
    case h_2 => cases hc
    rename_i s b z hs hb hz
    cases hq : (Nat.blt 0 s && Nat.blt 0 b && Nat.beq c.args.size 2 && Nat.beq (aggBlock z).csize s) with
    | false => simp [hq] at hc
    | true =>
      simp only [hq, cond_true, Option.some.injEq, Prod.mk.injEq] at hc
      obtain ⟨rfl, rfl⟩ := hc
      simp only [Bool.and_eq_true] at hq
      simp only [psem] at h
      split at h
      case h_2 => cases h
      exact fine_append hm hB ho hcal ⟨⟨t, ht, hte⟩, ⟨u, d, hu, hud, fun k hk => hni k hk⟩, hs, hb, blt_true hq.1.1.1, blt_true hq.1.1.2, ⟨z, hz, beq_true hq.2⟩⟩ hv h
  case h_5 hcal =>
    split at hc
    case h_2 => cases hc
    rename_i t ht
    split at hc
    case h_2 => cases hc
    rename_i e hte
    split at hc
    case h_2 => cases hc
    rename_i s hs
    cases hq : (Nat.blt 0 s && Nat.beq c.args.size 2) with
    | false => simp [hq] at hc
    | true =>
      simp only [hq, cond_true, Option.some.injEq, Prod.mk.injEq] at hc
      obtain ⟨rfl, rfl⟩ := hc
      simp only [Bool.and_eq_true] at hq
      simp only [psem] at h
      split at h
      case h_2 => cases h
      exact fine_copy hm ho hcal ht hte hs (blt_true hq.1) hv h
  case h_6 hcal =>
    simp only [Option.some.injEq, Prod.mk.injEq] at hc
    obtain ⟨rfl, rfl⟩ := hc
    simp only [psem] at h
    split at h
    case h_2 => cases h
    rename_i v' hv'
    obtain ⟨rfl, rfl⟩ := quiet_eq h
    exact fine_min hm ho hcal hv hv'
  case h_7 hcal =>
    simp only [Option.some.injEq, Prod.mk.injEq] at hc
    obtain ⟨rfl, rfl⟩ := hc
    simp only [psem] at h
    split at h
    case h_2 => cases h
    rename_i v' hv'
    obtain ⟨rfl, rfl⟩ := quiet_eq h
    exact fine_max hm ho hcal hv hv'
  case h_8 => cases hc

/-- All but the calls. -/
theorem prim_fine (hm : MRel B f M w) (hB : B ≤ w.heap.size) (hρ : ∀ g, ρ (.func g) = .func (.func g) #[] #[]) {p : Prim} {xs : List Operand} (hc : compOp P o.op = some (p, xs)) (hp : p.isCall = false) {vs : List AV} (hv : VRels f vs (xs.map ρ)) {ft : Foot} (h : psem C p vs M = some (v, M', ft)) : Fine P ρ o w B f M v M' := by
  cases ho : o.op <;> rw [ho] at hc <;> simp only [compOp, reduceCtorEq] at hc
  case move x =>
    simp only [Option.some.injEq, Prod.mk.injEq] at hc
    obtain ⟨rfl, rfl⟩ := hc
    simp only [psem] at h
    split at h
    case h_2 => cases h
    obtain ⟨rfl, rfl⟩ := quiet_eq h
    obtain ⟨X, e1, e2⟩ := rels1 hv
    simp at e1; subst e1
    exact fine_mov hm (.inl ho) e2
  case assign x =>
    simp only [Option.some.injEq, Prod.mk.injEq] at hc
    obtain ⟨rfl, rfl⟩ := hc
    simp only [psem] at h
    split at h
    case h_2 => cases h
    obtain ⟨rfl, rfl⟩ := quiet_eq h
    obtain ⟨X, e1, e2⟩ := rels1 hv
    simp at e1; subst e1
    exact fine_mov hm (.inr ho) e2
  case pick c x y =>
    simp only [Option.some.injEq, Prod.mk.injEq] at hc
    obtain ⟨rfl, rfl⟩ := hc
    simp only [psem] at h
    split at h
    case h_2 => cases h
    obtain ⟨rfl, rfl⟩ := quiet_eq h
    obtain ⟨X, Y, Z, e1, e2, e3, e4⟩ := rels3 hv
    simp at e1
    obtain ⟨rfl, rfl, rfl⟩ := e1
    exact fine_pick hm ho e2 e3 e4
  case alloc t =>
    split at hc
    case h_2 => cases hc
    rename_i z hz
    simp only [Option.some.injEq, Prod.mk.injEq] at hc
    obtain ⟨rfl, rfl⟩ := hc
    simp only [psem] at h
    split at h
    case h_2 => cases h
    split at h
    case h_2 => cases h
    rename_i c hcz
    obtain ⟨rfl, rfl⟩ := newB_eq h
    exact fine_alloc hm hB ho hz hcz
  case box t x =>
    simp only [Option.some.injEq, Prod.mk.injEq] at hc
    obtain ⟨rfl, rfl⟩ := hc
    simp only [psem] at h
    split at h
    case h_2 => cases h
    split at h
    case h_2 => cases h
    rename_i c hcz
    obtain ⟨rfl, rfl⟩ := newB_eq h
    obtain ⟨X, e1, e2⟩ := rels1 hv
    simp at e1; subst e1
    exact fine_box hm hB ho e2 hcz
  case build t ps =>
    split at hc
    · rename_i z fs hz hu
      split at hc
      case h_2 => cases hc
      rename_i pl hpl
      cases hq : (z.isAgg && sizesOK P fs.toList) with
      | false => simp [hq] at hc
      | true =>
        simp only [hq, cond_true, Option.some.injEq, Prod.mk.injEq] at hc
        obtain ⟨rfl, rfl⟩ := hc
        simp only [Bool.and_eq_true] at hq
        simp only [psem] at h
        split at h
        case h_2 => cases h
        rename_i v' hv'
        obtain ⟨rfl, rfl⟩ := quiet_eq h
        exact fine_buildS hm ho hz hq.1 hu hq.2 hpl hv hv'
    · rename_i z n e hz hu
      split at hc
      case h_2 => cases hc
      rename_i s hs
      cases hq : z.isAgg with
      | false => simp [hq] at hc
      | true =>
        simp only [hq, cond_true, Option.some.injEq, Prod.mk.injEq] at hc
        obtain ⟨rfl, rfl⟩ := hc
        simp only [psem] at h
        split at h
        case h_2 => cases h
        rename_i v' hv'
        obtain ⟨rfl, rfl⟩ := quiet_eq h
        exact fine_buildA hm ho hz hq hu hs hv hv'
    · cases hc
  case buildSlice t n ps =>
    split at hc
    case h_2 => cases hc
    rename_i e hu
    split at hc
    case h_2 => cases hc
    rename_i z s hz hs
    cases hq : (Nat.blt 0 s && Nat.ble (n * s) 16777216 && Nat.beq (aggBlock z).csize s) with
    | false => simp [hq] at hc
    | true =>
      simp only [hq, cond_true] at hc
      simp only [Bool.and_eq_true] at hq
      split at hc
      case h_2 => cases hc
      rename_i c hrep
      simp only [Option.some.injEq, Prod.mk.injEq] at hc
      obtain ⟨rfl, rfl⟩ := hc
      simp only [psem] at h
      split at h
      case h_2 => cases h
      rename_i v' hv'
      obtain ⟨rfl, rfl⟩ := newB_eq h
      exact fine_buildSl hm hB ho hu hz hs (blt_true hq.1.1) (ble_true hq.1.2) (beq_true hq.2) hrep hv hv'
  case load t x =>
    split at hc
    case h_2 => cases hc
    rename_i k hk
    simp only [Option.some.injEq, Prod.mk.injEq] at hc
    obtain ⟨rfl, rfl⟩ := hc
    simp only [psem] at h
    split at h
    case h_2 => cases h
    split at h
    case h_2 => cases h
    rename_i b hb
    split at h
    case h_2 => cases h
    rename_i v' hv'
    simp only [Option.some.injEq, Prod.mk.injEq] at h
    obtain ⟨rfl, rfl, _⟩ := h
    obtain ⟨X, e1, e2⟩ := rels1 hv
    simp at e1; subst e1
    exact fine_load hm ho hk e2 hb hv'
  case store t x y =>
    split at hc
    case h_2 => cases hc
    rename_i n hn
    simp only [Option.some.injEq, Prod.mk.injEq] at hc
    obtain ⟨rfl, rfl⟩ := hc
    simp only [psem] at h
    split at h
    case h_2 => cases h
    rename_i i off a
    split at h
    case h_2 => cases h
    rename_i b hb
    cases hq : (Nat.beq a.csize n && a.plain) with
    | false => simp [hq] at h
    | true =>
      simp only [hq, cond_true] at h
      simp only [Bool.and_eq_true] at hq
      split at h
      case h_2 => cases h
      rename_i c hc'
      simp only [Option.some.injEq, Prod.mk.injEq] at h
      obtain ⟨rfl, rfl, _⟩ := h
      obtain ⟨X, Y, e1, e2, e3⟩ := rels2 hv
      simp at e1
      obtain ⟨rfl, rfl⟩ := e1
      exact fine_store hm ho hn e2 e3 hb (beq_true hq.1) hq.2 hc'
  case fieldAddr t x j =>
    split at hc
    case h_2 => cases hc
    rename_i fs hu
    split at hc
    case h_2 => cases hc
    rename_i fd hfd
    split at hc
    case h_2 => cases hc
    rename_i s hs
    cases hq : Nat.blt 0 s with
    | false => simp [hq] at hc
    | true =>
      simp only [hq, cond_true, Option.some.injEq, Prod.mk.injEq] at hc
      obtain ⟨rfl, rfl⟩ := hc
      simp only [psem] at h
      split at h
      case h_2 => cases h
      obtain ⟨rfl, rfl⟩ := quiet_eq h
      obtain ⟨X, e1, e2⟩ := rels1 hv
      simp at e1; subst e1
      exact fine_padd hm ho hu hfd hs (blt_true hq) e2
  case nilCheck x =>
    simp only [Option.some.injEq, Prod.mk.injEq] at hc
    obtain ⟨rfl, rfl⟩ := hc
    simp only [psem] at h
    split at h
    case h_3 => cases h
    all_goals
      obtain ⟨rfl, rfl⟩ := quiet_eq h
      obtain ⟨X, e1, e2⟩ := rels1 hv
      simp at e1; subst e1
    · exact fine_nilchk hm ho (.inl ⟨_, _, rfl⟩) e2
    · exact fine_nilchk hm ho (.inr ⟨_, _, _, rfl⟩) e2
  case field t x j =>
    split at hc
    case h_2 => cases hc
    rename_i fs hu
    split at hc
    case h_2 => cases hc
    rename_i fd hfd
    split at hc
    case h_2 => cases hc
    rename_i k hk
    simp only [Option.some.injEq, Prod.mk.injEq] at hc
    obtain ⟨rfl, rfl⟩ := hc
    simp only [psem] at h
    split at h
    case h_2 => cases h
    rename_i c
    cases hq : c.isAgg with
    | false => simp [hq] at h
    | true =>
      simp only [hq, cond_true] at h
      split at h
      case h_2 => cases h
      rename_i v' hv'
      obtain ⟨rfl, rfl⟩ := quiet_eq h
      obtain ⟨X, e1, e2⟩ := rels1 hv
      simp at e1; subst e1
      exact fine_field hm ho hu hfd hk hq hv' e2
  case indexAddr t x y =>
    split at hc
    · rename_i n e hu
      split at hc
      case h_2 => cases hc
      rename_i s hs
      simp only [Option.some.injEq, Prod.mk.injEq] at hc
      obtain ⟨rfl, rfl⟩ := hc
      simp only [psem] at h
      split at h
      case h_2 => cases h
      split at h
      case h_2 => cases h
      rename_i m hin
      obtain ⟨rfl, rfl⟩ := quiet_eq h
      obtain ⟨X, Y, e1, e2, e3⟩ := rels2 hv
      simp at e1
      obtain ⟨rfl, rfl⟩ := e1
      exact fine_idxA hm ho hu hs e2 e3 hin
    · rename_i e hu
      split at hc
      case h_2 => cases hc
      rename_i s hs
      simp only [Option.some.injEq, Prod.mk.injEq] at hc
      obtain ⟨rfl, rfl⟩ := hc
      simp only [psem] at h
      split at h
      case h_2 => cases h
      rename_i i off base len e' lim k n
      cases hq : Nat.beq e' s with
      | false => simp [hq] at h
      | true =>
        simp only [hq, cond_true] at h
        obtain rfl := beq_true hq
        split at h
        case h_2 => cases h
        rename_i m hin
        obtain ⟨rfl, rfl⟩ := quiet_eq h
        obtain ⟨X, Y, e1, e2, e3⟩ := rels2 hv
        simp at e1
        obtain ⟨rfl, rfl⟩ := e1
        exact fine_idxS hm ho hu hs e2 e3 hin
    · cases hc
  case index t x y =>
    split at hc
    · rename_i n e hu
      split at hc
      case h_2 => cases hc
      rename_i s k hs hk
      simp only [Option.some.injEq, Prod.mk.injEq] at hc
      obtain ⟨rfl, rfl⟩ := hc
      simp only [psem] at h
      split at h
      case h_2 => cases h
      rename_i c _ _
      cases hq : c.isAgg with
      | false => simp [hq] at h
      | true =>
        simp only [hq, cond_true] at h
        split at h
        case h_2 => cases h
        rename_i m hin
        split at h
        case h_2 => cases h
        rename_i v' hv'
        obtain ⟨rfl, rfl⟩ := quiet_eq h
        obtain ⟨X, Y, e1, e2, e3⟩ := rels2 hv
        simp at e1
        obtain ⟨rfl, rfl⟩ := e1
        exact fine_idxV hm ho hu hs hk hq e2 e3 hin hv'
    · rename_i hu
      simp only [Option.some.injEq, Prod.mk.injEq] at hc
      obtain ⟨rfl, rfl⟩ := hc
      simp only [psem] at h
      split at h
      case h_2 => cases h
      split at h
      case h_2 => cases h
      rename_i m hin
      split at h
      case h_2 => cases h
      rename_i b hb
      obtain ⟨rfl, rfl⟩ := quiet_eq h
      obtain ⟨X, Y, e1, e2, e3⟩ := rels2 hv
      simp at e1
      obtain ⟨rfl, rfl⟩ := e1
      exact fine_idxStr hm ho hu e2 e3 hin hb
    · cases hc
  case binOp op t x y yt =>
    split at hc
    case h_2 => cases hc
    rename_i p' hp'
    simp only [Option.some.injEq, Prod.mk.injEq] at hc
    obtain ⟨rfl, rfl⟩ := hc
    unfold compB at hp'
    split at hp'
    · simp only [Option.some.injEq] at hp'; subst hp'
      simp only [psem] at h
      split at h
      case h_2 => cases h
      rename_i v' hv'
      obtain ⟨rfl, rfl⟩ := quiet_eq h
      exact fine_bin hm ho hv hv'
    · simp only [Option.some.injEq] at hp'; subst hp'
      simp only [psem] at h
      split at h
      case h_2 => cases h
      rename_i v' hv'
      obtain ⟨rfl, rfl⟩ := quiet_eq h
      exact fine_bin hm ho hv hv'
    · simp only [Option.some.injEq] at hp'; subst hp'
      simp only [psem] at h
      split at h
      case h_2 => cases h
      rename_i v' hv'
      obtain ⟨rfl, rfl⟩ := quiet_eq h
      exact fine_bin hm ho hv hv'
    · split at hp'
      case h_2 => cases hp'
      rename_i neg s hn hs
      simp only [Option.some.injEq] at hp'; subst hp'
      simp only [psem] at h
      split at h
      case h_2 => cases h
      rename_i b hb
      obtain ⟨rfl, rfl⟩ := quiet_eq h
      exact fine_eqv hm ho hn hs hv hb
  case unOp op t x =>
    simp only [Option.some.injEq, Prod.mk.injEq] at hc
    obtain ⟨rfl, rfl⟩ := hc
    simp only [psem] at h
    split at h
    case h_2 => cases h
    rename_i v' hv'
    obtain ⟨rfl, rfl⟩ := quiet_eq h
    exact fine_un hm ho hv hv'
  case convert s d x =>
    split at hc
    · rename_i k0 k hs hd
      simp only [Option.some.injEq, Prod.mk.injEq] at hc
      obtain ⟨rfl, rfl⟩ := hc
      simp only [psem] at h
      split at h
      case h_2 => cases h
      obtain ⟨rfl, rfl⟩ := quiet_eq h
      obtain ⟨X, e1, e2⟩ := rels1 hv
      simp at e1; subst e1
      exact fine_conv hm ho hs hd e2
    · rename_i k0 hs hd
      simp only [Option.some.injEq, Prod.mk.injEq] at hc
      obtain ⟨rfl, rfl⟩ := hc
      simp only [psem] at h
      split at h
      case h_2 => cases h
      obtain ⟨rfl, rfl⟩ := quiet_eq h
      obtain ⟨X, e1, e2⟩ := rels1 hv
      simp at e1; subst e1
      exact fine_i2f hm ho hs hd e2
    · rename_i k hs hd
      simp only [Option.some.injEq, Prod.mk.injEq] at hc
      obtain ⟨rfl, rfl⟩ := hc
      simp only [psem] at h
      split at h
      case h_2 => cases h
      split at h
      case h_2 => cases h
      rename_i n hn
      split at h
      case isFalse => cases h
      rename_i hk
      obtain ⟨rfl, rfl⟩ := quiet_eq h
      obtain ⟨X, e1, e2⟩ := rels1 hv
      simp at e1; subst e1
      exact fine_f2i hm ho hs hd hn hk e2
    · rename_i hs hd
      simp only [Option.some.injEq, Prod.mk.injEq] at hc
      obtain ⟨rfl, rfl⟩ := hc
      simp only [psem] at h
      split at h
      case h_2 => cases h
      obtain ⟨rfl, rfl⟩ := quiet_eq h
      obtain ⟨X, e1, e2⟩ := rels1 hv
      simp at e1; subst e1
      exact fine_convId hm ho hs hd e2
    · rename_i e hs hd
      split at hc
      case h_2 => cases hc
      rename_i he
      simp only [Option.some.injEq, Prod.mk.injEq] at hc
      obtain ⟨rfl, rfl⟩ := hc
      simp only [psem] at h
      split at h
      case h_2 => cases h
      obtain ⟨rfl, rfl⟩ := newB_eq h
      obtain ⟨X, e1, e2⟩ := rels1 hv
      simp at e1; subst e1
      exact fine_s2b hm hB ho hs hd he e2
    · rename_i e hs hd
      split at hc
      case h_2 => cases hc
      rename_i he
      simp only [Option.some.injEq, Prod.mk.injEq] at hc
      obtain ⟨rfl, rfl⟩ := hc
      simp only [psem] at h
      split at h
      case h_3 => cases h
      · obtain ⟨rfl, rfl⟩ := quiet_eq h
        obtain ⟨X, e1, e2⟩ := rels1 hv
        simp at e1; subst e1
        exact fine_b2s_nil hm ho hs he hd e2
      · rename_i i off base len e' lim
        cases hq : Nat.beq e' 1 with
        | false => simp [hq] at h
        | true =>
          simp only [hq, cond_true] at h
          obtain rfl := beq_true hq
          split at h
          case h_2 => cases h
          rename_i b hb
          split at h
          case h_2 => cases h
          rename_i l hl
          simp only [Option.some.injEq, Prod.mk.injEq] at h
          obtain ⟨rfl, rfl, _⟩ := h
          obtain ⟨X, e1, e2⟩ := rels1 hv
          simp at e1; subst e1
          exact fine_b2s hm ho hs he hd e2 hb hl
    · rename_i e hs hd
      split at hc
      case h_2 => cases hc
      rename_i he
      split at hc
      case isFalse => cases hc
      rename_i hsd
      subst hsd
      simp only [Option.some.injEq, Prod.mk.injEq] at hc
      obtain ⟨rfl, rfl⟩ := hc
      simp only [psem] at h
      split at h
      case h_2 => cases h
      split at h
      case h_2 => cases h
      rename_i b hb
      cases hq : b.cells.isAgg with
      | false => simp [hq] at h
      | true =>
        simp only [hq, cond_true, Option.some.injEq, Prod.mk.injEq] at h
        obtain ⟨rfl, rfl, _⟩ := h
        obtain ⟨X, e1, e2⟩ := rels1 hv
        simp at e1; subst e1
        exact fine_mark hm ho hd he hb hq e2
    · cases hc
  case sliceToArrayPointer t x =>
    split at hc
    case h_2 => cases hc
    rename_i n e hu
    simp only [Option.some.injEq, Prod.mk.injEq] at hc
    obtain ⟨rfl, rfl⟩ := hc
    simp only [psem] at h
    split at h
    case h_2 => cases h
    rename_i i off base len esz lim
    cases hq : (Nat.ble n len && Nat.blt 0 n) with
    | false => simp [hq] at h
    | true =>
      simp only [hq, cond_true] at h
      simp only [Bool.and_eq_true] at hq
      obtain ⟨rfl, rfl⟩ := quiet_eq h
      obtain ⟨X, e1, e2⟩ := rels1 hv
      simp at e1; subst e1
      exact fine_s2ap hm ho hu e2 (ble_true hq.1) (blt_true hq.2)
  case makeFunc fn a c =>
    cases fn <;> simp only [compOp, reduceCtorEq] at hc
    rename_i g
    simp only [Option.some.injEq, Prod.mk.injEq] at hc
    obtain ⟨rfl, rfl⟩ := hc
    simp only [psem] at h
    obtain ⟨rfl, rfl⟩ := quiet_eq h
    exact fine_mkfn hm ho hv
  case makeSlice t x y =>
    split at hc
    case h_2 => cases hc
    rename_i e hu
    split at hc
    case h_2 => cases hc
    rename_i z s b hz hs hb
    cases hq : (Nat.blt 0 s && Nat.beq (aggBlock z).csize s) with
    | false => simp [hq] at hc
    | true =>
      simp only [hq, cond_true, Option.some.injEq, Prod.mk.injEq] at hc
      obtain ⟨rfl, rfl⟩ := hc
      simp only [Bool.and_eq_true] at hq
      simp only [psem] at h
      split at h
      case h_2 => cases h
      split at h
      case h_2 => cases h
      rename_i l c
      cases hq2 : (Nat.ble l c && Nat.ble (c * b) 140737488355328 && Nat.ble c 9223372036854775807) with
      | false => simp [hq2] at h
      | true =>
        simp only [hq2, cond_true] at h
        simp only [Bool.and_eq_true] at hq2
        split at h
        case h_2 => cases h
        rename_i cs hcs
        obtain ⟨rfl, rfl⟩ := newB_eq h
        obtain ⟨X, Y, e1, e2, e3⟩ := rels2 hv
        simp at e1
        obtain ⟨rfl, rfl⟩ := e1
        exact fine_mksl hm hB ho hu hz hs hb (blt_true hq.1) (beq_true hq.2) e2 e3 (ble_true hq2.1.1) (ble_true hq2.1.2) (ble_true hq2.2) hcs
  case slice t x lo hi mx =>
    rcases mx with _ | m
    rotate_left
    · rcases lo with _ | lo
      rotate_left
      · simp only [compOp, reduceCtorEq] at hc
      rcases hi with _ | hi
      · simp only [compOp, reduceCtorEq] at hc
      simp only [compOp] at hc
      split at hc
      case h_2 => cases hc
      rename_i e hu
      split at hc
      case h_2 => cases hc
      rename_i s hs
      simp only [Option.some.injEq, Prod.mk.injEq] at hc
      obtain ⟨rfl, rfl⟩ := hc
      simp only [psem] at h
      split at h
      case h_2 => cases h
      rename_i i off base len e' lim kh hh km mm
      cases hq : (Nat.beq e' s && Nat.beq base off) with
      | false => simp [hq] at h
      | true =>
        simp only [hq, cond_true] at h
        simp only [Bool.and_eq_true] at hq
        obtain rfl := beq_true hq.1
        obtain rfl := beq_true hq.2
        split at h
        case h_2 => cases h
        rename_i m' hm'
        split at h
        case h_2 => cases h
        rename_i h' hh'
        obtain ⟨rfl, rfl⟩ := quiet_eq h
        obtain ⟨rfl, g1⟩ := inB_spec hm'
        obtain ⟨rfl, g2⟩ := inB_spec hh'
        obtain ⟨X, Y, Z, e1, e2, e3, e4⟩ := rels3 hv
        simp at e1
        obtain ⟨rfl, rfl, rfl⟩ := e1
        exact fine_slS3 hm ho hu hs e2 e3 e4 g2 g1
    simp only [compOp] at hc
    split at hc
    · rename_i n e hu
      split at hc
      case h_2 => cases hc
      rename_i s hs
      cases hq : Nat.blt 0 s with
      | false => simp [hq] at hc
      | true =>
        simp only [hq, cond_true, Option.some.injEq, Prod.mk.injEq] at hc
        obtain ⟨rfl, rfl⟩ := hc
        simp only [psem, flagged] at h
        split at h
        case h_2 => cases h
        split at h
        case h_2 => cases h
        rename_i l h' hb
        obtain ⟨rfl, rfl⟩ := quiet_eq h
        rw [List.map_cons, VRels.cons_iff] at hv
        exact fine_slA hm ho hu hs (blt_true hq) hv.1 hv.2 hb
    · rename_i e hu
      split at hc
      case h_2 => cases hc
      rename_i s hs
      simp only [Option.some.injEq, Prod.mk.injEq] at hc
      obtain ⟨rfl, rfl⟩ := hc
      simp only [psem, flagged] at h
      split at h
      case h_3 => cases h
      · rename_i i off base len e' lim bs
        cases hq : Nat.beq e' s with
        | false => simp [hq] at h
        | true =>
          simp only [hq, cond_true] at h
          obtain rfl := beq_true hq
          split at h
          case h_2 => cases h
          rename_i l h' hb
          obtain ⟨rfl, rfl⟩ := quiet_eq h
          rw [List.map_cons, VRels.cons_iff] at hv
          exact fine_slS hm ho hu hs hv.1 hv.2 hb
      · split at h
        case h_2 => cases h
        rename_i q hb
        obtain ⟨rfl, rfl⟩ := quiet_eq h
        rw [List.map_cons, VRels.cons_iff] at hv
        exact fine_slNil hm ho hu hs hv.1 hv.2 (l := q.1) (h := q.2) hb
    · rename_i hu
      simp only [Option.some.injEq, Prod.mk.injEq] at hc
      obtain ⟨rfl, rfl⟩ := hc
      simp only [psem, flagged] at h
      split at h
      case h_2 => cases h
      split at h
      case h_2 => cases h
      rename_i l h' hb
      obtain ⟨rfl, rfl⟩ := quiet_eq h
      rw [List.map_cons, VRels.cons_iff] at hv
      exact fine_slStr hm ho hu hv.1 hv.2 hb
    · cases hc
  case extract x i =>
    simp only [Option.some.injEq, Prod.mk.injEq] at hc
    obtain ⟨rfl, rfl⟩ := hc
    simp only [psem] at h
    split at h
    case h_2 => cases h
    split at h
    case h_2 => cases h
    rename_i v' hv'
    obtain ⟨rfl, rfl⟩ := quiet_eq h
    obtain ⟨X, e1, e2⟩ := rels1 hv
    simp at e1; subst e1
    exact fine_extr hm ho e2 hv'
  case call c => exact call_fine hm hB ho hρ hc hp hv h
end
end Go.Proofs.Ytnfglcfjjemjmaa
