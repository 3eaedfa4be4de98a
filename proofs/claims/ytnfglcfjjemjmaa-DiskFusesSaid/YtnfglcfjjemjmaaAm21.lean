/- The small machine with conditions: what a run asks for is gathered as a proposition; what a table of functions says may hang on conditions; a loop may be taken by its states. No condition. -/
import Derived.Test.YtnfglcfjjemjmaaAm20
namespace Go.Proofs.Ytnfglcfjjemjmaa
open Go Go.RowKit

/-! ### Tables with conditions -/
abbrev OrcP := FuncId → List AV → Mem → Option (Option Prop × AV × Mem)
def holds : Option Prop → Prop
  | none => True
  | some q => q
def forget (C : OrcP) : Orc := fun g a M => match C g a M with
  | some (_, v, M') => some (v, M')
  | none => none
abbrev Dec := ∀ q : Option Prop, Decidable (holds q)
def clC (dec : Dec) (C : OrcP) : Orc := fun g a M => match C g a M with
  | some (q, v, M') => @ite _ (holds q) (dec q) (some (v, M')) none
  | none => none
def OrcPOK (P : Program) (C : OrcP) : Prop := ∀ dec : Dec, OrcOK P (clC dec C)
def preC (C : OrcP) (g : FuncId) (a : List AV) (M : Mem) (K : Prop) : Prop := match C g a M with
  | some (some q, _) => q ∧ K
  | _ => K
def preOn (C : OrcP) (g : FuncId) (args : List AV) (M : Mem) (is : List Nat) (K : Prop) : Prop :=
  match renL (fun i => placeOf i is) args, pickM M is with
  | some a', some l => match renM (fun i => placeOf i is) (cleanM l) with
    | some l' => preC C g a' l' K
    | none => K
  | _, _ => K
def preA (C : OrcP) (g : FuncId) (args : List AV) (M : Mem) (K : Prop) : Prop :=
  match refsL args with
  | [] => preC C g args [] K
  | rs => preOn C g args M (reach 0 M 10000 rs []) K
def preW (C : OrcP) (p : Prim) (vs : List AV) (M : Mem) (K : Prop) : Prop :=
  match p with
  | .callf g => preA C g vs M K
  | .callv => match vs with
    | .fn g fs cs :: vs => preA C g (fs ++ vs ++ cs) M K
    | _ => K
  | _ => K

/-! ### Runs that ask -/
inductive VH where
  | val (v : AV)
  | op (v : AV) (m : Mem) (ft : Foot)
  | ask
  | askv (v : AV)
  | askp (v : AV)
/-- Operations that are carried out under a condition, where that cannot be reckoned. -/
def psemQ (p : Prim) (vs : List AV) (M : Mem) : Option (Prop × AV × Mem × Foot) :=
  match p with
  | .add64 => match vs with
    | [.int _ x, .int _ y, .int _ c] => some (c.toNat ≤ 1, .tup [.int .u64 (((x.toNat + y.toNat + c.toNat) % 18446744073709551616 : Nat) : Int), .int .u64 (((x.toNat + y.toNat + c.toNat) / 18446744073709551616 : Nat) : Int)], M, ⟨[], [], false, false⟩)
    | _ => none
  | .sub64 => match vs with
    | [.int _ x, .int _ y, .int _ c] => some (c.toNat ≤ 1, .tup [.int .u64 (((x.toNat + 18446744073709551616 - y.toNat - c.toNat) % 18446744073709551616 : Nat) : Int), .int .u64 ((if x.toNat < y.toNat + c.toNat then 1 else 0 : Nat) : Int)], M, ⟨[], [], false, false⟩)
    | _ => none
  | .idxA len esz => match vs with
    | [.ptr i off, .int _ n] => some (inR n len = some n.toNat, .ptr i (off + n.toNat * esz), M, ⟨[], [], false, false⟩)
    | _ => none
  | .idxS esz => match vs with
    | [.sl i off _ len e _, .int _ n] => some (e = esz ∧ inR n len = some n.toNat, .ptr i (off + n.toNat * esz), M, ⟨[], [], false, false⟩)
    | _ => none
  | .idxV len esz none => match vs with
    | [.nums k l, .int _ n] => some (inR n len = some n.toNat ∧ n.toNat * esz < l.length, .int k (l.getD (n.toNat * esz) 0), M, ⟨[], [], false, false⟩)
    | _ => none
  | .load none => match vs with
    | [.ptr i off] => match liveB M i with
      | some b => match b.cells with
        | .nums k l => some (off < l.length, .int k (l.getD off 0), M, ⟨[i], [], false, false⟩)
        | .at o (.nums k l) => some (o ≤ off ∧ off - o < l.length, .int k (l.getD (off - o) 0), M, ⟨[i], [], false, false⟩)
        | _ => none
      | none => none
    | _ => none
  | .load (some (n, _)) => match vs with
    | [.ptr i off] => match liveB M i with
      | some b => match b.cells with
        | .nums k l => some (off = 0 ∧ l.length = n, .nums k l, M, ⟨[i], [], false, false⟩)
        | .at o (.nums k l) => some (o ≤ off ∧ off - o + n ≤ l.length, .nums k ((l.drop (off - o)).take n), M, ⟨[i], [], false, false⟩)
        | _ => none
      | none => none
    | _ => none
  | .store n => match vs with
    | [.ptr i off, .int k' x] => match ownB M i with
      | some b => match b.cells with
        | .nums k l => some (k = k' ∧ n = 1 ∧ off < l.length, undefA, M.set i ⟨.nums k (l.set off x), b.kind, true⟩, ⟨[], [i], true, false⟩)
        | _ => none
      | none => none
    | [.ptr i off, .nums k' l'] => match ownB M i with
      | some b => match b.cells with
        | .nums k l => some (k = k' ∧ off = 0 ∧ l'.length = n ∧ l.length = n, undefA, M.set i ⟨.nums k l', b.kind, true⟩, ⟨[], [i], true, false⟩)
        | _ => none
      | none => none
    | _ => none
  | .eqv neg (.cells n) => match vs with
    | [.nums k l, .nums k' l'] => some (k = k' ∧ l.length = n ∧ l'.length = n, .bool (bif neg then !(l == l') else (l == l')), M, ⟨[], [], false, false⟩)
    | _ => none
  | .slS esz false true => match vs with
    | [.sl i off base len e lim, .int _ h] => some (e = esz ∧ inB h len = some h.toNat, .sl i off base h.toNat esz lim, M, ⟨[], [], false, false⟩)
    | _ => none
  | .slS esz true false => match vs with
    | [.sl i off base len e lim, .int _ h] => some (e = esz ∧ inB h len = some h.toNat, .sl i (off + h.toNat * esz) (bif Nat.beq h.toNat 0 then base else off) (len - h.toNat) esz lim, M, ⟨[], [], false, false⟩)
    | _ => none
  | _ => none
theorem psemQ_ok {C : Orc} {p : Prim} {vs : List AV} {M : Mem} {q : Prop} {v : AV} {m : Mem} {ft : Foot} (h : psemQ p vs M = some (q, v, m, ft)) (hq : q) : psem C p vs M = some (v, m, ft) := by
  unfold psemQ at h
  split at h
  · split at h
    case h_2 => cases h
    simp only [Option.some.injEq, Prod.mk.injEq] at h
    obtain ⟨rfl, rfl, rfl, rfl⟩ := h
    have : ∀ c : Int, c.toNat ≤ 1 → Nat.ble c.toNat 1 = true := fun c hc => by simpa using hc
    simp only [psem, this _ hq, cond_true]; rfl
  · split at h
    case h_2 => cases h
    simp only [Option.some.injEq, Prod.mk.injEq] at h
    obtain ⟨rfl, rfl, rfl, rfl⟩ := h
    have : ∀ c : Int, c.toNat ≤ 1 → Nat.ble c.toNat 1 = true := fun c hc => by simpa using hc
    simp only [psem, this _ hq, cond_true]; rfl
  · split at h
    case h_2 => cases h
    simp only [Option.some.injEq, Prod.mk.injEq] at h
    obtain ⟨rfl, rfl, rfl, rfl⟩ := h
    simp only [psem, hq]; rfl
  · split at h
    case h_2 => cases h
    simp only [Option.some.injEq, Prod.mk.injEq] at h
    obtain ⟨rfl, rfl, rfl, rfl⟩ := h
    obtain ⟨rfl, hq⟩ := hq
    have : ∀ n : Nat, Nat.beq n n = true := Nat.beq_refl
    simp only [psem, hq, this, cond_true]; rfl
  · split at h
    case h_2 => cases h
    simp only [Option.some.injEq, Prod.mk.injEq] at h
    obtain ⟨rfl, rfl, rfl, rfl⟩ := h
    obtain ⟨hq, hl⟩ := hq
    simp only [psem, hq, AV.isAgg, cond_true, AV.part, AV.get?, List.getElem?_eq_getElem hl, List.getD, Option.getD_some, Option.map_some]; rfl
  · split at h
    case h_2 => cases h
    split at h
    case h_2 => cases h
    rename_i b hb
    split at h
    case h_3 => cases h
    · rename_i k l hc
      simp only [Option.some.injEq, Prod.mk.injEq] at h
      obtain ⟨rfl, rfl, rfl, rfl⟩ := h
      simp only [psem, hb, hc, AV.part, AV.get?, List.getElem?_eq_getElem hq, List.getD, Option.getD_some, Option.map_some]
    · rename_i o' k l hc
      simp only [Option.some.injEq, Prod.mk.injEq] at h
      obtain ⟨rfl, rfl, rfl, rfl⟩ := h
      have h1 : ∀ a b : Nat, a ≤ b → Nat.ble a b = true := fun a b h => by simpa using h
      simp only [psem, hb, hc, AV.part, AV.get?, h1 _ _ hq.1, cond_true, List.getElem?_eq_getElem hq.2, List.getD, Option.getD_some, Option.map_some]
  · split at h
    case h_2 => cases h
    split at h
    case h_2 => cases h
    rename_i b hb
    split at h
    case h_3 => cases h
    · rename_i k l hc
      simp only [Option.some.injEq, Prod.mk.injEq] at h
      obtain ⟨rfl, rfl, rfl, rfl⟩ := h
      obtain ⟨rfl, rfl⟩ := hq
      have h1 : ∀ n : Nat, Nat.ble (0 + n) n = true := fun n => by simp
      simp only [psem, hb, hc, AV.part, AV.sub, h1, if_true, List.drop_zero, List.take_length]
    · rename_i o' k l hc
      simp only [Option.some.injEq, Prod.mk.injEq] at h
      obtain ⟨rfl, rfl, rfl, rfl⟩ := h
      have h1 : ∀ a b : Nat, a ≤ b → Nat.ble a b = true := fun a b h => by simpa using h
      simp only [psem, hb, hc, AV.part, AV.sub, h1 _ _ hq.1, h1 _ _ hq.2, cond_true, if_true]
  · split at h
    case h_3 => cases h
    · split at h
      case h_2 => cases h
      rename_i b hb
      split at h
      case h_2 => cases h
      rename_i k l hc
      simp only [Option.some.injEq, Prod.mk.injEq] at h
      obtain ⟨rfl, rfl, rfl, rfl⟩ := h
      obtain ⟨rfl, rfl, hl⟩ := hq
      have h1 : ∀ n : Nat, Nat.blt n l.length = true ↔ n < l.length := fun n => by simp
      simp only [psem, hb, hc, AV.csize, AV.plain, AV.one, AV.putR, if_true, (h1 _).2 hl]; rfl
    · split at h
      case h_2 => cases h
      rename_i b hb
      split at h
      case h_2 => cases h
      rename_i k l hc
      simp only [Option.some.injEq, Prod.mk.injEq] at h
      obtain ⟨rfl, rfl, rfl, rfl⟩ := h
      obtain ⟨rfl, rfl, rfl, hl⟩ := hq
      have h1 : ∀ n : Nat, Nat.beq n n = true := Nat.beq_refl
      have h2 : ∀ n : Nat, Nat.ble (0 + n) n = true := fun n => by simp
      have h3 : ∀ m : List Int, l.length = m.length → l.drop (0 + m.length) = [] := fun m hm => by rw [Nat.zero_add, ← hm]; exact List.drop_length
      simp only [psem, hb, hc, AV.csize, AV.plain, h1, Bool.and_self, cond_true, AV.putR, if_true, hl, h2, List.take_zero, List.nil_append, h3 _ hl, List.append_nil]
  · split at h
    case h_2 => cases h
    simp only [Option.some.injEq, Prod.mk.injEq] at h
    obtain ⟨rfl, rfl, rfl, rfl⟩ := h
    obtain ⟨rfl, rfl, hl⟩ := hq
    have : ∀ n : Nat, Nat.beq n n = true := Nat.beq_refl
    simp only [psem, eqA, if_true, hl, this, Bool.and_self, cond_true]; rfl
  · split at h
    case h_2 => cases h
    simp only [Option.some.injEq, Prod.mk.injEq] at h
    obtain ⟨rfl, rfl, rfl, rfl⟩ := h
    obtain ⟨rfl, hq⟩ := hq
    have : ∀ n : Nat, Nat.beq n n = true := Nat.beq_refl
    simp only [psem, this, cond_true, boundsA, hq, Nat.zero_mul, Nat.add_zero, Nat.sub_zero]; rfl
  · split at h
    case h_2 => cases h
    simp only [Option.some.injEq, Prod.mk.injEq] at h
    obtain ⟨rfl, rfl, rfl, rfl⟩ := h
    obtain ⟨rfl, hq⟩ := hq
    have : ∀ n : Nat, Nat.beq n n = true := Nat.beq_refl
    simp only [psem, this, cond_true, boundsA, hq]; rfl
  · cases h
/-- Parts of what is not known cell by cell. -/
def psemP (p : Prim) (vs : List AV) (M : Mem) : Option (Prop × AV × Mem × Foot) :=
  match p with
  | .load (some (n, _)) => match vs with
    | [.ptr i off] => match liveB M i with
      | some b => match b.cells with
        | .nums k l => some (off + n ≤ l.length, .nums k ((l.drop off).take n), M, ⟨[i], [], false, false⟩)
        | _ => none
      | none => none
    | _ => none
  | _ => none
theorem psemP_ok {C : Orc} {p : Prim} {vs : List AV} {M : Mem} {q : Prop} {v : AV} {m : Mem} {ft : Foot} (h : psemP p vs M = some (q, v, m, ft)) (hq : q) : psem C p vs M = some (v, m, ft) := by
  unfold psemP at h
  split at h
  · split at h
    case h_2 => cases h
    split at h
    case h_2 => cases h
    rename_i b hb
    split at h
    case h_2 => cases h
    rename_i k l hc
    simp only [Option.some.injEq, Prod.mk.injEq] at h
    obtain ⟨rfl, rfl, rfl, rfl⟩ := h
    have h1 : ∀ a b : Nat, a ≤ b → Nat.ble a b = true := fun a b h => by simpa using h
    simp only [psem, hb, hc, AV.part, AV.sub, h1 _ _ hq, if_true]
  · cases h
structure LoopH where
  n : Nat
  all : Bool
  peel : Bool
  st : Nat → St
structure Hints where
  val : List (Option Nat) → Nat → Option VH
  loop : List (Option Nat) → Nat → Option LoopH
def noH : Hints := ⟨fun _ _ => none, fun _ _ => none⟩
def keyOf (o : AOper) : Option Nat :=
  match o.dst with
  | some t => some t
  | none => match o.args with
    | .tmp t :: _ => some (100000 + t)
    | _ => none
def hintOf (H : Hints) (it : List (Option Nat)) (o : AOper) : Option VH := match keyOf o with
  | some t => H.val it t
  | none => none
/-- Whether both ways are to be walked (key 200000 + the slot). -/
def splitOf (H : Hints) (it : List (Option Nat)) (c : AOpd) : Bool := match c with
  | .tmp t => match H.val it (200000 + t) with
    | some .ask => true
    | _ => false
  | _ => false
def primW (C : OrcP) (h : Option VH) (p : Prim) (vs : List AV) (M : Mem) (K : AV → Mem → Foot → Prop) : Prop :=
  match h with
  | some (.op v m ft) => psem (forget C) p vs M = some (v, m, ft) ∧ preW C p vs M (K v m ft)
  | some (.val v') => match psem (forget C) p vs M with
    | some (v, m, ft) => preW C p vs M (v = v' ∧ K v' m ft)
    | none => False
  | some .ask => match psemQ p vs M with
    | some (q, v, m, ft) => q ∧ K v m ft
    | none => False
  | some (.askv v') => match psemQ p vs M with
    | some (q, v, m, ft) => q ∧ v = v' ∧ K v' m ft
    | none => False
  | some (.askp v') => match psemP p vs M with
    | some (q, v, m, ft) => q ∧ v = v' ∧ K v' m ft
    | none => False
  | none => match psem (forget C) p vs M with
    | some (v, m, ft) => preW C p vs M (K v m ft)
    | none => False
def stepW (C : OrcP) (h : Option VH) (o : AOper) (s : St) (K : St → Foot → Prop) : Prop :=
  match wantedA s.fr o.guard with
  | some true => primW C h o.prim (o.args.map (evalA s.fr)) s.mem fun v m ft => K ⟨putA s.fr o.dst v, m⟩ ft
  | some false => K ⟨putA s.fr o.dst undefA, s.mem⟩ ⟨[], [], false, false⟩
  | none => False
def stepDW (C : OrcP) (h : Option VH) (o : AOper) (r : Nat) (s : St) (K : St → Foot → Prop) : Prop :=
  match wantedA s.fr o.guard with
  | some true => primW C h o.prim (o.args.map (evalA s.fr)) s.mem fun v m ft => bif ft.fresh then (bif o.prim.isNew then (match m[s.mem.length]? with
        | some b => K ⟨putA s.fr o.dst (reV r v), s.mem.set r ⟨b.cells, b.kind, true⟩⟩ ⟨[], [r], true, true⟩
        | none => False) else False) else K ⟨putA s.fr o.dst v, m⟩ ft
  | some false => K ⟨putA s.fr o.dst undefA, s.mem⟩ ⟨[], [], false, false⟩
  | none => False
def opsW (C : OrcP) (H : Hints) (it : List (Option Nat)) : List AOper → St → (St → Prop) → Prop
  | [], s, K => K s
  | o :: l, s, K => stepW C (hintOf H it o) o s fun s' _ => opsW C H it l s' K
def opsDW (C : OrcP) (H : Hints) (it : List (Option Nat)) : List AOper → Nat → St → (St → List (Foot × Nat) → Prop) → Prop
  | [], _, s, K => K s []
  | o :: l, r, s, K => stepDW C (hintOf H it o) o r s fun s' ft => opsDW C H it l (bif o.prim.isNew then r + 1 else r) s' fun s'' fs => K s'' ((ft, s.mem.length) :: fs)
def allN (F : Nat → Prop) : Nat → Nat → Prop
  | _, 0 => True
  | i, k + 1 => F i ∧ allN F (i + 1) k
def scrubW (n0 : Nat) (dead : Option (List Nat)) (s : St) (K : St → Prop) : Prop := match scrub n0 dead s with
  | some s' => K s'
  | none => False
def iterW (F : Nat → St → (Ex → St → Prop) → Prop) (h : St → (St → Prop) → Prop) : Nat → Nat → St → (Ex → St → Prop) → Prop
  | 0, _, _, _ => False
  | n + 1, i, s, Q => h s fun s' => F i s' fun x s'' => match x with
    | .norm => iterW F h n (i + 1) s'' Q
    | x => Q x s''
def execW (C : OrcP) (H : Hints) (n0 N : Nat) : ACode → List (Option Nat) → St → (Ex → St → Prop) → Prop
  | .skip, _, s, Q => Q .norm s
  | .ops l drawn, it, s, Q => bif drawn then opsDW C H it l s.mem.length ⟨s.fr, padM s.mem (newN l)⟩ (fun s' fs => bif drawnOK l fs then Q .norm s' else False) else opsW C H it l s (fun s' => Q .norm s')
  | .seq a b, it, s, Q => execW C H n0 N a it s fun x s' => match x with
    | .norm => execW C H n0 N b it s' Q
    | x => Q x s'
  | .cond c t e, it, s, Q => match evalA s.fr c with
    | .bool b => (match splitOf H it c with
      | true => (b = true → execW C H n0 N t it s Q) ∧ (b = false → execW C H n0 N e it s Q)
      | false => bif b then execW C H n0 N t it s Q else execW C H n0 N e it s Q)
    | _ => False
  | .block id b, it, s, Q => execW C H n0 N b it s fun x s' => match x with
    | .exit i => bif Nat.beq i id then Q .norm s' else Q (.exit i) s'
    | x => Q x s'
  | .loop id dead b, it, s, Q => match H.loop it id with
    | some lh => bif Nat.blt lh.n N then (scrubW n0 dead s fun s' => s' = lh.st 0) ∧
        (bif lh.all then (bif lh.peel then ((0 < lh.n → execW C H n0 N b (some 0 :: it) (lh.st 0) fun x s'' => match x with
          | .norm => scrubW n0 dead s'' fun s3 => s3 = lh.st 1
          | _ => False) ∧ (∀ i, i + 1 < lh.n → execW C H n0 N b (some (i + 1) :: it) (lh.st (i + 1)) fun x s'' => match x with
          | .norm => scrubW n0 dead s'' fun s3 => s3 = lh.st (i + 2)
          | _ => False)) else (∀ i, i < lh.n → execW C H n0 N b (some i :: it) (lh.st i) fun x s'' => match x with
          | .norm => scrubW n0 dead s'' fun s3 => s3 = lh.st (i + 1)
          | _ => False))
        else allN (fun i => execW C H n0 N b (some i :: it) (lh.st i) fun x s'' => match x with
          | .norm => scrubW n0 dead s'' fun s3 => s3 = lh.st (i + 1)
          | _ => False) 0 lh.n) ∧
        (execW C H n0 N b (none :: it) (lh.st lh.n) fun x s'' => match x with
          | .norm => False
          | x => Q x s'') else False
    | none => iterW (fun i => execW C H n0 N b (some i :: it)) (scrubW n0 dead) N 0 s Q
  | .exit id, _, s, Q => Q (.exit id) s
  | .ret, _, s, Q => Q .ret s
def runW (C : OrcP) (H : Hints) (N : Nat) (fn : AFun) (args : List AV) (M : Mem) (R : AV → Mem → Prop) : Prop :=
  execW C H M.length N fn.code [] ⟨frame0 fn args, M⟩ fun x s =>
    match x with
    | .exit _ => False
    | _ => match resAll s fn.results with
      | some vs => (match cramp M.length vs s.mem with
        | some (vs', m) => R (oneA vs') m
        | none => False)
      | none => False
@[irreducible] def specW (P : Program) (D : Nat → Option (List Nat)) (C : OrcP) (H : Hints) (N : Nat) (g : FuncId) (args : List AV) (M : Mem) (R : AV → Mem → Prop) : Prop :=
  match compFn P D g with
  | some fn => runW C H N fn args M R
  | none => False

/-! ### They stand for runs -/
section
variable {C : OrcP} {H : Hints} {dec : Dec}
theorem preC_eq {g : FuncId} {a : List AV} {M : Mem} {K : Prop} (h : preC C g a M K) : clC dec C g a M = forget C g a M ∧ K := by
  unfold preC at h
  unfold clC forget
  cases hc : C g a M with
  | none => rw [hc] at h; exact ⟨rfl, h⟩
  | some r =>
    obtain ⟨q, v, M'⟩ := r
    rw [hc] at h
    cases q with
    | none => exact ⟨by simp [holds], h⟩
    | some q => exact ⟨by simp [holds, h.1], h.2⟩
theorem callOn_congr {C1 C2 : Orc} {g : FuncId} {args : List AV} {M : Mem} {is : List Nat} (h : ∀ a' l l', renL (fun i => placeOf i is) args = some a' → pickM M is = some l → renM (fun i => placeOf i is) (cleanM l) = some l' → C1 g a' l' = C2 g a' l') : callOn C1 g args M is = callOn C2 g args M is := by
  unfold callOn
  split
  · rename_i a' l ha hl
    split
    · rename_i l' hl'
      rw [h a' l l' ha hl hl']
    · rfl
  · rfl
theorem preOn_eq {g : FuncId} {args : List AV} {M : Mem} {is : List Nat} {K : Prop} (h : preOn C g args M is K) : callOn (clC dec C) g args M is = callOn (forget C) g args M is ∧ K := by
  unfold preOn at h
  split at h
  · rename_i a' l ha hl
    split at h
    · rename_i l' hl'
      obtain ⟨h1, h2⟩ := preC_eq (dec := dec) h
      refine ⟨callOn_congr fun a2 l2 l2' e1 e2 e3 => ?_, h2⟩
      rw [ha] at e1; obtain rfl := Option.some.inj e1
      rw [hl] at e2; obtain rfl := Option.some.inj e2
      rw [hl'] at e3; obtain rfl := Option.some.inj e3
      exact h1
    · rename_i hno
      refine ⟨callOn_congr fun a2 l2 l2' e1 e2 e3 => ?_, h⟩
      rw [ha] at e1; obtain rfl := Option.some.inj e1
      rw [hl] at e2; obtain rfl := Option.some.inj e2
      rw [hno] at e3; cases e3
  · rename_i hno
    refine ⟨callOn_congr fun a2 l2 l2' e1 e2 e3 => ?_, h⟩
    exact (hno _ _ e1 e2).elim
theorem preA_eq {g : FuncId} {args : List AV} {M : Mem} {K : Prop} (h : preA C g args M K) : callA (clC dec C) g args M = callA (forget C) g args M ∧ K := by
  unfold preA at h
  unfold callA
  cases hr : refsL args with
  | nil =>
    rw [hr] at h
    obtain ⟨h1, h2⟩ := preC_eq (dec := dec) h
    refine ⟨?_, h2⟩
    have h3 : callOn (clC dec C) g args M [] = callOn (forget C) g args M [] := callOn_congr fun a' l l' e1 e2 e3 => by
      rw [renL_none args hr] at e1; obtain rfl := Option.some.inj e1
      simp only [pickM, Option.some.injEq] at e2; subst e2
      simp only [cleanM, renM, Option.some.injEq] at e3; subst e3
      exact h1
    simp only [h1, h3]
  | cons i rs =>
    rw [hr] at h
    exact preOn_eq (dec := dec) h
theorem preW_eq {p : Prim} {vs : List AV} {M : Mem} {K : Prop} (h : preW C p vs M K) : psem (clC dec C) p vs M = psem (forget C) p vs M ∧ K := by
  cases p
  case callf g => exact preA_eq (dec := dec) h
  case callv =>
    simp only [preW] at h
    simp only [psem]
    split at h
    · exact preA_eq (dec := dec) h
    · rename_i hno
      refine ⟨?_, h⟩
      split
      · exact (hno _ _ _ _ rfl).elim
      · rfl
  case len b => exact ⟨by cases b <;> rfl, h⟩
  all_goals exact ⟨rfl, h⟩
theorem primW_eq {h : Option VH} {p : Prim} {vs : List AV} {M : Mem} {K : AV → Mem → Foot → Prop} (hW : primW C h p vs M K) : ∃ v m ft, psem (clC dec C) p vs M = some (v, m, ft) ∧ K v m ft := by
  unfold primW at hW
  split at hW
  · obtain ⟨h1, h2⟩ := hW
    obtain ⟨h3, h4⟩ := preW_eq (dec := dec) h2
    exact ⟨_, _, _, h3.trans h1, h4⟩
  · split at hW
    · rename_i v m ft hp
      obtain ⟨h3, rfl, h4⟩ := preW_eq (dec := dec) hW
      exact ⟨_, _, _, h3.trans hp, h4⟩
    · cases hW
  · split at hW
    · rename_i q v m ft hp
      exact ⟨_, _, _, psemQ_ok hp hW.1, hW.2⟩
    · cases hW
  · split at hW
    · rename_i q v m ft hp
      obtain ⟨h1, rfl, h2⟩ := hW
      exact ⟨_, _, _, psemQ_ok hp h1, h2⟩
    · cases hW
  · split at hW
    · rename_i q v m ft hp
      obtain ⟨h1, rfl, h2⟩ := hW
      exact ⟨_, _, _, psemP_ok hp h1, h2⟩
    · cases hW
  · split at hW
    · rename_i v m ft hp
      obtain ⟨h3, h4⟩ := preW_eq (dec := dec) hW
      exact ⟨_, _, _, h3.trans hp, h4⟩
    · cases hW
theorem stepW_eq {h : Option VH} {o : AOper} {s : St} {K : St → Foot → Prop} (hW : stepW C h o s K) : ∃ s' ft, stepA (clC dec C) o s = some (s', ft) ∧ K s' ft := by
  unfold stepW at hW
  unfold stepA
  split at hW
  · rename_i hw
    obtain ⟨v, m, ft, h1, h2⟩ := primW_eq (dec := dec) hW
    exact ⟨_, _, by simp only [hw, h1], h2⟩
  · rename_i hw
    exact ⟨_, _, by simp only [hw], hW⟩
  · cases hW
theorem stepDW_eq {h : Option VH} {o : AOper} {r : Nat} {s : St} {K : St → Foot → Prop} (hW : stepDW C h o r s K) : ∃ s' ft, stepD (clC dec C) o r s = some (s', ft) ∧ K s' ft := by
  unfold stepDW at hW
  unfold stepD
  split at hW
  · rename_i hw
    obtain ⟨v, m, ft, h1, h2⟩ := primW_eq (dec := dec) hW
    simp only [hw, h1]
    cases hf : ft.fresh with
    | true =>
      simp only [hf, cond_true] at h2 ⊢
      cases hn : o.prim.isNew with
      | true =>
        simp only [hn, cond_true] at h2 ⊢
        split at h2
        · rename_i b hb
          exact ⟨_, _, by simp only [hb], h2⟩
        · cases h2
      | false => rw [hn, cond_false] at h2; cases h2
    | false =>
      simp only [hf, cond_false] at h2 ⊢
      exact ⟨_, _, rfl, h2⟩
  · rename_i hw
    exact ⟨_, _, by simp only [hw], hW⟩
  · cases hW
theorem opsW_eq {it : List (Option Nat)} : ∀ {l : List AOper} {s : St} {K : St → Prop}, opsW C H it l s K → ∃ s' fs, opsA (clC dec C) l s = some (s', fs) ∧ K s'
  | [], s, K, h => ⟨s, [], rfl, h⟩
  | o :: l, s, K, h => by
    obtain ⟨s1, ft, h1, h2⟩ := stepW_eq (dec := dec) h
    obtain ⟨s2, fs, h3, h4⟩ := opsW_eq h2
    exact ⟨s2, (ft, s.mem.length) :: fs, by simp only [opsA, h1, h3], h4⟩
theorem opsDW_eq {it : List (Option Nat)} : ∀ {l : List AOper} {r : Nat} {s : St} {K : St → List (Foot × Nat) → Prop}, opsDW C H it l r s K → ∃ s' fs, opsD (clC dec C) l r s = some (s', fs) ∧ K s' fs
  | [], r, s, K, h => ⟨s, [], rfl, h⟩
  | o :: l, r, s, K, h => by
    obtain ⟨s1, ft, h1, h2⟩ := stepDW_eq (dec := dec) h
    obtain ⟨s2, fs, h3, h4⟩ := opsDW_eq h2
    exact ⟨s2, (ft, s.mem.length) :: fs, by simp only [opsD, h1, h3], h4⟩
theorem allN_get {F : Nat → Prop} : ∀ {k i : Nat}, allN F i k → ∀ j, i ≤ j → j < i + k → F j
  | 0, i, _, j, h1, h2 => by omega
  | k + 1, i, h, j, h1, h2 => by
    by_cases e : j = i
    · subst e; exact h.1
    · exact allN_get h.2 j (by omega) (by omega)
theorem scrubW_eq {n0 : Nat} {dead : Option (List Nat)} {s : St} {K : St → Prop} (h : scrubW n0 dead s K) : ∃ s', scrub n0 dead s = some s' ∧ K s' := by
  unfold scrubW at h
  split at h
  · rename_i s' hs; exact ⟨s', hs, h⟩
  · cases h
theorem iter_chain {f : St → Option (Ex × St)} {h : St → Option St} {st : Nat → St} {n : Nat} {x : Ex} {sr : St} (hx : x ≠ .norm) (hstep : ∀ i, i < n → ∃ s'', f (st i) = some (.norm, s'') ∧ h s'' = some (st (i + 1))) (hlast : f (st n) = some (x, sr)) :
    ∀ (k j N : Nat) (s : St), j + k = n → k < N → h s = some (st j) → iterA f h N s = some (x, sr) := by
  intro k
  induction k with
  | zero =>
    intro j N s hj hN hs
    obtain rfl : j = n := by omega
    cases N with
    | zero => omega
    | succ N =>
      simp only [iterA, hs, hlast]
      cases x with
      | norm => exact absurd rfl hx
      | exit id => rfl
      | ret => rfl
  | succ k ih =>
    intro j N s hj hN hs
    obtain ⟨s'', h1, h2⟩ := hstep j (by omega)
    cases N with
    | zero => omega
    | succ N =>
      simp only [iterA, hs, h1]
      exact ih (j + 1) N s'' (by omega) (by omega) h2
theorem execW_eq {n0 N : Nat} : ∀ (ac : ACode) (it : List (Option Nat)) (s : St) (Q : Ex → St → Prop), execW C H n0 N ac it s Q → ∃ x s', exec (clC dec C) noL n0 N ac s = some (x, s') ∧ Q x s' := by
  intro ac
  induction ac with
  | skip => intro it s Q h; exact ⟨_, _, rfl, h⟩
  | exit id => intro it s Q h; exact ⟨_, _, rfl, h⟩
  | ret => intro it s Q h; exact ⟨_, _, rfl, h⟩
  | ops l drawn =>
    intro it s Q h
    cases drawn with
    | true =>
      simp only [execW, cond_true] at h
      obtain ⟨s', fs, h1, h2⟩ := opsDW_eq (dec := dec) h
      cases hd : drawnOK l fs with
      | true =>
        rw [hd, cond_true] at h2
        exact ⟨_, _, by simp only [exec, cond_true, h1, hd], h2⟩
      | false => rw [hd, cond_false] at h2; cases h2
    | false =>
      simp only [execW, cond_false] at h
      obtain ⟨s', fs, h1, h2⟩ := opsW_eq (dec := dec) h
      exact ⟨_, _, by simp only [exec, cond_false, h1], h2⟩
  | seq a b iha ihb =>
    intro it s Q h
    simp only [execW] at h
    obtain ⟨x, s1, h1, h2⟩ := iha it s _ h
    cases x with
    | norm =>
      obtain ⟨x2, s2, h3, h4⟩ := ihb it s1 _ h2
      exact ⟨_, _, by simp only [exec, h1, h3], h4⟩
    | exit id => exact ⟨_, _, by simp only [exec, h1], h2⟩
    | ret => exact ⟨_, _, by simp only [exec, h1], h2⟩
  | cond c t e iht ihe =>
    intro it s Q h
    simp only [execW] at h
    split at h
    · rename_i b hb
      have h : bif b then execW C H n0 N t it s Q else execW C H n0 N e it s Q := by
        split at h
        · cases b with
          | true => exact h.1 rfl
          | false => exact h.2 rfl
        · exact h
      cases b with
      | true =>
        obtain ⟨x, s1, h1, h2⟩ := iht it s _ h
        exact ⟨_, _, by simp only [exec, hb, cond_true, h1], h2⟩
      | false =>
        obtain ⟨x, s1, h1, h2⟩ := ihe it s _ h
        exact ⟨_, _, by simp only [exec, hb, cond_false, h1], h2⟩
    · cases h
  | block id b ih =>
    intro it s Q h
    simp only [execW] at h
    obtain ⟨x, s1, h1, h2⟩ := ih it s _ h
    cases x with
    | norm => exact ⟨_, _, by simp only [exec, h1], h2⟩
    | ret => exact ⟨_, _, by simp only [exec, h1], h2⟩
    | exit i =>
      simp only at h2
      cases hq : Nat.beq i id with
      | true => rw [hq, cond_true] at h2; exact ⟨_, _, by simp only [exec, h1, hq, cond_true], h2⟩
      | false => rw [hq, cond_false] at h2; exact ⟨_, _, by simp only [exec, h1, hq, cond_false], h2⟩
  | loop id dead b ih =>
    intro it s Q h
    simp only [execW] at h
    simp only [exec, noL]
    split at h
    · rename_i lh hl
      cases hN : Nat.blt lh.n N with
      | false => rw [hN, cond_false] at h; cases h
      | true =>
      rw [hN, cond_true] at h
      obtain ⟨h1, h2, h3⟩ := h
      obtain ⟨s0, hs0, rfl⟩ := scrubW_eq h1
      have hstep : ∀ i, i < lh.n → ∃ s'', exec (clC dec C) noL n0 N b (lh.st i) = some (.norm, s'') ∧ scrub n0 dead s'' = some (lh.st (i + 1)) := by
        intro i hi
        have h4 : execW C H n0 N b (some i :: it) (lh.st i) fun x s'' => match x with
          | .norm => scrubW n0 dead s'' fun s3 => s3 = lh.st (i + 1)
          | _ => False := by
          cases ha : lh.all with
          | true =>
            rw [ha, cond_true] at h2
            cases hp : lh.peel with
            | false => rw [hp, cond_false] at h2; exact h2 i hi
            | true =>
              rw [hp, cond_true] at h2
              cases i with
              | zero => exact h2.1 hi
              | succ i => exact h2.2 i hi
          | false => rw [ha, cond_false] at h2; exact allN_get h2 i (Nat.zero_le _) (by omega)
        obtain ⟨x, s'', h7, h8⟩ := ih _ _ _ h4
        cases x with
        | norm =>
          obtain ⟨s3, h9, rfl⟩ := scrubW_eq h8
          exact ⟨s'', h7, h9⟩
        | exit id => cases h8
        | ret => cases h8
      obtain ⟨x, s'', h7, h8⟩ := ih _ _ _ h3
      have hx : x ≠ .norm := fun e => by subst e; cases h8
      refine ⟨x, s'', iter_chain hx hstep h7 lh.n 0 N s (by omega) (blt_true hN) hs0, ?_⟩
      cases x with
      | norm => cases h8
      | exit id => exact h8
      | ret => exact h8
    · have : ∀ (k i : Nat) (s : St), iterW (fun i => execW C H n0 N b (some i :: it)) (scrubW n0 dead) k i s Q → ∃ x s', iterA (exec (clC dec C) noL n0 N b) (scrub n0 dead) k s = some (x, s') ∧ Q x s' := by
        intro k
        induction k with
        | zero => intro i s h; cases h
        | succ k ihk =>
          intro i s h
          simp only [iterW] at h
          obtain ⟨s1, h1, h2⟩ := scrubW_eq h
          obtain ⟨x, s2, h3, h4⟩ := ih _ s1 _ h2
          cases x with
          | norm =>
            obtain ⟨x2, s3, h5, h6⟩ := ihk (i + 1) s2 h4
            exact ⟨x2, s3, by simp only [iterA, h1, h3, h5], h6⟩
          | exit id => exact ⟨_, _, by simp only [iterA, h1, h3], h4⟩
          | ret => exact ⟨_, _, by simp only [iterA, h1, h3], h4⟩
      exact this N 0 s h
theorem runW_eq {N : Nat} {fn : AFun} {args : List AV} {M : Mem} {R : AV → Mem → Prop} (h : runW C H N fn args M R) : ∃ v M', runF (clC dec C) noL N fn args M = some (v, M') ∧ R v M' := by
  unfold runW at h
  obtain ⟨x, s, h1, h2⟩ := execW_eq (dec := dec) _ _ _ _ h
  have fin : ∀ (h3 : match resAll s fn.results with
      | some vs => (match cramp M.length vs s.mem with
        | some (vs', m) => R (oneA vs') m
        | none => False)
      | none => False), ∃ v M', (match resAll s fn.results with
      | some vs => (match cramp M.length vs s.mem with
        | some (vs', m) => some (oneA vs', m)
        | none => none)
      | none => none) = some (v, M') ∧ R v M' := by
    intro h3
    cases hr : resAll s fn.results with
    | none => rw [hr] at h3; cases h3
    | some vs =>
      rw [hr] at h3
      simp only at h3 ⊢
      cases hc : cramp M.length vs s.mem with
      | none => rw [hc] at h3; cases h3
      | some p => rw [hc] at h3; exact ⟨_, _, rfl, h3⟩
  unfold runF
  rw [h1]
  cases x with
  | norm => exact fin h2
  | ret => exact fin h2
  | exit id => cases h2
end

/-! ### Tables of what is known -/
def Spec := List AV → Mem → Option (Option Prop × AV × Mem)
def addS (C : OrcP) (g : FuncId) (S : Spec) : OrcP := fun f a M => bif Nat.beq f g then S a M else C f a M
theorem addS_ok {P : Program} (hP : P.follows .mixedOrders = true) {C C0 : OrcP} (hC : OrcPOK P C) (hC0 : OrcPOK P C0) {g : FuncId} {S : Spec} (h : ∀ a M q v M', S a M = some (q, v, M') → holds q → ∃ D H N, specW P D C0 H N g a M fun v2 M2 => v2 = v ∧ M2 = M') : OrcPOK P (addS C g S) := by
  intro dec f a M v M' hc hcl
  unfold clC addS at hc
  cases hfg : Nat.beq f g with
  | false =>
    rw [hfg, cond_false] at hc
    exact hC dec f a M v M' hc hcl
  | true =>
    obtain rfl := beq_true hfg
    rw [hfg, cond_true] at hc
    cases hs : S a M with
    | none => rw [hs] at hc; cases hc
    | some r =>
      obtain ⟨q, v', M''⟩ := r
      rw [hs] at hc
      simp only at hc
      split at hc
      · rename_i hq
        simp only [Option.some.injEq, Prod.mk.injEq] at hc
        obtain ⟨rfl, rfl⟩ := hc
        obtain ⟨D, H, N, hw⟩ := h a M q v' M'' hs hq
        unfold specW at hw
        split at hw
        · rename_i fn hfn
          obtain ⟨v2, M2, h1, rfl, rfl⟩ := runW_eq (dec := dec) hw
          exact runF_ok hP (hC0 dec) hfn h1
        · cases hw
      · cases hc
/-- Memories of the same cells, told in other ways. -/
def LikeM (n : Nat) (M' M'' : Mem) : Prop := M'.length = M''.length ∧ ∀ (i : Nat) (a b : Blk), M'[i]? = some a → M''[i]? = some b → a = b ∨ ((n ≤ i ∨ a.dirty = true) ∧ a.kind = b.kind ∧ a.dirty = b.dirty ∧ b.cells.mem3 = true ∧ a.cells.cells = b.cells.cells)
theorem LikeM.other {n : Nat} {M' M'' : Mem} (h : LikeM n M' M'') {i : Nat} {b : Blk} (hb : M''[i]? = some b) : ∃ a, M'[i]? = some a ∧ a.kind = b.kind ∧ a.dirty = b.dirty ∧ (a = b ∨ (b.cells.mem3 = true ∧ a.cells.cells = b.cells.cells)) := by
  have hi : i < M'.length := by rw [h.1]; exact lt_of_get hb
  refine ⟨M'[i], by simp, ?_⟩
  rcases h.2 i M'[i] b (by simp) hb with e | ⟨_, h1, h2, h3, h4⟩
  · rw [e]; exact ⟨rfl, rfl, .inl rfl⟩
  · exact ⟨h1, h2, .inr ⟨h3, h4⟩⟩
theorem LikeM.mrel {B n : Nat} {f : FM} {M' M'' : Mem} {w : World} (h : LikeM n M' M'') (hm : MRel B f M' w) : MRel B f M'' w := by
  refine ⟨fun i x hx => by rw [← h.1]; exact hm.dom i x hx, fun i b hb hk => ?_, fun i b x hb hx => ?_, fun i b x hb hx hmine => ?_, fun i j b c x y hb hc hx hy hne hmine hd => ?_⟩
  · obtain ⟨a, h1, h2, _⟩ := h.other hb
    exact hm.tot i a h1 (by rw [h2]; exact hk)
  · obtain ⟨a, h1, h2, h3, h4⟩ := h.other hb
    have hr := hm.blk i a x h1 hx
    rcases h4 with rfl | ⟨h4, h5⟩
    · exact hr
    · have hcs : a.cells.csize = b.cells.csize := by rw [← csize_cells, ← csize_cells, h5]
      rcases hr with hr | ⟨A, t, fz, g1, g2, g3, g4, g5, g6, g7⟩
      · exact .inl (by rw [← h2]; exact hr)
      · exact .inr ⟨A, t, fz, g1, g2, h4, by rw [← h2, ← hcs]; exact g4, by rw [← hcs]; exact g5, by rw [← hcs, ← h5]; exact g6, by rw [← h2]; exact g7⟩
  · obtain ⟨a, h1, h2, _⟩ := h.other hb
    exact hm.fresh i a x h1 hx (by rw [h2]; exact hmine)
  · obtain ⟨a, h1, h2, _⟩ := h.other hb
    obtain ⟨d, h3, h4, _⟩ := h.other hc
    exact hm.inj i j a d x y h1 h3 hx hy hne (by rw [h2]; exact hmine) (by rw [h4]; exact hd)
theorem LikeM.went {n : Nat} {f f' : FM} {M M' M'' : Mem} {w w' : World} (h : LikeM n M' M'') (hw : Went f M w f' M' w') : Went f M w f' M'' w' :=
  ⟨hw.os, hw.tape, hw.output, hw.size, hw.other, fun b hb => hw.own b (by
    obtain ⟨i, k, x, h1, h2, h3, h4⟩ := hb
    obtain ⟨a, g1, g2, _⟩ := h.other h1
    exact ⟨i, a, x, g1, by rw [g2]; exact h2, h3, h4⟩)⟩
theorem LikeM.refl (n : Nat) (M : Mem) : LikeM n M M := ⟨rfl, fun i a b ha hb => .inl (by rw [ha] at hb; exact Option.some.inj hb)⟩
/-- A table grows by what is known up to the telling. -/
theorem addS_like {P : Program} (hP : P.follows .mixedOrders = true) {C C0 : OrcP} (hC : OrcPOK P C) (hC0 : OrcPOK P C0) {g : FuncId} {S : Spec} (h : ∀ a M q v M', S a M = some (q, v, M') → holds q → ∃ D H N M1, (specW P D C0 H N g a M fun v2 M2 => v2 = v ∧ M2 = M1) ∧ LikeM M.length M1 M') : OrcPOK P (addS C g S) := by
  intro dec f a M v M' hc hcl
  unfold clC addS at hc
  cases hfg : Nat.beq f g with
  | false =>
    rw [hfg, cond_false] at hc
    exact hC dec f a M v M' hc hcl
  | true =>
    obtain rfl := beq_true hfg
    rw [hfg, cond_true] at hc
    cases hs : S a M with
    | none => rw [hs] at hc; cases hc
    | some r =>
      obtain ⟨q, v', M''⟩ := r
      rw [hs] at hc
      simp only at hc
      split at hc
      · rename_i hq
        simp only [Option.some.injEq, Prod.mk.injEq] at hc
        obtain ⟨rfl, rfl⟩ := hc
        obtain ⟨D, H, N, M1, hw, hl⟩ := h a M q v' M'' hs hq
        unfold specW at hw
        split at hw
        · rename_i fn hfn
          obtain ⟨v2, M2, h1, rfl, rfl⟩ := runW_eq (dec := dec) hw
          obtain ⟨k1, k2, k3, k4⟩ := runF_ok hP (hC0 dec) hfn h1
          refine ⟨k1, by rw [← hl.1]; exact k2, fun i b b' hb hb' hd => ?_, fun B f w Vs hm hB hv => (k4 B f w Vs hm hB hv).mono ?_⟩
          · have hi : i < M2.length := by rw [hl.1]; exact lt_of_get hb'
            rcases hl.2 i M2[i] b' (by simp) hb' with e | ⟨h5, _, h6, _⟩
            · exact e ▸ k3 i b M2[i] hb (by simp) (by rw [e]; exact hd)
            · rcases h5 with h5 | h5
              · have := lt_of_get hb; omega
              · rw [h6, hd] at h5; cases h5
          · rintro e w' ⟨f', V, h5, h6, h7, h8, h9⟩
            exact ⟨f', V, h5, h6, hl.mrel h7, h8, hl.went h9⟩
        · cases hw
      · cases hc
/-- What can be told without conditions. -/
def freeC (C : Orc) : OrcP := fun g a M => match C g a M with
  | some (v, M') => some (none, v, M')
  | none => none
theorem freeC_ok {P : Program} {C : Orc} (hC : OrcOK P C) : OrcPOK P (freeC C) := by
  intro dec f a M v M' hc hcl
  unfold clC freeC at hc
  cases hs : C f a M with
  | none => rw [hs] at hc; cases hc
  | some r =>
    obtain ⟨v', M''⟩ := r
    rw [hs] at hc
    simp only at hc
    rw [if_pos (show holds none from trivial)] at hc
    simp only [Option.some.injEq, Prod.mk.injEq] at hc
    obtain ⟨rfl, rfl⟩ := hc
    exact hC f a M _ _ hs hcl
/-- A law that returns true. -/
theorem law_W {P : Program} (hP : P.follows .mixedOrders = true) {C : OrcP} (hC : OrcPOK P C) {D : Nat → Option (List Nat)} {H : Hints} {N : Nat} {g : FuncId} {args : List AV} {M : Mem} (h : specW P D C H N g args M fun v _ => v = .bool true) (hcl : ∀ b ∈ M, b.dirty = false) {f : FM} {W : World} (hm : MRel W.heap.size f M W) {Vs : Array Value} (hv : VRels f args Vs.toList) :
    Calls P g Vs W (fun e w' => e = .returned (.bool true) ∧ Below W.heap.size W w') := by
  unfold specW at h
  split at h
  · rename_i fn hfn
    obtain ⟨v, M', h1, rfl⟩ := runW_eq (dec := fun q => Classical.propDecidable _) h
    obtain ⟨k1, k2, k3, k4⟩ := runF_ok hP (hC _) hfn h1
    have hO : OrcOK P (open Classical in fun g' a M0 => if g' = g ∧ a = args ∧ M0 = M then some (.bool true, M') else none) := by
      intro g' a M0 v0 M0' hc hcl0
      simp only at hc
      split at hc
      · rename_i e1
        obtain ⟨rfl, rfl, rfl⟩ := e1
        simp only [Option.some.injEq, Prod.mk.injEq] at hc
        obtain ⟨rfl, rfl⟩ := hc
        exact ⟨k1, k2, k3, k4⟩
      · cases hc
    exact law_ok hO (M' := M') (by rw [if_pos ⟨rfl, rfl, rfl⟩]) hcl hm hv
  · cases h
end Go.Proofs.Ytnfglcfjjemjmaa
