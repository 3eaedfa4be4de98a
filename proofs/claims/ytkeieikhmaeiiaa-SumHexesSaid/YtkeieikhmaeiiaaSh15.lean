/- Digits of bytes: of two rows, and that bytes are told by them. No condition. -/
import Derived.Test.YtkeieikhmaeiiaaSh14a
namespace Go.Proofs.Ytkeieikhmaeiiaa
open Go Go.RowKit
/-- The digits of all. -/
def hexF : List Int → List Int
  | [] => []
  | c :: l => hexd (c.toNat / 16) :: hexd (c.toNat % 16) :: hexF l
theorem hexF_app : ∀ a b : List Int, hexF (a ++ b) = hexF a ++ hexF b
  | [], b => rfl
  | c :: a, b => by simp only [List.cons_append, hexF, hexF_app a b]
theorem hexL_take (L : List Int) : ∀ k, k ≤ L.length → hexL L k = hexF (L.take k)
  | 0, _ => by simp [hexL, hexF]
  | k + 1, h => by
    have e : L.take (k + 1) = L.take k ++ [L.getD k 0] := by
      rw [List.take_add_one, List.getElem?_eq_getElem (by omega)]
      simp [List.getD, List.getElem?_eq_getElem (show k < L.length by omega)]
    show hexL L k ++ _ = _
    rw [hexL_take L k (by omega), e, hexF_app]
    rfl
theorem hexL_all {L : List Int} {n : Nat} (h : L.length = n) : hexL L n = hexF L := by
  subst h
  rw [hexL_take L _ (Nat.le_refl _), List.take_length]
theorem bytesOf_app (a b : List Int) : bytesOf (a ++ b) = bytesOf a ++ bytesOf b := by simp only [bytesOf, List.map_append]
theorem hexF_len : ∀ a : List Int, (hexF a).length = 2 * a.length
  | [] => rfl
  | c :: a => by simp only [hexF, List.length_cons, hexF_len a]; omega
theorem hexd_inj : ∀ a b : Fin 16, UInt8.ofNat (hexd a.val).toNat = UInt8.ofNat (hexd b.val).toNat → a = b := by decide +kernel
theorem hex_inj : ∀ {a b : List Int}, Bys a → Bys b → (bytesOf (hexF a) = bytesOf (hexF b) ↔ bytesOf a = bytesOf b)
  | [], [], _, _ => by simp [hexF]
  | [], c :: b, _, _ => by simp [hexF, bytesOf]
  | c :: a, [], _, _ => by simp [hexF, bytesOf]
  | c :: a, d :: b, ha, hb => by
    have hc := ha c List.mem_cons_self
    have hd := hb d List.mem_cons_self
    have ih := hex_inj (a := a) (b := b) (fun x hx => ha x (List.mem_cons_of_mem _ hx)) (fun x hx => hb x (List.mem_cons_of_mem _ hx))
    have i16 : ∀ m n : Nat, m < 16 → n < 16 → (UInt8.ofNat (hexd m).toNat = UInt8.ofNat (hexd n).toNat ↔ m = n) := fun m n hm hn => ⟨fun h => by
      have := hexd_inj ⟨m, hm⟩ ⟨n, hn⟩ h
      exact Fin.mk.inj this, fun h => by rw [h]⟩
    have i8 : UInt8.ofNat c.toNat = UInt8.ofNat d.toNat ↔ c.toNat = d.toNat := by
      constructor
      · intro h
        have := congrArg UInt8.toNat h
        simp only [UInt8.toNat_ofNat'] at this
        omega
      · intro h; rw [h]
    simp only [bytesOf, hexF, List.map_cons, List.cons.injEq] at ih ⊢
    rw [i16 _ _ (by omega) (by omega), i16 _ _ (by omega) (by omega), i8, ih]
    constructor
    · rintro ⟨h1, h2, h3⟩; exact ⟨by omega, h3⟩
    · rintro ⟨h1, h3⟩; exact ⟨by omega, by omega, h3⟩
theorem mk_rep (n : Nat) (z : Int) : (List.replicate n [z]).flatten = List.replicate n z := by
  induction n with
  | zero => rfl
  | succ n ih => rw [List.replicate_succ, List.flatten_cons, ih]; rfl
theorem mksl_ok {C : Orc} {M : Mem} {m : Nat} {k ka kb : IntKind} {z : Int} (h : m ≤ 1000000) : psem C (.mksl (.nums k [z]) 1 1) [.int ka (Int.ofNat m), .int kb (Int.ofNat m)] M = some (.sl M.length 0 0 m 1 none, M ++ [⟨.nums k (List.replicate m z), .own, false⟩], ⟨[], [], true, true⟩) := by
  have h1 : (Nat.ble m m && Nat.ble (m * 1) 140737488355328 && Nat.ble m 9223372036854775807) = true := by
    simp only [Bool.and_eq_true]; exact ⟨⟨ble_ok (Nat.le_refl _), ble_ok (by omega)⟩, ble_ok (by omega)⟩
  simp only [psem, h1, cond_true, AV.rep, mk_rep]
  rfl
/-- How many noughts SumLengths makes. -/
def mm (n : Int) : Nat := (Int.tmod (IntKind.u64.wrap n) 301).toNat
theorem mm_lt (n : Int) : mm n < 301 := by
  unfold mm
  rw [IntKind.wrap_u64, Int.tmod_eq_emod_of_nonneg (by omega)]
  omega
theorem mm_eq (n : Int) : IntKind.i64.wrap (Int.tmod (IntKind.u64.wrap n) 301) = Int.ofNat (mm n) := by
  unfold mm
  rw [IntKind.wrap_u64, Int.tmod_eq_emod_of_nonneg (by omega), IntKind.wrap_i64]
  simp only [Int.ofNat_eq_natCast]
  omega
end Go.Proofs.Ytkeieikhmaeiiaa
