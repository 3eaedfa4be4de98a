/- The bits of the roots of the first primes. No condition. -/
import Derived.Test.YtkeieikhmaeiiaaSh2
namespace Go.Proofs.Ytkeieikhmaeiiaa
open Go Go.RowKit
def bw (p w : Nat) (c : Bool) (l : Nat) : Bool := bif c then belowC p w l else belowS p w l
/-- The bits, one by one. -/
def lowN (p w : Nat) (c : Bool) (l0 : Nat) : Nat → Nat
  | 0 => l0
  | k + 1 => bif bw p w c (lowN p w c l0 k + 524288 / 2 ^ k) then lowN p w c l0 k + 524288 / 2 ^ k else lowN p w c l0 k
theorem bit_le (k : Nat) : 524288 / 2 ^ k ≤ 524288 := Nat.div_le_self _ _
theorem bit_pos {k : Nat} (h : k < 20) : 0 < 524288 / 2 ^ k := by
  have : 2 ^ k ≤ 2 ^ 19 := Nat.pow_le_pow_right (by omega) (by omega)
  exact Nat.div_pos (by have h2 : (2 : Nat) ^ 19 = 524288 := by decide
                        omega) (Nat.two_pow_pos k)
theorem bit_half (k : Nat) : 524288 / 2 ^ k / 2 = 524288 / 2 ^ (k + 1) := by rw [Nat.div_div_eq_div_mul, ← Nat.pow_succ]
theorem lowN_le (p w : Nat) (c : Bool) (l0 : Nat) : ∀ k, lowN p w c l0 k ≤ l0 + 524288 * k
  | 0 => Nat.le_refl _
  | k + 1 => by
    have ih := lowN_le p w c l0 k
    have := bit_le k
    unfold lowN
    cases bw p w c (lowN p w c l0 k + 524288 / 2 ^ k) with
    | true => rw [cond_true]; omega
    | false => rw [cond_false]; omega
theorem lowN_succ (p w : Nat) (c : Bool) (l0 k : Nat) : lowN p w c l0 (k + 1) = bif bw p w c (lowN p w c l0 k + 524288 / 2 ^ k) then lowN p w c l0 k + 524288 / 2 ^ k else lowN p w c l0 k := rfl
def x_bits2 (p w : Nat) (c : Bool) (X : Nat) (k : Nat) : St := ⟨(.junk :: (.junk :: ((.ptr 0 0) :: (jk 3 ((.int .u64 (Int.ofNat X)) :: ((.int .u64 (Int.ofNat (524288 / 2 ^ k))) :: (jk 46 []))))))), [⟨(.flat [(.int .u64 (Int.ofNat p)), (.int .u64 (Int.ofNat w)), (.bool c)]), .own, true⟩]⟩
def h_bits (p w : Nat) (c : Bool) (l0 : Nat) : Hints := ⟨fun it t => match t with
  | 35 => (match (bif eqIt [none] it then some (.val (.bool false)) else none : Option VH), it with | some v, _ => some v | none, [some k0] => some (.val (.bool true)) | _, _ => none)
  | 40 => (match it with | [some k0] => some (.val (.int .u64 (Int.ofNat ((lowN p w c l0 k0) + (524288 / 2 ^ k0))))) | _ => none)
  | 42 => (match it with | [some k0] => some (.val (.bool true)) | _ => none)
  | 47 => (match it with | [some k0] => some (.val (.int .u64 (Int.ofNat ((lowN p w c l0 k0) + (524288 / 2 ^ k0))))) | _ => none)
  | 200049 => (match it with | [some k0] => some .ask | _ => none)
  | 52 => (match it with | [some k0] => some (.val (.int .u64 (Int.ofNat ((lowN p w c l0 k0) + (524288 / 2 ^ k0))))) | _ => none)
  | 37 => (match it with | [some k0] => some (.val (.int .u64 (Int.ofNat (524288 / 2 ^ (k0 + 1))))) | _ => none)
  | _ => none, fun it id => match id, it with
  | 0, [] => some ⟨20, true, false, fun kk => x_bits2 p w c (lowN p w c l0 kk) kk⟩
  | _, _ => none⟩
def d_bits : Nat → Option (List Nat) := fun n => match n with
  | 0 => some [0, 1, 3, 4, 5, 8, 9, 10, 11, 12, 13, 14, 15, 16, 17, 18, 19, 20, 21, 22, 23, 24, 25, 26, 27, 28, 29, 30, 31, 32, 33, 34, 35, 36, 37, 38, 39, 40, 41, 42, 43, 44, 45, 46, 47, 48, 49, 50, 51, 52, 53]
  | _ => none
def bitsAsk (p w : Nat) (c : Bool) (l0 r : Nat) : Prop := (x_bits2 p w c l0 0 = x_bits2 p w c (lowN p w c l0 0) 0 ∧ (∀ k0, k0 < 20 → ((AV.bool (decide ((Int.ofNat (524288 / 2 ^ k0)) > 0))) = (AV.bool true) ∧ (AV.int .u64 (IntKind.u64.wrap ((Int.ofNat (lowN p w c l0 k0)) + (Int.ofNat (524288 / 2 ^ k0))))) = (AV.int .u64 (Int.ofNat ((lowN p w c l0 k0) + (524288 / 2 ^ k0)))) ∧ (AV.bool (decide ((Int.ofNat ((lowN p w c l0 k0) + (524288 / 2 ^ k0))) > (Int.ofNat (lowN p w c l0 k0))))) = (AV.bool true) ∧ (AV.int .u64 (IntKind.u64.wrap ((Int.ofNat (lowN p w c l0 k0)) + (Int.ofNat (524288 / 2 ^ k0))))) = (AV.int .u64 (Int.ofNat ((lowN p w c l0 k0) + (524288 / 2 ^ k0)))) ∧ (((lowN p w c l0 k0) + (524288 / 2 ^ k0)) < 18446744073709551616 ∧ w < 18446744073709551616) ∧ (((bif c then belowC p w ((lowN p w c l0 k0) + (524288 / 2 ^ k0)) else belowS p w ((lowN p w c l0 k0) + (524288 / 2 ^ k0))) = true → ((AV.int .u64 (IntKind.u64.wrap ((Int.ofNat (lowN p w c l0 k0)) + (Int.ofNat (524288 / 2 ^ k0))))) = (AV.int .u64 (Int.ofNat ((lowN p w c l0 k0) + (524288 / 2 ^ k0)))) ∧ (AV.int .u64 (Int.fdiv (Int.ofNat (524288 / 2 ^ k0)) (2 ^ 1))) = (AV.int .u64 (Int.ofNat (524288 / 2 ^ (k0 + 1)))) ∧ x_bits2 p w c ((lowN p w c l0 k0) + (524288 / 2 ^ k0)) (k0 + 1) = x_bits2 p w c (lowN p w c l0 (k0 + 1)) (k0 + 1))) ∧ ((bif c then belowC p w ((lowN p w c l0 k0) + (524288 / 2 ^ k0)) else belowS p w ((lowN p w c l0 k0) + (524288 / 2 ^ k0))) = false → ((AV.int .u64 (Int.fdiv (Int.ofNat (524288 / 2 ^ k0)) (2 ^ 1))) = (AV.int .u64 (Int.ofNat (524288 / 2 ^ (k0 + 1)))) ∧ x_bits2 p w c (lowN p w c l0 k0) (k0 + 1) = x_bits2 p w c (lowN p w c l0 (k0 + 1)) (k0 + 1)))))) ∧ (AV.bool (decide ((Int.ofNat (524288 / 2 ^ 20)) > 0))) = (AV.bool false) ∧ ((AV.int .u64 (Int.ofNat (lowN p w c l0 20))) = AV.int .u64 (Int.ofNat r) ∧ ([] : Mem) = []))
theorem shr_bit (k : Nat) : Int.fdiv (Int.ofNat (524288 / 2 ^ k)) (2 ^ 1) = Int.ofNat (524288 / 2 ^ (k + 1)) := by
  rw [← bit_half]
  rw [Int.fdiv_eq_ediv_of_nonneg _ (by omega)]
  simp [Int.ofNat_eq_natCast, Int.natCast_ediv]
theorem bitsAsk_ok {p w l0 r : Nat} {c : Bool} (hw : w < 18446744073709551616) (hl : l0 + 10485760 < 18446744073709551616) (hr : lowN p w c l0 20 = r) : bitsAsk p w c l0 r := by
  have add : ∀ k, k < 20 → AV.int .u64 (IntKind.u64.wrap (Int.ofNat (lowN p w c l0 k) + Int.ofNat (524288 / 2 ^ k))) = AV.int .u64 (Int.ofNat (lowN p w c l0 k + 524288 / 2 ^ k)) := fun k hk => by
    have h1 := lowN_le p w c l0 k
    have h2 := bit_le k
    rw [wa, Nat.mod_eq_of_lt (by omega)]
  refine ⟨?_, fun k0 hk0 => ⟨(aB (decide_eq_true (by have := bit_pos hk0; simp only [Int.ofNat_eq_natCast]; omega))), (add k0 hk0), (aB (decide_eq_true (by have := bit_pos hk0; simp only [Int.ofNat_eq_natCast]; omega))), (add k0 hk0), ⟨(by have h1 := lowN_le p w c l0 k0; have h2 := bit_le k0; omega), hw⟩, ⟨fun hb => ⟨(add k0 hk0), (aI (shr_bit _)), ?_⟩, fun hb => ⟨(aI (shr_bit _)), ?_⟩⟩⟩, rfl, ⟨?_, rfl⟩⟩
  · rfl
  · exact congrArg (fun X => x_bits2 p w c X (k0 + 1)) (by rw [lowN_succ, show bw p w c (lowN p w c l0 k0 + 524288 / 2 ^ k0) = true from hb, cond_true])
  · exact congrArg (fun X => x_bits2 p w c X (k0 + 1)) (by rw [lowN_succ, show bw p w c (lowN p w c l0 k0 + 524288 / 2 ^ k0) = false from hb, cond_false])
  · rw [hr]
end Go.Proofs.Ytkeieikhmaeiiaa
