/- Numbers as bytes and words. Plain facts. No condition. -/
import Derived.Test.YtkeieikhmaeiiaaOps
namespace Go.Proofs.Ytkeieikhmaeiiaa
open Go Go.RowKit

/-- The number that bytes are, the lowest first. -/
def V : List Int → Nat
  | [] => 0
  | x :: l => x.toNat + 256 * V l
/-- 32 bytes. -/
def By (l : List Int) : Prop := l.length = 32 ∧ ∀ x ∈ l, 0 ≤ x ∧ x < 256
def w0 (n : Nat) : Nat := n % 18446744073709551616
def w1 (n : Nat) : Nat := n / 18446744073709551616 % 18446744073709551616
def w2 (n : Nat) : Nat := n / 340282366920938463463374607431768211456 % 18446744073709551616
def w3 (n : Nat) : Nat := n / 6277101735386680763835789423207666416102355444464034512896 % 18446744073709551616
/-- A number as four words. -/
def W4 (n : Nat) : List Int := [Int.ofNat (w0 n), Int.ofNat (w1 n), Int.ofNat (w2 n), Int.ofNat (w3 n)]
/-- The number that four words are. -/
def V4 (a b c d : Nat) : Nat := a + 18446744073709551616 * b + 340282366920938463463374607431768211456 * c + 6277101735386680763835789423207666416102355444464034512896 * d
def In4 (a b c d : Nat) : Prop := a < 18446744073709551616 ∧ b < 18446744073709551616 ∧ c < 18446744073709551616 ∧ d < 18446744073709551616
/-- The number that bytes are. -/
def bv : List Nat → Nat
  | [] => 0
  | x :: l => x + 256 * bv l
theorem V_map : ∀ l : List Nat, V (l.map Int.ofNat) = bv l
  | [] => rfl
  | x :: l => by simp only [List.map_cons, V, bv, V_map l]; rfl
theorem bv_append : ∀ l m : List Nat, bv (l ++ m) = bv l + 256 ^ l.length * bv m
  | [], m => by simp [bv]
  | x :: l, m => by
    simp only [List.cons_append, bv, bv_append l m, List.length_cons, Nat.pow_succ]
    rw [Nat.mul_add, Nat.mul_comm (256 ^ l.length) 256, Nat.mul_assoc]; omega
theorem bv_lt : ∀ l : List Nat, (∀ x ∈ l, x < 256) → bv l < 256 ^ l.length
  | [], _ => by simp [bv]
  | x :: l, h => by
    have h1 := h x List.mem_cons_self
    have h2 := bv_lt l fun y hy => h y (List.mem_cons_of_mem _ hy)
    simp only [bv, List.length_cons, Nat.pow_succ]
    omega
theorem by_nat {l : List Int} (h : By l) : ∃ gs : List Nat, gs.length = 32 ∧ (∀ x ∈ gs, x < 256) ∧ l = gs.map Int.ofNat ∧ V l = bv gs := by
  refine ⟨l.map Int.toNat, by simp [h.1], ?_, ?_, ?_⟩
  · intro x hx
    obtain ⟨y, hy, rfl⟩ := List.mem_map.1 hx
    have := h.2 y hy
    omega
  · rw [List.map_map]
    have : ∀ m : List Int, (∀ x ∈ m, 0 ≤ x ∧ x < 256) → m = m.map (Int.ofNat ∘ Int.toNat) := by
      intro m
      induction m with
      | nil => intro _; rfl
      | cons x m ih =>
        intro hm
        simp only [List.map_cons]
        rw [← ih fun y hy => hm y (List.mem_cons_of_mem _ hy)]
        have := (hm x List.mem_cons_self).1
        congr 1
        simp only [Function.comp]
        exact (Int.toNat_of_nonneg this).symm
    exact this l h.2
  · have : ∀ m : List Int, V m = bv (m.map Int.toNat) := by
      intro m
      induction m with
      | nil => rfl
      | cons x m ih => simp only [List.map_cons, V, bv, ih]
    exact this l
theorem W4_V4 {a b c d : Nat} (h : In4 a b c d) : W4 (V4 a b c d) = [Int.ofNat a, Int.ofNat b, Int.ofNat c, Int.ofNat d] := by
  obtain ⟨h1, h2, h3, h4⟩ := h
  have e0 : w0 (V4 a b c d) = a := by simp only [w0, V4]; omega
  have e1 : w1 (V4 a b c d) = b := by simp only [w1, V4]; omega
  have e2 : w2 (V4 a b c d) = c := by simp only [w2, V4]; omega
  have e3 : w3 (V4 a b c d) = d := by simp only [w3, V4]; omega
  simp only [W4, e0, e1, e2, e3]
theorem V4_lt {a b c d : Nat} (h : In4 a b c d) : V4 a b c d < 115792089237316195423570985008687907853269984665640564039457584007913129639936 := by
  obtain ⟨h1, h2, h3, h4⟩ := h
  simp only [V4]; omega
theorem In4_w (n : Nat) : In4 (w0 n) (w1 n) (w2 n) (w3 n) := by
  simp only [In4, w0, w1, w2, w3]; omega
theorem V4_w {n : Nat} (h : n < 115792089237316195423570985008687907853269984665640564039457584007913129639936) : V4 (w0 n) (w1 n) (w2 n) (w3 n) = n := by
  simp only [V4, w0, w1, w2, w3]; omega

/-! ### A byte more -/
def orRaw (p c m : Nat) : Int := IntKind.u64.wrap ((BitVec.ofInt 64 (Int.ofNat p) ||| BitVec.ofInt 64 (IntKind.u64.wrap ((IntKind.u64.wrap (Int.ofNat c)) * 2 ^ (Nat.min m 64)))).toNat)
theorem wrap64 (n : Nat) : IntKind.u64.wrap (Int.ofNat n) = Int.ofNat (n % 18446744073709551616) := by
  rw [IntKind.wrap_u64]; simp only [Int.ofNat_eq_natCast]; omega
theorem or_step {p c m : Nat} (hm : m ≤ 56) (hp : p < 2 ^ m) (hc : c < 256) : orRaw p c m = Int.ofNat (p + c * 2 ^ m) := by
  have h1 : 2 ^ m ≤ 2 ^ 56 := Nat.pow_le_pow_right (by omega) hm
  have h2 : c * 2 ^ m ≤ 255 * 2 ^ 56 := Nat.mul_le_mul (by omega) h1
  have h3 : c * 2 ^ m < 18446744073709551616 := by omega
  have e1 : IntKind.u64.wrap (Int.ofNat c) * 2 ^ (Nat.min m 64) = Int.ofNat (c * 2 ^ m) := by
    rw [wrap64, Nat.mod_eq_of_lt (by omega), show Nat.min m 64 = m from Nat.min_eq_left (by omega)]
    simp [Int.natCast_mul, Int.natCast_pow]
  unfold orRaw
  rw [e1, wrap64, Nat.mod_eq_of_lt h3]
  have e2 : ∀ n : Nat, BitVec.ofInt 64 (Int.ofNat n) = BitVec.ofNat 64 n := fun n => by
    simp [Int.ofNat_eq_natCast]
  rw [e2, e2, BitVec.toNat_or, BitVec.toNat_ofNat, BitVec.toNat_ofNat, Nat.mod_eq_of_lt (by omega : p < 2 ^ 64), Nat.mod_eq_of_lt (by omega : c * 2 ^ m < 2 ^ 64)]
  have e3 : p ||| c * 2 ^ m = p + c * 2 ^ m := by
    rw [Nat.or_comm, ← Nat.shiftLeft_eq, ← Nat.shiftLeft_add_eq_or_of_lt hp, Nat.add_comm]
  rw [e3]
  have e4 : p + c * 2 ^ m < 18446744073709551616 := by
    have : (c + 1) * 2 ^ m ≤ 256 * 2 ^ 56 := Nat.mul_le_mul (by omega) h1
    rw [Nat.succ_mul] at this
    omega
  have := wrap64 (p + c * 2 ^ m)
  rw [Nat.mod_eq_of_lt e4] at this
  exact this
end Go.Proofs.Ytkeieikhmaeiiaa
