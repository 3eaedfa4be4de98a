/- What is common, without the numbers of the curve. No condition. -/
import Derived.Test.YtnfglcfjjemjmaaOps
import Derived.Test.YtnfglcfjjemjmaaAm22
import Derived.Test.YtnfglcfjjemjmaaOpen
namespace Go.Proofs.Ytnfglcfjjemjmaa
open Go Go.RowKit
/-- The number that bytes are, the lowest first. -/
def V : List Int → Nat
  | [] => 0
  | x :: l => x.toNat + 256 * V l
/-- 32 bytes. -/
def By (l : List Int) : Prop := l.length = 32 ∧ ∀ x ∈ l, 0 ≤ x ∧ x < 256
def w0 (n : Nat) : Nat := n % 18446744073709551616
def w1 (n : Nat) : Nat := n / 18446744073709551616 % 18446744073709551616
def w2 (n : Nat) : Nat := n / 340282366920938463463374607431768211456 % 18446744073709551616
def w3 (n : Nat) : Nat := n / 6277101735386680763835789423207666416102355444464034512896 % 18446744073709551616
/-- A number as four words. -/
def W4 (n : Nat) : List Int := [Int.ofNat (w0 n), Int.ofNat (w1 n), Int.ofNat (w2 n), Int.ofNat (w3 n)]
/-- The number that four words are. -/
def V4 (a b c d : Nat) : Nat := a + 18446744073709551616 * b + 340282366920938463463374607431768211456 * c + 6277101735386680763835789423207666416102355444464034512896 * d
def In4 (a b c d : Nat) : Prop := a < 18446744073709551616 ∧ b < 18446744073709551616 ∧ c < 18446744073709551616 ∧ d < 18446744073709551616
/-- The number that bytes are. -/
def bv : List Nat → Nat
  | [] => 0
  | x :: l => x + 256 * bv l
theorem V_map : ∀ l : List Nat, V (l.map Int.ofNat) = bv l
  | [] => rfl
  | x :: l => by simp only [List.map_cons, V, bv, V_map l]; rfl
theorem bv_append : ∀ l m : List Nat, bv (l ++ m) = bv l + 256 ^ l.length * bv m
  | [], m => by simp [bv]
  | x :: l, m => by
    simp only [List.cons_append, bv, bv_append l m, List.length_cons, Nat.pow_succ]
    rw [Nat.mul_add, Nat.mul_comm (256 ^ l.length) 256, Nat.mul_assoc]; omega
theorem bv_lt : ∀ l : List Nat, (∀ x ∈ l, x < 256) → bv l < 256 ^ l.length
  | [], _ => by simp [bv]
  | x :: l, h => by
    have h1 := h x List.mem_cons_self
    have h2 := bv_lt l fun y hy => h y (List.mem_cons_of_mem _ hy)
    simp only [bv, List.length_cons, Nat.pow_succ]
    omega
theorem by_nat {l : List Int} (h : By l) : ∃ gs : List Nat, gs.length = 32 ∧ (∀ x ∈ gs, x < 256) ∧ l = gs.map Int.ofNat ∧ V l = bv gs := by
  refine ⟨l.map Int.toNat, by simp [h.1], ?_, ?_, ?_⟩
  · intro x hx
    obtain ⟨y, hy, rfl⟩ := List.mem_map.1 hx
    have := h.2 y hy
    omega
  · rw [List.map_map]
    have : ∀ m : List Int, (∀ x ∈ m, 0 ≤ x ∧ x < 256) → m = m.map (Int.ofNat ∘ Int.toNat) := by
      intro m
      induction m with
      | nil => intro _; rfl
      | cons x m ih =>
        intro hm
        simp only [List.map_cons]
        rw [← ih fun y hy => hm y (List.mem_cons_of_mem _ hy)]
        have := (hm x List.mem_cons_self).1
        congr 1
        simp only [Function.comp]
        exact (Int.toNat_of_nonneg this).symm
    exact this l h.2
  · have : ∀ m : List Int, V m = bv (m.map Int.toNat) := by
      intro m
      induction m with
      | nil => rfl
      | cons x m ih => simp only [List.map_cons, V, bv, ih]
    exact this l
theorem W4_V4 {a b c d : Nat} (h : In4 a b c d) : W4 (V4 a b c d) = [Int.ofNat a, Int.ofNat b, Int.ofNat c, Int.ofNat d] := by
  obtain ⟨h1, h2, h3, h4⟩ := h
  have e0 : w0 (V4 a b c d) = a := by simp only [w0, V4]; omega
  have e1 : w1 (V4 a b c d) = b := by simp only [w1, V4]; omega
  have e2 : w2 (V4 a b c d) = c := by simp only [w2, V4]; omega
  have e3 : w3 (V4 a b c d) = d := by simp only [w3, V4]; omega
  simp only [W4, e0, e1, e2, e3]
theorem V4_lt {a b c d : Nat} (h : In4 a b c d) : V4 a b c d < 115792089237316195423570985008687907853269984665640564039457584007913129639936 := by
  obtain ⟨h1, h2, h3, h4⟩ := h
  simp only [V4]; omega
theorem In4_w (n : Nat) : In4 (w0 n) (w1 n) (w2 n) (w3 n) := by
  simp only [In4, w0, w1, w2, w3]; omega
theorem V4_w {n : Nat} (h : n < 115792089237316195423570985008687907853269984665640564039457584007913129639936) : V4 (w0 n) (w1 n) (w2 n) (w3 n) = n := by
  simp only [V4, w0, w1, w2, w3]; omega

/-! ### A byte more -/
def orRaw (p c m : Nat) : Int := IntKind.u64.wrap ((BitVec.ofInt 64 (Int.ofNat p) ||| BitVec.ofInt 64 (IntKind.u64.wrap ((IntKind.u64.wrap (Int.ofNat c)) * 2 ^ (Nat.min m 64)))).toNat)
theorem wrap64 (n : Nat) : IntKind.u64.wrap (Int.ofNat n) = Int.ofNat (n % 18446744073709551616) := by
  rw [IntKind.wrap_u64]; simp only [Int.ofNat_eq_natCast]; omega
theorem or_step {p c m : Nat} (hm : m ≤ 56) (hp : p < 2 ^ m) (hc : c < 256) : orRaw p c m = Int.ofNat (p + c * 2 ^ m) := by
  have h1 : 2 ^ m ≤ 2 ^ 56 := Nat.pow_le_pow_right (by omega) hm
  have h2 : c * 2 ^ m ≤ 255 * 2 ^ 56 := Nat.mul_le_mul (by omega) h1
  have h3 : c * 2 ^ m < 18446744073709551616 := by omega
  have e1 : IntKind.u64.wrap (Int.ofNat c) * 2 ^ (Nat.min m 64) = Int.ofNat (c * 2 ^ m) := by
    rw [wrap64, Nat.mod_eq_of_lt (by omega), show Nat.min m 64 = m from Nat.min_eq_left (by omega)]
    simp [Int.natCast_mul, Int.natCast_pow]
  unfold orRaw
  rw [e1, wrap64, Nat.mod_eq_of_lt h3]
  have e2 : ∀ n : Nat, BitVec.ofInt 64 (Int.ofNat n) = BitVec.ofNat 64 n := fun n => by
    simp [Int.ofNat_eq_natCast]
  rw [e2, e2, BitVec.toNat_or, BitVec.toNat_ofNat, BitVec.toNat_ofNat, Nat.mod_eq_of_lt (by omega : p < 2 ^ 64), Nat.mod_eq_of_lt (by omega : c * 2 ^ m < 2 ^ 64)]
  have e3 : p ||| c * 2 ^ m = p + c * 2 ^ m := by
    rw [Nat.or_comm, ← Nat.shiftLeft_eq, ← Nat.shiftLeft_add_eq_or_of_lt hp, Nat.add_comm]
  rw [e3]
  have e4 : p + c * 2 ^ m < 18446744073709551616 := by
    have : (c + 1) * 2 ^ m ≤ 256 * 2 ^ 56 := Nat.mul_le_mul (by omega) h1
    rw [Nat.succ_mul] at this
    omega
  have := wrap64 (p + c * 2 ^ m)
  rw [Nat.mod_eq_of_lt e4] at this
  exact this
def cBP (P : Program) : OrcP := freeC (orcN P (fun _ _ => none) 1000 noC 6)
theorem cB_ok : OrcPOK Try.prog (cBP Try.prog) := freeC_ok (orcN_ok mixed (noC_ok _) 6)
def noD : Nat → Option (List Nat) := fun _ => none
def sb (x y c : Nat) : Nat := (x + 18446744073709551616 - y - c) % 18446744073709551616
def bo (x y c : Nat) : Nat := if x < y + c then 1 else 0
def ab (x y c : Nat) : Nat := (x + y + c) % 18446744073709551616
def ac (x y c : Nat) : Nat := (x + y + c) / 18446744073709551616
def andR (x y : Int) : Int := IntKind.u64.wrap ((BitVec.ofInt 64 x &&& BitVec.ofInt 64 y).toNat)
def shrR (x : Int) (m : Nat) : Int := Int.fdiv x (2 ^ (Nat.min m 64))
theorem ofInt_nat (n : Nat) : BitVec.ofInt 64 (Int.ofNat n) = BitVec.ofNat 64 n := by simp [Int.ofNat_eq_natCast]
theorem and_mask {x m : Nat} (hm : m ≤ 63) (hx : x < 18446744073709551616) : andR (Int.ofNat x) (Int.ofNat (2 ^ m - 1)) = Int.ofNat (x % 2 ^ m) := by
  have h1 : 2 ^ m ≤ 2 ^ 63 := Nat.pow_le_pow_right (by omega) hm
  unfold andR
  rw [ofInt_nat, ofInt_nat, BitVec.toNat_and, BitVec.toNat_ofNat, BitVec.toNat_ofNat, Nat.mod_eq_of_lt (show x < 2 ^ 64 by omega), Nat.mod_eq_of_lt (show 2 ^ m - 1 < 2 ^ 64 by have : 0 < 2 ^ m := Nat.two_pow_pos m; omega), Nat.and_two_pow_sub_one_eq_mod]
  have h3 := wrap64 (x % 2 ^ m)
  have h2 : x % 2 ^ m < 18446744073709551616 := Nat.lt_of_le_of_lt (Nat.mod_le _ _) hx
  rw [Nat.mod_eq_of_lt h2] at h3
  exact h3
theorem shr_eq {x m : Nat} (hm : m ≤ 64) : shrR (Int.ofNat x) m = Int.ofNat (x / 2 ^ m) := by
  unfold shrR
  rw [show Nat.min m 64 = m from Nat.min_eq_left hm, Int.fdiv_eq_ediv_of_nonneg _ (Int.pow_nonneg (by omega))]
  simp [Int.ofNat_eq_natCast, Int.natCast_ediv, Int.natCast_pow]
def addR (x y : Int) : Int := IntKind.u64.wrap (x + y)
def mulR (x y : Int) : Int := IntKind.u64.wrap (x * y)
theorem add_eq (x y : Nat) : addR (Int.ofNat x) (Int.ofNat y) = Int.ofNat ((x + y) % 18446744073709551616) := wrap64 (x + y)
theorem mul_eq (x y : Nat) : mulR (Int.ofNat x) (Int.ofNat y) = Int.ofNat ((x * y) % 18446744073709551616) := by
  have : Int.ofNat x * Int.ofNat y = Int.ofNat (x * y) := by simp [Int.ofNat_eq_natCast]
  unfold mulR; rw [this]; exact wrap64 (x * y)

def h_mul64 (x y : Nat) : Hints := ⟨fun _ t => match t with
  | 15 => some (.val (.int .u64 (Int.ofNat (x % 4294967296))))
  | 17 => some (.val (.int .u64 (Int.ofNat (x / 4294967296))))
  | 19 => some (.val (.int .u64 (Int.ofNat (y % 4294967296))))
  | 21 => some (.val (.int .u64 (Int.ofNat (y / 4294967296))))
  | 24 => some (.val (.int .u64 (Int.ofNat ((x % 4294967296) * (y % 4294967296)))))
  | 27 => some (.val (.int .u64 (Int.ofNat ((x / 4294967296) * (y % 4294967296)))))
  | 29 => some (.val (.int .u64 (Int.ofNat (((x % 4294967296) * (y % 4294967296)) / 4294967296))))
  | 30 => some (.val (.int .u64 (Int.ofNat (((x / 4294967296) * (y % 4294967296)) + (((x % 4294967296) * (y % 4294967296)) / 4294967296)))))
  | 32 => some (.val (.int .u64 (Int.ofNat ((((x / 4294967296) * (y % 4294967296)) + (((x % 4294967296) * (y % 4294967296)) / 4294967296)) % 4294967296))))
  | 34 => some (.val (.int .u64 (Int.ofNat ((((x / 4294967296) * (y % 4294967296)) + (((x % 4294967296) * (y % 4294967296)) / 4294967296)) / 4294967296))))
  | 38 => some (.val (.int .u64 (Int.ofNat ((x % 4294967296) * (y / 4294967296)))))
  | 39 => some (.val (.int .u64 (Int.ofNat (((((x / 4294967296) * (y % 4294967296)) + (((x % 4294967296) * (y % 4294967296)) / 4294967296)) % 4294967296) + ((x % 4294967296) * (y / 4294967296))))))
  | 42 => some (.val (.int .u64 (Int.ofNat ((x / 4294967296) * (y / 4294967296)))))
  | 44 => some (.val (.int .u64 (Int.ofNat (((x / 4294967296) * (y / 4294967296)) + ((((x / 4294967296) * (y % 4294967296)) + (((x % 4294967296) * (y % 4294967296)) / 4294967296)) / 4294967296)))))
  | 46 => some (.val (.int .u64 (Int.ofNat ((((((x / 4294967296) * (y % 4294967296)) + (((x % 4294967296) * (y % 4294967296)) / 4294967296)) % 4294967296) + ((x % 4294967296) * (y / 4294967296))) / 4294967296))))
  | 47 => some (.val (.int .u64 (Int.ofNat (x * y / 18446744073709551616))))
  | 50 => some (.val (.int .u64 (Int.ofNat (x * y % 18446744073709551616))))
  | _ => none, fun _ _ => none⟩
theorem run_mul64 (x y : Nat) : specW Try.prog noD (cBP Try.prog) (h_mul64 x y) 100 90 [.int .u64 (Int.ofNat x), .int .u64 (Int.ofNat y)] [] (fun v M => v = AV.tup [.int .u64 (Int.ofNat (x * y / 18446744073709551616)), .int .u64 (Int.ofNat (x * y % 18446744073709551616))] ∧ M = []) =
  (AV.int .u64 (andR (Int.ofNat x) (Int.ofNat (2 ^ 32 - 1))) = AV.int .u64 (Int.ofNat (x % 4294967296)) ∧ AV.int .u64 (shrR (Int.ofNat x) 32) = AV.int .u64 (Int.ofNat (x / 4294967296)) ∧ AV.int .u64 (andR (Int.ofNat y) (Int.ofNat (2 ^ 32 - 1))) = AV.int .u64 (Int.ofNat (y % 4294967296)) ∧ AV.int .u64 (shrR (Int.ofNat y) 32) = AV.int .u64 (Int.ofNat (y / 4294967296)) ∧ AV.int .u64 (mulR (Int.ofNat (x % 4294967296)) (Int.ofNat (y % 4294967296))) = AV.int .u64 (Int.ofNat ((x % 4294967296) * (y % 4294967296))) ∧ AV.int .u64 (mulR (Int.ofNat (x / 4294967296)) (Int.ofNat (y % 4294967296))) = AV.int .u64 (Int.ofNat ((x / 4294967296) * (y % 4294967296))) ∧ AV.int .u64 (shrR (Int.ofNat ((x % 4294967296) * (y % 4294967296))) 32) = AV.int .u64 (Int.ofNat (((x % 4294967296) * (y % 4294967296)) / 4294967296)) ∧ AV.int .u64 (addR (Int.ofNat ((x / 4294967296) * (y % 4294967296))) (Int.ofNat (((x % 4294967296) * (y % 4294967296)) / 4294967296))) = AV.int .u64 (Int.ofNat (((x / 4294967296) * (y % 4294967296)) + (((x % 4294967296) * (y % 4294967296)) / 4294967296))) ∧ AV.int .u64 (andR (Int.ofNat (((x / 4294967296) * (y % 4294967296)) + (((x % 4294967296) * (y % 4294967296)) / 4294967296))) (Int.ofNat (2 ^ 32 - 1))) = AV.int .u64 (Int.ofNat ((((x / 4294967296) * (y % 4294967296)) + (((x % 4294967296) * (y % 4294967296)) / 4294967296)) % 4294967296)) ∧ AV.int .u64 (shrR (Int.ofNat (((x / 4294967296) * (y % 4294967296)) + (((x % 4294967296) * (y % 4294967296)) / 4294967296))) 32) = AV.int .u64 (Int.ofNat ((((x / 4294967296) * (y % 4294967296)) + (((x % 4294967296) * (y % 4294967296)) / 4294967296)) / 4294967296)) ∧ AV.int .u64 (mulR (Int.ofNat (x % 4294967296)) (Int.ofNat (y / 4294967296))) = AV.int .u64 (Int.ofNat ((x % 4294967296) * (y / 4294967296))) ∧ AV.int .u64 (addR (Int.ofNat ((((x / 4294967296) * (y % 4294967296)) + (((x % 4294967296) * (y % 4294967296)) / 4294967296)) % 4294967296)) (Int.ofNat ((x % 4294967296) * (y / 4294967296)))) = AV.int .u64 (Int.ofNat (((((x / 4294967296) * (y % 4294967296)) + (((x % 4294967296) * (y % 4294967296)) / 4294967296)) % 4294967296) + ((x % 4294967296) * (y / 4294967296)))) ∧ AV.int .u64 (mulR (Int.ofNat (x / 4294967296)) (Int.ofNat (y / 4294967296))) = AV.int .u64 (Int.ofNat ((x / 4294967296) * (y / 4294967296))) ∧ AV.int .u64 (addR (Int.ofNat ((x / 4294967296) * (y / 4294967296))) (Int.ofNat ((((x / 4294967296) * (y % 4294967296)) + (((x % 4294967296) * (y % 4294967296)) / 4294967296)) / 4294967296))) = AV.int .u64 (Int.ofNat (((x / 4294967296) * (y / 4294967296)) + ((((x / 4294967296) * (y % 4294967296)) + (((x % 4294967296) * (y % 4294967296)) / 4294967296)) / 4294967296))) ∧ AV.int .u64 (shrR (Int.ofNat (((((x / 4294967296) * (y % 4294967296)) + (((x % 4294967296) * (y % 4294967296)) / 4294967296)) % 4294967296) + ((x % 4294967296) * (y / 4294967296)))) 32) = AV.int .u64 (Int.ofNat ((((((x / 4294967296) * (y % 4294967296)) + (((x % 4294967296) * (y % 4294967296)) / 4294967296)) % 4294967296) + ((x % 4294967296) * (y / 4294967296))) / 4294967296)) ∧ AV.int .u64 (addR (Int.ofNat (((x / 4294967296) * (y / 4294967296)) + ((((x / 4294967296) * (y % 4294967296)) + (((x % 4294967296) * (y % 4294967296)) / 4294967296)) / 4294967296))) (Int.ofNat ((((((x / 4294967296) * (y % 4294967296)) + (((x % 4294967296) * (y % 4294967296)) / 4294967296)) % 4294967296) + ((x % 4294967296) * (y / 4294967296))) / 4294967296))) = AV.int .u64 (Int.ofNat (x * y / 18446744073709551616)) ∧ AV.int .u64 (mulR (Int.ofNat x) (Int.ofNat y)) = AV.int .u64 (Int.ofNat (x * y % 18446744073709551616)) ∧ AV.tup [.int .u64 (Int.ofNat (x * y / 18446744073709551616)), .int .u64 (Int.ofNat (x * y % 18446744073709551616))] = AV.tup [.int .u64 (Int.ofNat (x * y / 18446744073709551616)), .int .u64 (Int.ofNat (x * y % 18446744073709551616))] ∧ ([] : Mem) = []) := by kernel_rfl
def s_mul64 : Spec := fun a M => match a, M with
  | [.int .u64 (.ofNat x), .int .u64 (.ofNat y)], [] => some (some (x < 18446744073709551616 ∧ y < 18446744073709551616), .tup [.int .u64 (Int.ofNat (x * y / 18446744073709551616)), .int .u64 (Int.ofNat (x * y % 18446744073709551616))], [])
  | _, _ => none
theorem mul64_ok {x y : Nat} (h : x < 18446744073709551616 ∧ y < 18446744073709551616) : ∃ D H N, specW Try.prog D (cBP Try.prog) H N 90 [.int .u64 (.ofNat x), .int .u64 (.ofNat y)] [] fun v M => v = .tup [.int .u64 (Int.ofNat (x * y / 18446744073709551616)), .int .u64 (Int.ofNat (x * y % 18446744073709551616))] ∧ M = [] := by
  obtain ⟨hx, hy⟩ := h
  refine ⟨noD, h_mul64 x y, 100, Eq.mpr (run_mul64 x y) ?_⟩
  have ex : x = x % 4294967296 + 4294967296 * (x / 4294967296) := by omega
  have ey : y = y % 4294967296 + 4294967296 * (y / 4294967296) := by omega
  have hxy : x * y = x % 4294967296 * (y % 4294967296) + 4294967296 * (x / 4294967296 * (y % 4294967296) + x % 4294967296 * (y / 4294967296)) + 18446744073709551616 * (x / 4294967296 * (y / 4294967296)) := by
    generalize x % 4294967296 = p at *
    generalize x / 4294967296 = q at *
    generalize y % 4294967296 = r at *
    generalize y / 4294967296 = s at *
    subst ex; subst ey
    simp only [Nat.add_mul, Nat.mul_add]
    have e1 : p * (4294967296 * s) = 4294967296 * (p * s) := Nat.mul_left_comm _ _ _
    have e2 : 4294967296 * q * r = 4294967296 * (q * r) := Nat.mul_assoc _ _ _
    have e3 : 4294967296 * q * (4294967296 * s) = 18446744073709551616 * (q * s) := by
      rw [Nat.mul_assoc, Nat.mul_left_comm q, ← Nat.mul_assoc]
    omega
  have lt : ∀ {a b : Nat}, a < 4294967296 → b < 4294967296 → a * b ≤ 18446744065119617025 := fun ha hb => Nat.mul_le_mul (show _ ≤ 4294967295 by omega) (show _ ≤ 4294967295 by omega)
  have h00 := lt (show x % 4294967296 < 4294967296 by omega) (show y % 4294967296 < 4294967296 by omega)
  have h10 := lt (show x / 4294967296 < 4294967296 by omega) (show y % 4294967296 < 4294967296 by omega)
  have h01 := lt (show x % 4294967296 < 4294967296 by omega) (show y / 4294967296 < 4294967296 by omega)
  have h11 := lt (show x / 4294967296 < 4294967296 by omega) (show y / 4294967296 < 4294967296 by omega)
  have e32 : (4294967296 : Nat) = 2 ^ 32 := rfl
  have c : ∀ {a b : Int}, a = b → AV.int .u64 a = AV.int .u64 b := fun h => by rw [h]
  have o : ∀ {a b : Nat}, a = b → Int.ofNat a = Int.ofNat b := fun h => by rw [h]
  refine ⟨c (and_mask (by omega) hx), c (shr_eq (by omega)), c (and_mask (by omega) hy), c (shr_eq (by omega)), c ((mul_eq _ _).trans (o (Nat.mod_eq_of_lt ?_))), c ((mul_eq _ _).trans (o (Nat.mod_eq_of_lt ?_))), c (shr_eq (by omega)), c ((add_eq _ _).trans (o (Nat.mod_eq_of_lt ?_))), c (and_mask (by omega) ?_), c (shr_eq (by omega)), c ((mul_eq _ _).trans (o (Nat.mod_eq_of_lt ?_))), c ((add_eq _ _).trans (o (Nat.mod_eq_of_lt ?_))), c ((mul_eq _ _).trans (o (Nat.mod_eq_of_lt ?_))), c ((add_eq _ _).trans (o (Nat.mod_eq_of_lt ?_))), c (shr_eq (by omega)), c ((add_eq _ _).trans (o ?_)), c (mul_eq _ _), rfl, rfl⟩
  all_goals
    generalize x % 4294967296 * (y % 4294967296) = p00 at *
    generalize x / 4294967296 * (y % 4294967296) = p10 at *
    generalize x % 4294967296 * (y / 4294967296) = p01 at *
    generalize x / 4294967296 * (y / 4294967296) = p11 at *
    first | omega | (generalize x * y = xy at *; clear ex ey; omega)
theorem i64_small (n : Nat) (h : n < 9223372036854775808) : IntKind.i64.wrap (Int.ofNat n) = Int.ofNat n := by
  rw [IntKind.wrap_i64]; simp only [Int.ofNat_eq_natCast]; omega

theorem bifb (b : Bool) : (Int.ofNat (bif b then 1 else 0) == 1) = b := by cases b <;> rfl
theorem bifT {b : Bool} {A : Prop} (hb : b = true) (h : A) : bif b then A else False := by rw [hb]; exact h
theorem by_get {l : List Int} (h : ∀ x ∈ l, 0 ≤ x ∧ x < 256) {j : Nat} (hj : j < l.length) : l.getD j 0 = Int.ofNat (l.getD j 0).toNat ∧ (l.getD j 0).toNat < 256 := by
  have : l.getD j 0 = l[j] := by simp [List.getD, List.getElem?_eq_getElem hj]
  have h2 := h l[j] (List.getElem_mem hj)
  rw [this]
  exact ⟨(Int.toNat_of_nonneg h2.1).symm, by omega⟩
theorem bit8 {x m : Nat} (hx : x < 256) (hm : m < 8) : (IntKind.u8.wrap ((BitVec.ofInt 8 (Int.fdiv (Int.ofNat x) (2 ^ (Nat.min m 8))) &&& BitVec.ofInt 8 (1 : Int)).toNat) == 1) = (x / 2 ^ m % 2 == 1) := by
  have e : ∀ x : Fin 256, ∀ m : Fin 8, (IntKind.u8.wrap ((BitVec.ofInt 8 (Int.fdiv (Int.ofNat x) (2 ^ (Nat.min m 8))) &&& BitVec.ofInt 8 (1 : Int)).toNat) == 1) = (x.val / 2 ^ m.val % 2 == 1) := by decide +kernel
  exact e ⟨x, hx⟩ ⟨m, hm⟩
theorem aB {a b : Bool} (h : a = b) : AV.bool a = AV.bool b := by rw [h]
theorem aI {k : IntKind} {a b : Int} (h : a = b) : AV.int k a = AV.int k b := by rw [h]
theorem quo8 (n : Nat) (h : n < 4611686018427387904) : IntKind.i64.wrap (Int.tdiv (Int.ofNat n) 8) = Int.ofNat (n / 8) := by
  show IntKind.i64.wrap (Int.ofNat (n / 8)) = _
  exact i64_small _ (by omega)
theorem inR_ok {n m : Nat} (h : n < m) : inR (Int.ofNat n) m = some n := by
  have : Nat.blt n m = true := by simpa using h
  simp only [inR, this, cond_true]
theorem inB_ok {n m : Nat} (h : n ≤ m) : inB (Int.ofNat n) m = some n := by
  have : Nat.ble n m = true := by simpa using h
  simp only [inB, this, cond_true]
def Bys (l : List Int) : Prop := ∀ x ∈ l, 0 ≤ x ∧ x < 256
theorem seg_len {l : List Int} {off n : Nat} (h : off + n ≤ l.length) : (seg l off n).length = n := by
  simp only [seg, List.length_take, List.length_drop]; omega
theorem seg_by {l : List Int} {off n : Nat} (h : Bys l) : Bys (seg l off n) := fun x hx => h x (List.mem_of_mem_drop (List.mem_of_mem_take hx))
theorem seg_take {l : List Int} {off n k : Nat} (h : k ≤ n) : (seg l off n).take k = seg l off k := by
  simp only [seg, List.take_take, Nat.min_eq_left h]
theorem seg_get {l : List Int} {off n k : Nat} (h : k < n) : (seg l off n).getD k 0 = l.getD (off + k) 0 := by
  simp only [seg, List.getD, List.getElem?_take, h, if_true, List.getElem?_drop]
theorem min64 (n : Nat) : (if (64 : Int) < Int.ofNat n then 64 else Int.ofNat n) = Int.ofNat (Nat.min n 64) := by
  split
  · rw [show Nat.min n 64 = 64 from Nat.min_eq_right (by simp only [Int.ofNat_eq_natCast] at *; omega)]; rfl
  · rw [show Nat.min n 64 = n from Nat.min_eq_left (by simp only [Int.ofNat_eq_natCast] at *; omega)]
theorem lt_ok {a b : Nat} (h : a < b) : decide (Int.ofNat a < Int.ofNat b) = true := decide_eq_true (Int.ofNat_lt.2 h)
theorem lt_no {a b : Nat} (h : ¬ a < b) : decide (Int.ofNat a < Int.ofNat b) = false := decide_eq_false fun k => h (Int.ofNat_lt.1 k)
theorem inc_ok {n : Nat} (h : n < 4611686018427387904) : IntKind.i64.wrap (Int.ofNat n + 1) = Int.ofNat (n + 1) := i64_small (n + 1) (by omega)
theorem mul8 {n : Nat} (h : n < 1024) : IntKind.i64.wrap ((8 : Int) * Int.ofNat n) = Int.ofNat (8 * n) := by
  have := i64_small (8 * n) (by omega)
  rw [← this]; congr 1
theorem beqT {α : Type} [BEq α] [LawfulBEq α] {a b : α} (h : a = b) : AV.bool (a == b) = AV.bool true := by
  rw [beq_iff_eq.2 h]
theorem seg_all {l : List Int} {n : Nat} (h : l.length = n) : seg l 0 n = l := by
  subst h; simp only [seg, List.drop_zero, List.take_length]
theorem bltT {a b : Nat} (h : a < b) : AV.bool (Nat.blt a b) = AV.bool true := by rw [blt_ok h]
theorem seg_app {a b : List Int} {off n : Nat} (h : off + n ≤ a.length) : seg (a ++ b) off n = seg a off n := by
  simp only [seg, List.drop_append, List.take_append, List.length_drop]
  rw [show n - (a.length - off) = 0 by omega, List.take_zero, List.append_nil]
theorem no_gt {n m : Nat} (h : decide (Int.ofNat n > (m : Int)) = false) : ¬ m < n := fun k => by
  have : Int.ofNat n > (m : Int) := Int.ofNat_lt.2 k
  rw [decide_eq_true this] at h; cases h
def cS (P : Program) : OrcP := addS (cBP P) 90 s_mul64
theorem cS_ok : OrcPOK Try.prog (cS Try.prog) := by
  unfold cS
  refine addS_ok mixed cB_ok cB_ok ?_
  intro a M q v M' h hq
  unfold s_mul64 at h
  split at h
  · simp only [Option.some.injEq, Prod.mk.injEq] at h
    obtain ⟨rfl, rfl, rfl⟩ := h
    exact mul64_ok hq
  · cases h
end Go.Proofs.Ytnfglcfjjemjmaa
