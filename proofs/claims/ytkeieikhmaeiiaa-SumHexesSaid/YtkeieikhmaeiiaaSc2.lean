/- Differences, sums, products of words. No condition. -/
import Derived.Test.YtkeieikhmaeiiaaSc1
namespace Go.Proofs.Ytkeieikhmaeiiaa
open Go Go.RowKit

def sb (x y c : Nat) : Nat := (x + 18446744073709551616 - y - c) % 18446744073709551616
def bo (x y c : Nat) : Nat := if x < y + c then 1 else 0
def ab (x y c : Nat) : Nat := (x + y + c) % 18446744073709551616
def ac (x y c : Nat) : Nat := (x + y + c) / 18446744073709551616
theorem bo_le (x y c : Nat) : bo x y c ≤ 1 := by unfold bo; split <;> omega
theorem sb_eq {x y c : Nat} (hx : x < 18446744073709551616) (hy : y < 18446744073709551616) (hc : c ≤ 1) : sb x y c + y + c = x + 18446744073709551616 * bo x y c ∧ sb x y c < 18446744073709551616 := by
  unfold sb bo; split <;> omega
theorem ab_eq {x y c : Nat} (hx : x < 18446744073709551616) (hy : y < 18446744073709551616) (hc : c ≤ 1) : ab x y c + 18446744073709551616 * ac x y c = x + y + c ∧ ab x y c < 18446744073709551616 ∧ ac x y c ≤ 1 := by
  unfold ab ac; omega
theorem W4_add (n f : Nat) : W4 (n + 115792089237316195423570985008687907853269984665640564039457584007913129639936 * f) = W4 n := by
  have e0 : w0 (n + 115792089237316195423570985008687907853269984665640564039457584007913129639936 * f) = w0 n := by simp only [w0]; omega
  have e1 : w1 (n + 115792089237316195423570985008687907853269984665640564039457584007913129639936 * f) = w1 n := by simp only [w1]; omega
  have e2 : w2 (n + 115792089237316195423570985008687907853269984665640564039457584007913129639936 * f) = w2 n := by simp only [w2]; omega
  have e3 : w3 (n + 115792089237316195423570985008687907853269984665640564039457584007913129639936 * f) = w3 n := by simp only [w3]; omega
  simp only [W4, e0, e1, e2, e3]
theorem sub_words {a0 a1 a2 a3 b0 b1 b2 b3 : Nat} (ha : In4 a0 a1 a2 a3) (hb : In4 b0 b1 b2 b3) :
    [Int.ofNat (sb a0 b0 0), Int.ofNat (sb a1 b1 (bo a0 b0 0)), Int.ofNat (sb a2 b2 (bo a1 b1 (bo a0 b0 0))), Int.ofNat (sb a3 b3 (bo a2 b2 (bo a1 b1 (bo a0 b0 0))))] = W4 (V4 a0 a1 a2 a3 + 115792089237316195423570985008687907853269984665640564039457584007913129639936 - V4 b0 b1 b2 b3) ∧
    bo a3 b3 (bo a2 b2 (bo a1 b1 (bo a0 b0 0))) = bif Nat.blt (V4 a0 a1 a2 a3) (V4 b0 b1 b2 b3) then 1 else 0 := by
  obtain ⟨h0, h1, h2, h3⟩ := ha
  obtain ⟨k0, k1, k2, k3⟩ := hb
  have c1 := bo_le a0 b0 0
  have e0 := sb_eq h0 k0 (show 0 ≤ 1 by omega)
  generalize bo a0 b0 0 = c at *
  have c2 := bo_le a1 b1 c
  have e1 := sb_eq h1 k1 c1
  generalize bo a1 b1 c = d at *
  have c3 := bo_le a2 b2 d
  have e2 := sb_eq h2 k2 c2
  generalize bo a2 b2 d = e at *
  have c4 := bo_le a3 b3 e
  have e3 := sb_eq h3 k3 c3
  generalize bo a3 b3 e = f at *
  generalize sb a0 b0 0 = x0 at *
  generalize sb a1 b1 c = x1 at *
  generalize sb a2 b2 d = x2 at *
  generalize sb a3 b3 e = x3 at *
  refine ⟨?_, ?_⟩
  · rw [← W4_V4 ⟨e0.2, e1.2, e2.2, e3.2⟩]
    have key : V4 x0 x1 x2 x3 + V4 b0 b1 b2 b3 = V4 a0 a1 a2 a3 + 115792089237316195423570985008687907853269984665640564039457584007913129639936 * f := by simp only [V4]; omega
    have hlt := V4_lt ⟨e0.2, e1.2, e2.2, e3.2⟩
    have mod : ∀ n, W4 (n + 115792089237316195423570985008687907853269984665640564039457584007913129639936) = W4 n := fun n => by have := W4_add n 1; rwa [Nat.mul_one] at this
    rcases Nat.le_one_iff_eq_zero_or_eq_one.1 c4 with rfl | rfl
    · have : V4 a0 a1 a2 a3 + 115792089237316195423570985008687907853269984665640564039457584007913129639936 - V4 b0 b1 b2 b3 = V4 x0 x1 x2 x3 + 115792089237316195423570985008687907853269984665640564039457584007913129639936 := by omega
      rw [this, mod]
    · congr 1; omega
  · have key : V4 x0 x1 x2 x3 + V4 b0 b1 b2 b3 = V4 a0 a1 a2 a3 + 115792089237316195423570985008687907853269984665640564039457584007913129639936 * f := by simp only [V4]; omega
    have hlt := V4_lt ⟨e0.2, e1.2, e2.2, e3.2⟩
    have hlt2 := V4_lt ⟨k0, k1, k2, k3⟩
    rcases Nat.le_one_iff_eq_zero_or_eq_one.1 c4 with rfl | rfl
    · have : Nat.blt (V4 a0 a1 a2 a3) (V4 b0 b1 b2 b3) = false := by
        cases hq : Nat.blt (V4 a0 a1 a2 a3) (V4 b0 b1 b2 b3) with
        | false => rfl
        | true => have := blt_true hq; omega
      rw [this]; rfl
    · have : Nat.blt (V4 a0 a1 a2 a3) (V4 b0 b1 b2 b3) = true := by
        have : V4 a0 a1 a2 a3 < V4 b0 b1 b2 b3 := by omega
        simpa using this
      rw [this]; rfl
theorem add_words {a0 a1 a2 a3 b0 b1 b2 b3 : Nat} (ha : In4 a0 a1 a2 a3) (hb : In4 b0 b1 b2 b3) :
    [Int.ofNat (ab a0 b0 0), Int.ofNat (ab a1 b1 (ac a0 b0 0)), Int.ofNat (ab a2 b2 (ac a1 b1 (ac a0 b0 0))), Int.ofNat (ab a3 b3 (ac a2 b2 (ac a1 b1 (ac a0 b0 0))))] = W4 (V4 a0 a1 a2 a3 + V4 b0 b1 b2 b3) ∧
    ac a3 b3 (ac a2 b2 (ac a1 b1 (ac a0 b0 0))) = (V4 a0 a1 a2 a3 + V4 b0 b1 b2 b3) / 115792089237316195423570985008687907853269984665640564039457584007913129639936 ∧ ac a0 b0 0 ≤ 1 ∧ ac a1 b1 (ac a0 b0 0) ≤ 1 ∧ ac a2 b2 (ac a1 b1 (ac a0 b0 0)) ≤ 1 := by
  obtain ⟨h0, h1, h2, h3⟩ := ha
  obtain ⟨k0, k1, k2, k3⟩ := hb
  have e0 := ab_eq h0 k0 (show 0 ≤ 1 by omega)
  generalize ac a0 b0 0 = c at *
  have e1 := ab_eq h1 k1 e0.2.2
  generalize ac a1 b1 c = d at *
  have e2 := ab_eq h2 k2 e1.2.2
  generalize ac a2 b2 d = e at *
  have e3 := ab_eq h3 k3 e2.2.2
  generalize ac a3 b3 e = f at *
  generalize ab a0 b0 0 = x0 at *
  generalize ab a1 b1 c = x1 at *
  generalize ab a2 b2 d = x2 at *
  generalize ab a3 b3 e = x3 at *
  have hin : In4 x0 x1 x2 x3 := ⟨e0.2.1, e1.2.1, e2.2.1, e3.2.1⟩
  have key : V4 x0 x1 x2 x3 + 115792089237316195423570985008687907853269984665640564039457584007913129639936 * f = V4 a0 a1 a2 a3 + V4 b0 b1 b2 b3 := by simp only [V4]; omega
  have hlt := V4_lt hin
  refine ⟨?_, by omega, e0.2.2, e1.2.2, e2.2.2⟩
  rw [← W4_V4 hin, ← key, W4_add]

def h_minus : Hints := ⟨fun it t => match t, it with
  | 20, [some _] => some .ask
  | _, _ => none, fun _ _ => none⟩
theorem run_minus (a0 a1 a2 a3 b0 b1 b2 b3 : Nat) : specW Try.prog noD (cBP Try.prog) h_minus 100 31 [.nums .u64 [Int.ofNat a0, Int.ofNat a1, Int.ofNat a2, Int.ofNat a3], .nums .u64 [Int.ofNat b0, Int.ofNat b1, Int.ofNat b2, Int.ofNat b3]] [] (fun v M => v = AV.tup [.nums .u64 [Int.ofNat (sb a0 b0 0), Int.ofNat (sb a1 b1 (bo a0 b0 0)), Int.ofNat (sb a2 b2 (bo a1 b1 (bo a0 b0 0))), Int.ofNat (sb a3 b3 (bo a2 b2 (bo a1 b1 (bo a0 b0 0))))], .bool (Int.ofNat (bo a3 b3 (bo a2 b2 (bo a1 b1 (bo a0 b0 0)))) == 1)] ∧ M = []) =
  ((Int.toNat 0 ≤ 1) ∧ ((bo a0 b0 0) ≤ 1) ∧ ((bo a1 b1 (bo a0 b0 0)) ≤ 1) ∧ ((bo a2 b2 (bo a1 b1 (bo a0 b0 0))) ≤ 1) ∧ AV.tup [.nums .u64 [Int.ofNat (sb a0 b0 0), Int.ofNat (sb a1 b1 (bo a0 b0 0)), Int.ofNat (sb a2 b2 (bo a1 b1 (bo a0 b0 0))), Int.ofNat (sb a3 b3 (bo a2 b2 (bo a1 b1 (bo a0 b0 0))))], .bool (Int.ofNat (bo a3 b3 (bo a2 b2 (bo a1 b1 (bo a0 b0 0)))) == 1)] = AV.tup [.nums .u64 [Int.ofNat (sb a0 b0 0), Int.ofNat (sb a1 b1 (bo a0 b0 0)), Int.ofNat (sb a2 b2 (bo a1 b1 (bo a0 b0 0))), Int.ofNat (sb a3 b3 (bo a2 b2 (bo a1 b1 (bo a0 b0 0))))], .bool (Int.ofNat (bo a3 b3 (bo a2 b2 (bo a1 b1 (bo a0 b0 0)))) == 1)] ∧ ([] : Mem) = []) := by kernel_rfl
def s_minus : Spec := fun a M => match a, M with
  | [.nums .u64 [.ofNat a0, .ofNat a1, .ofNat a2, .ofNat a3], .nums .u64 [.ofNat b0, .ofNat b1, .ofNat b2, .ofNat b3]], [] => some (some (In4 a0 a1 a2 a3 ∧ In4 b0 b1 b2 b3), .tup [.nums .u64 (W4 (V4 a0 a1 a2 a3 + 115792089237316195423570985008687907853269984665640564039457584007913129639936 - V4 b0 b1 b2 b3)), .bool (Nat.blt (V4 a0 a1 a2 a3) (V4 b0 b1 b2 b3))], [])
  | _, _ => none
theorem minus_ok {a0 a1 a2 a3 b0 b1 b2 b3 : Nat} (h : In4 a0 a1 a2 a3 ∧ In4 b0 b1 b2 b3) : ∃ D H N, specW Try.prog D (cBP Try.prog) H N 31 [.nums .u64 [Int.ofNat a0, Int.ofNat a1, Int.ofNat a2, Int.ofNat a3], .nums .u64 [Int.ofNat b0, Int.ofNat b1, Int.ofNat b2, Int.ofNat b3]] [] fun v M => v = .tup [.nums .u64 (W4 (V4 a0 a1 a2 a3 + 115792089237316195423570985008687907853269984665640564039457584007913129639936 - V4 b0 b1 b2 b3)), .bool (Nat.blt (V4 a0 a1 a2 a3) (V4 b0 b1 b2 b3))] ∧ M = [] := by
  obtain ⟨h1, h2⟩ := sub_words h.1 h.2
  have h3 : (Int.ofNat (bo a3 b3 (bo a2 b2 (bo a1 b1 (bo a0 b0 0)))) == 1) = Nat.blt (V4 a0 a1 a2 a3) (V4 b0 b1 b2 b3) := by
    rw [h2]; cases Nat.blt (V4 a0 a1 a2 a3) (V4 b0 b1 b2 b3) <;> rfl
  rw [← h1, ← h3]
  refine ⟨noD, h_minus, 100, Eq.mpr (run_minus a0 a1 a2 a3 b0 b1 b2 b3) ?_⟩
  exact ⟨by decide, bo_le _ _ _, bo_le _ _ _, bo_le _ _ _, rfl, rfl⟩
def h_minusr : Hints := ⟨fun it t => match t, it with
  | 21, [some _] => some .ask
  | _, _ => none, fun _ _ => none⟩
theorem run_minusr (a0 a1 a2 a3 b0 b1 b2 b3 : Nat) : specW Try.prog noD (cBP Try.prog) h_minusr 100 33 [.nums .u64 [Int.ofNat a0, Int.ofNat a1, Int.ofNat a2, Int.ofNat a3], .nums .u64 [Int.ofNat b0, Int.ofNat b1, Int.ofNat b2, Int.ofNat b3]] [] (fun v M => v = AV.tup [.nums .u64 [Int.ofNat (sb a0 b0 0), Int.ofNat (sb a1 b1 (bo a0 b0 0)), Int.ofNat (sb a2 b2 (bo a1 b1 (bo a0 b0 0))), Int.ofNat (sb a3 b3 (bo a2 b2 (bo a1 b1 (bo a0 b0 0))))], .int .u64 (Int.ofNat (bo a3 b3 (bo a2 b2 (bo a1 b1 (bo a0 b0 0)))))] ∧ M = []) =
  ((Int.toNat 0 ≤ 1) ∧ ((bo a0 b0 0) ≤ 1) ∧ ((bo a1 b1 (bo a0 b0 0)) ≤ 1) ∧ ((bo a2 b2 (bo a1 b1 (bo a0 b0 0))) ≤ 1) ∧ AV.tup [.nums .u64 [Int.ofNat (sb a0 b0 0), Int.ofNat (sb a1 b1 (bo a0 b0 0)), Int.ofNat (sb a2 b2 (bo a1 b1 (bo a0 b0 0))), Int.ofNat (sb a3 b3 (bo a2 b2 (bo a1 b1 (bo a0 b0 0))))], .int .u64 (Int.ofNat (bo a3 b3 (bo a2 b2 (bo a1 b1 (bo a0 b0 0)))))] = AV.tup [.nums .u64 [Int.ofNat (sb a0 b0 0), Int.ofNat (sb a1 b1 (bo a0 b0 0)), Int.ofNat (sb a2 b2 (bo a1 b1 (bo a0 b0 0))), Int.ofNat (sb a3 b3 (bo a2 b2 (bo a1 b1 (bo a0 b0 0))))], .int .u64 (Int.ofNat (bo a3 b3 (bo a2 b2 (bo a1 b1 (bo a0 b0 0)))))] ∧ ([] : Mem) = []) := by kernel_rfl
def s_minusr : Spec := fun a M => match a, M with
  | [.nums .u64 [.ofNat a0, .ofNat a1, .ofNat a2, .ofNat a3], .nums .u64 [.ofNat b0, .ofNat b1, .ofNat b2, .ofNat b3]], [] => some (some (In4 a0 a1 a2 a3 ∧ In4 b0 b1 b2 b3), .tup [.nums .u64 (W4 (V4 a0 a1 a2 a3 + 115792089237316195423570985008687907853269984665640564039457584007913129639936 - V4 b0 b1 b2 b3)), .int .u64 (Int.ofNat (bif Nat.blt (V4 a0 a1 a2 a3) (V4 b0 b1 b2 b3) then 1 else 0))], [])
  | _, _ => none
theorem minusr_ok {a0 a1 a2 a3 b0 b1 b2 b3 : Nat} (h : In4 a0 a1 a2 a3 ∧ In4 b0 b1 b2 b3) : ∃ D H N, specW Try.prog D (cBP Try.prog) H N 33 [.nums .u64 [Int.ofNat a0, Int.ofNat a1, Int.ofNat a2, Int.ofNat a3], .nums .u64 [Int.ofNat b0, Int.ofNat b1, Int.ofNat b2, Int.ofNat b3]] [] fun v M => v = .tup [.nums .u64 (W4 (V4 a0 a1 a2 a3 + 115792089237316195423570985008687907853269984665640564039457584007913129639936 - V4 b0 b1 b2 b3)), .int .u64 (Int.ofNat (bif Nat.blt (V4 a0 a1 a2 a3) (V4 b0 b1 b2 b3) then 1 else 0))] ∧ M = [] := by
  obtain ⟨h1, h2⟩ := sub_words h.1 h.2
  rw [← h1, ← h2]
  refine ⟨noD, h_minusr, 100, Eq.mpr (run_minusr a0 a1 a2 a3 b0 b1 b2 b3) ?_⟩
  exact ⟨by decide, bo_le _ _ _, bo_le _ _ _, bo_le _ _ _, rfl, rfl⟩
def h_plusr : Hints := ⟨fun it t => match t, it with
  | 21, [some _] => some .ask
  | _, _ => none, fun _ _ => none⟩
theorem run_plusr (a0 a1 a2 a3 b0 b1 b2 b3 : Nat) : specW Try.prog noD (cBP Try.prog) h_plusr 100 39 [.nums .u64 [Int.ofNat a0, Int.ofNat a1, Int.ofNat a2, Int.ofNat a3], .nums .u64 [Int.ofNat b0, Int.ofNat b1, Int.ofNat b2, Int.ofNat b3]] [] (fun v M => v = AV.tup [.nums .u64 [Int.ofNat (ab a0 b0 0), Int.ofNat (ab a1 b1 (ac a0 b0 0)), Int.ofNat (ab a2 b2 (ac a1 b1 (ac a0 b0 0))), Int.ofNat (ab a3 b3 (ac a2 b2 (ac a1 b1 (ac a0 b0 0))))], .int .u64 (Int.ofNat (ac a3 b3 (ac a2 b2 (ac a1 b1 (ac a0 b0 0)))))] ∧ M = []) =
  ((Int.toNat 0 ≤ 1) ∧ ((ac a0 b0 0) ≤ 1) ∧ ((ac a1 b1 (ac a0 b0 0)) ≤ 1) ∧ ((ac a2 b2 (ac a1 b1 (ac a0 b0 0))) ≤ 1) ∧ AV.tup [.nums .u64 [Int.ofNat (ab a0 b0 0), Int.ofNat (ab a1 b1 (ac a0 b0 0)), Int.ofNat (ab a2 b2 (ac a1 b1 (ac a0 b0 0))), Int.ofNat (ab a3 b3 (ac a2 b2 (ac a1 b1 (ac a0 b0 0))))], .int .u64 (Int.ofNat (ac a3 b3 (ac a2 b2 (ac a1 b1 (ac a0 b0 0)))))] = AV.tup [.nums .u64 [Int.ofNat (ab a0 b0 0), Int.ofNat (ab a1 b1 (ac a0 b0 0)), Int.ofNat (ab a2 b2 (ac a1 b1 (ac a0 b0 0))), Int.ofNat (ab a3 b3 (ac a2 b2 (ac a1 b1 (ac a0 b0 0))))], .int .u64 (Int.ofNat (ac a3 b3 (ac a2 b2 (ac a1 b1 (ac a0 b0 0)))))] ∧ ([] : Mem) = []) := by kernel_rfl
def s_plusr : Spec := fun a M => match a, M with
  | [.nums .u64 [.ofNat a0, .ofNat a1, .ofNat a2, .ofNat a3], .nums .u64 [.ofNat b0, .ofNat b1, .ofNat b2, .ofNat b3]], [] => some (some (In4 a0 a1 a2 a3 ∧ In4 b0 b1 b2 b3), .tup [.nums .u64 (W4 (V4 a0 a1 a2 a3 + V4 b0 b1 b2 b3)), .int .u64 (Int.ofNat ((V4 a0 a1 a2 a3 + V4 b0 b1 b2 b3) / 115792089237316195423570985008687907853269984665640564039457584007913129639936))], [])
  | _, _ => none
theorem plusr_ok {a0 a1 a2 a3 b0 b1 b2 b3 : Nat} (h : In4 a0 a1 a2 a3 ∧ In4 b0 b1 b2 b3) : ∃ D H N, specW Try.prog D (cBP Try.prog) H N 39 [.nums .u64 [Int.ofNat a0, Int.ofNat a1, Int.ofNat a2, Int.ofNat a3], .nums .u64 [Int.ofNat b0, Int.ofNat b1, Int.ofNat b2, Int.ofNat b3]] [] fun v M => v = .tup [.nums .u64 (W4 (V4 a0 a1 a2 a3 + V4 b0 b1 b2 b3)), .int .u64 (Int.ofNat ((V4 a0 a1 a2 a3 + V4 b0 b1 b2 b3) / 115792089237316195423570985008687907853269984665640564039457584007913129639936))] ∧ M = [] := by
  obtain ⟨h1, h2, h3, h4, h5⟩ := add_words h.1 h.2
  rw [← h1, ← h2]
  refine ⟨noD, h_plusr, 100, Eq.mpr (run_plusr a0 a1 a2 a3 b0 b1 b2 b3) ?_⟩
  exact ⟨by decide, h3, h4, h5, rfl, rfl⟩
/-! ### Mul64 -/
def andR (x y : Int) : Int := IntKind.u64.wrap ((BitVec.ofInt 64 x &&& BitVec.ofInt 64 y).toNat)
def shrR (x : Int) (m : Nat) : Int := Int.fdiv x (2 ^ (Nat.min m 64))
theorem ofInt_nat (n : Nat) : BitVec.ofInt 64 (Int.ofNat n) = BitVec.ofNat 64 n := by simp [Int.ofNat_eq_natCast]
theorem and_mask {x m : Nat} (hm : m ≤ 63) (hx : x < 18446744073709551616) : andR (Int.ofNat x) (Int.ofNat (2 ^ m - 1)) = Int.ofNat (x % 2 ^ m) := by
  have h1 : 2 ^ m ≤ 2 ^ 63 := Nat.pow_le_pow_right (by omega) hm
  unfold andR
  rw [ofInt_nat, ofInt_nat, BitVec.toNat_and, BitVec.toNat_ofNat, BitVec.toNat_ofNat, Nat.mod_eq_of_lt (show x < 2 ^ 64 by omega), Nat.mod_eq_of_lt (show 2 ^ m - 1 < 2 ^ 64 by have : 0 < 2 ^ m := Nat.two_pow_pos m; omega), Nat.and_two_pow_sub_one_eq_mod]
  have h3 := wrap64 (x % 2 ^ m)
  have h2 : x % 2 ^ m < 18446744073709551616 := Nat.lt_of_le_of_lt (Nat.mod_le _ _) hx
  rw [Nat.mod_eq_of_lt h2] at h3
  exact h3
theorem shr_eq {x m : Nat} (hm : m ≤ 64) : shrR (Int.ofNat x) m = Int.ofNat (x / 2 ^ m) := by
  unfold shrR
  rw [show Nat.min m 64 = m from Nat.min_eq_left hm, Int.fdiv_eq_ediv_of_nonneg _ (Int.pow_nonneg (by omega))]
  simp [Int.ofNat_eq_natCast, Int.natCast_ediv, Int.natCast_pow]
def addR (x y : Int) : Int := IntKind.u64.wrap (x + y)
def mulR (x y : Int) : Int := IntKind.u64.wrap (x * y)
theorem add_eq (x y : Nat) : addR (Int.ofNat x) (Int.ofNat y) = Int.ofNat ((x + y) % 18446744073709551616) := wrap64 (x + y)
theorem mul_eq (x y : Nat) : mulR (Int.ofNat x) (Int.ofNat y) = Int.ofNat ((x * y) % 18446744073709551616) := by
  have : Int.ofNat x * Int.ofNat y = Int.ofNat (x * y) := by simp [Int.ofNat_eq_natCast]
  unfold mulR; rw [this]; exact wrap64 (x * y)

def h_mul64 (x y : Nat) : Hints := ⟨fun _ t => match t with
  | 15 => some (.val (.int .u64 (Int.ofNat (x % 4294967296))))
  | 17 => some (.val (.int .u64 (Int.ofNat (x / 4294967296))))
  | 19 => some (.val (.int .u64 (Int.ofNat (y % 4294967296))))
  | 21 => some (.val (.int .u64 (Int.ofNat (y / 4294967296))))
  | 24 => some (.val (.int .u64 (Int.ofNat ((x % 4294967296) * (y % 4294967296)))))
  | 27 => some (.val (.int .u64 (Int.ofNat ((x / 4294967296) * (y % 4294967296)))))
  | 29 => some (.val (.int .u64 (Int.ofNat (((x % 4294967296) * (y % 4294967296)) / 4294967296))))
  | 30 => some (.val (.int .u64 (Int.ofNat (((x / 4294967296) * (y % 4294967296)) + (((x % 4294967296) * (y % 4294967296)) / 4294967296)))))
  | 32 => some (.val (.int .u64 (Int.ofNat ((((x / 4294967296) * (y % 4294967296)) + (((x % 4294967296) * (y % 4294967296)) / 4294967296)) % 4294967296))))
  | 34 => some (.val (.int .u64 (Int.ofNat ((((x / 4294967296) * (y % 4294967296)) + (((x % 4294967296) * (y % 4294967296)) / 4294967296)) / 4294967296))))
  | 38 => some (.val (.int .u64 (Int.ofNat ((x % 4294967296) * (y / 4294967296)))))
  | 39 => some (.val (.int .u64 (Int.ofNat (((((x / 4294967296) * (y % 4294967296)) + (((x % 4294967296) * (y % 4294967296)) / 4294967296)) % 4294967296) + ((x % 4294967296) * (y / 4294967296))))))
  | 42 => some (.val (.int .u64 (Int.ofNat ((x / 4294967296) * (y / 4294967296)))))
  | 44 => some (.val (.int .u64 (Int.ofNat (((x / 4294967296) * (y / 4294967296)) + ((((x / 4294967296) * (y % 4294967296)) + (((x % 4294967296) * (y % 4294967296)) / 4294967296)) / 4294967296)))))
  | 46 => some (.val (.int .u64 (Int.ofNat ((((((x / 4294967296) * (y % 4294967296)) + (((x % 4294967296) * (y % 4294967296)) / 4294967296)) % 4294967296) + ((x % 4294967296) * (y / 4294967296))) / 4294967296))))
  | 47 => some (.val (.int .u64 (Int.ofNat (x * y / 18446744073709551616))))
  | 50 => some (.val (.int .u64 (Int.ofNat (x * y % 18446744073709551616))))
  | _ => none, fun _ _ => none⟩
theorem run_mul64 (x y : Nat) : specW Try.prog noD (cBP Try.prog) (h_mul64 x y) 100 43 [.int .u64 (Int.ofNat x), .int .u64 (Int.ofNat y)] [] (fun v M => v = AV.tup [.int .u64 (Int.ofNat (x * y / 18446744073709551616)), .int .u64 (Int.ofNat (x * y % 18446744073709551616))] ∧ M = []) =
  (AV.int .u64 (andR (Int.ofNat x) (Int.ofNat (2 ^ 32 - 1))) = AV.int .u64 (Int.ofNat (x % 4294967296)) ∧ AV.int .u64 (shrR (Int.ofNat x) 32) = AV.int .u64 (Int.ofNat (x / 4294967296)) ∧ AV.int .u64 (andR (Int.ofNat y) (Int.ofNat (2 ^ 32 - 1))) = AV.int .u64 (Int.ofNat (y % 4294967296)) ∧ AV.int .u64 (shrR (Int.ofNat y) 32) = AV.int .u64 (Int.ofNat (y / 4294967296)) ∧ AV.int .u64 (mulR (Int.ofNat (x % 4294967296)) (Int.ofNat (y % 4294967296))) = AV.int .u64 (Int.ofNat ((x % 4294967296) * (y % 4294967296))) ∧ AV.int .u64 (mulR (Int.ofNat (x / 4294967296)) (Int.ofNat (y % 4294967296))) = AV.int .u64 (Int.ofNat ((x / 4294967296) * (y % 4294967296))) ∧ AV.int .u64 (shrR (Int.ofNat ((x % 4294967296) * (y % 4294967296))) 32) = AV.int .u64 (Int.ofNat (((x % 4294967296) * (y % 4294967296)) / 4294967296)) ∧ AV.int .u64 (addR (Int.ofNat ((x / 4294967296) * (y % 4294967296))) (Int.ofNat (((x % 4294967296) * (y % 4294967296)) / 4294967296))) = AV.int .u64 (Int.ofNat (((x / 4294967296) * (y % 4294967296)) + (((x % 4294967296) * (y % 4294967296)) / 4294967296))) ∧ AV.int .u64 (andR (Int.ofNat (((x / 4294967296) * (y % 4294967296)) + (((x % 4294967296) * (y % 4294967296)) / 4294967296))) (Int.ofNat (2 ^ 32 - 1))) = AV.int .u64 (Int.ofNat ((((x / 4294967296) * (y % 4294967296)) + (((x % 4294967296) * (y % 4294967296)) / 4294967296)) % 4294967296)) ∧ AV.int .u64 (shrR (Int.ofNat (((x / 4294967296) * (y % 4294967296)) + (((x % 4294967296) * (y % 4294967296)) / 4294967296))) 32) = AV.int .u64 (Int.ofNat ((((x / 4294967296) * (y % 4294967296)) + (((x % 4294967296) * (y % 4294967296)) / 4294967296)) / 4294967296)) ∧ AV.int .u64 (mulR (Int.ofNat (x % 4294967296)) (Int.ofNat (y / 4294967296))) = AV.int .u64 (Int.ofNat ((x % 4294967296) * (y / 4294967296))) ∧ AV.int .u64 (addR (Int.ofNat ((((x / 4294967296) * (y % 4294967296)) + (((x % 4294967296) * (y % 4294967296)) / 4294967296)) % 4294967296)) (Int.ofNat ((x % 4294967296) * (y / 4294967296)))) = AV.int .u64 (Int.ofNat (((((x / 4294967296) * (y % 4294967296)) + (((x % 4294967296) * (y % 4294967296)) / 4294967296)) % 4294967296) + ((x % 4294967296) * (y / 4294967296)))) ∧ AV.int .u64 (mulR (Int.ofNat (x / 4294967296)) (Int.ofNat (y / 4294967296))) = AV.int .u64 (Int.ofNat ((x / 4294967296) * (y / 4294967296))) ∧ AV.int .u64 (addR (Int.ofNat ((x / 4294967296) * (y / 4294967296))) (Int.ofNat ((((x / 4294967296) * (y % 4294967296)) + (((x % 4294967296) * (y % 4294967296)) / 4294967296)) / 4294967296))) = AV.int .u64 (Int.ofNat (((x / 4294967296) * (y / 4294967296)) + ((((x / 4294967296) * (y % 4294967296)) + (((x % 4294967296) * (y % 4294967296)) / 4294967296)) / 4294967296))) ∧ AV.int .u64 (shrR (Int.ofNat (((((x / 4294967296) * (y % 4294967296)) + (((x % 4294967296) * (y % 4294967296)) / 4294967296)) % 4294967296) + ((x % 4294967296) * (y / 4294967296)))) 32) = AV.int .u64 (Int.ofNat ((((((x / 4294967296) * (y % 4294967296)) + (((x % 4294967296) * (y % 4294967296)) / 4294967296)) % 4294967296) + ((x % 4294967296) * (y / 4294967296))) / 4294967296)) ∧ AV.int .u64 (addR (Int.ofNat (((x / 4294967296) * (y / 4294967296)) + ((((x / 4294967296) * (y % 4294967296)) + (((x % 4294967296) * (y % 4294967296)) / 4294967296)) / 4294967296))) (Int.ofNat ((((((x / 4294967296) * (y % 4294967296)) + (((x % 4294967296) * (y % 4294967296)) / 4294967296)) % 4294967296) + ((x % 4294967296) * (y / 4294967296))) / 4294967296))) = AV.int .u64 (Int.ofNat (x * y / 18446744073709551616)) ∧ AV.int .u64 (mulR (Int.ofNat x) (Int.ofNat y)) = AV.int .u64 (Int.ofNat (x * y % 18446744073709551616)) ∧ AV.tup [.int .u64 (Int.ofNat (x * y / 18446744073709551616)), .int .u64 (Int.ofNat (x * y % 18446744073709551616))] = AV.tup [.int .u64 (Int.ofNat (x * y / 18446744073709551616)), .int .u64 (Int.ofNat (x * y % 18446744073709551616))] ∧ ([] : Mem) = []) := by kernel_rfl
def s_mul64 : Spec := fun a M => match a, M with
  | [.int .u64 (.ofNat x), .int .u64 (.ofNat y)], [] => some (some (x < 18446744073709551616 ∧ y < 18446744073709551616), .tup [.int .u64 (Int.ofNat (x * y / 18446744073709551616)), .int .u64 (Int.ofNat (x * y % 18446744073709551616))], [])
  | _, _ => none
theorem mul64_ok {x y : Nat} (h : x < 18446744073709551616 ∧ y < 18446744073709551616) : ∃ D H N, specW Try.prog D (cBP Try.prog) H N 43 [.int .u64 (.ofNat x), .int .u64 (.ofNat y)] [] fun v M => v = .tup [.int .u64 (Int.ofNat (x * y / 18446744073709551616)), .int .u64 (Int.ofNat (x * y % 18446744073709551616))] ∧ M = [] := by
  obtain ⟨hx, hy⟩ := h
  refine ⟨noD, h_mul64 x y, 100, Eq.mpr (run_mul64 x y) ?_⟩
  have ex : x = x % 4294967296 + 4294967296 * (x / 4294967296) := by omega
  have ey : y = y % 4294967296 + 4294967296 * (y / 4294967296) := by omega
  have hxy : x * y = x % 4294967296 * (y % 4294967296) + 4294967296 * (x / 4294967296 * (y % 4294967296) + x % 4294967296 * (y / 4294967296)) + 18446744073709551616 * (x / 4294967296 * (y / 4294967296)) := by
    generalize x % 4294967296 = p at *
    generalize x / 4294967296 = q at *
    generalize y % 4294967296 = r at *
    generalize y / 4294967296 = s at *
    subst ex; subst ey
    simp only [Nat.add_mul, Nat.mul_add]
    have e1 : p * (4294967296 * s) = 4294967296 * (p * s) := Nat.mul_left_comm _ _ _
    have e2 : 4294967296 * q * r = 4294967296 * (q * r) := Nat.mul_assoc _ _ _
    have e3 : 4294967296 * q * (4294967296 * s) = 18446744073709551616 * (q * s) := by
      rw [Nat.mul_assoc, Nat.mul_left_comm q, ← Nat.mul_assoc]
    omega
  have lt : ∀ {a b : Nat}, a < 4294967296 → b < 4294967296 → a * b ≤ 18446744065119617025 := fun ha hb => Nat.mul_le_mul (show _ ≤ 4294967295 by omega) (show _ ≤ 4294967295 by omega)
  have h00 := lt (show x % 4294967296 < 4294967296 by omega) (show y % 4294967296 < 4294967296 by omega)
  have h10 := lt (show x / 4294967296 < 4294967296 by omega) (show y % 4294967296 < 4294967296 by omega)
  have h01 := lt (show x % 4294967296 < 4294967296 by omega) (show y / 4294967296 < 4294967296 by omega)
  have h11 := lt (show x / 4294967296 < 4294967296 by omega) (show y / 4294967296 < 4294967296 by omega)
  have e32 : (4294967296 : Nat) = 2 ^ 32 := rfl
  have c : ∀ {a b : Int}, a = b → AV.int .u64 a = AV.int .u64 b := fun h => by rw [h]
  have o : ∀ {a b : Nat}, a = b → Int.ofNat a = Int.ofNat b := fun h => by rw [h]
  refine ⟨c (and_mask (by omega) hx), c (shr_eq (by omega)), c (and_mask (by omega) hy), c (shr_eq (by omega)), c ((mul_eq _ _).trans (o (Nat.mod_eq_of_lt ?_))), c ((mul_eq _ _).trans (o (Nat.mod_eq_of_lt ?_))), c (shr_eq (by omega)), c ((add_eq _ _).trans (o (Nat.mod_eq_of_lt ?_))), c (and_mask (by omega) ?_), c (shr_eq (by omega)), c ((mul_eq _ _).trans (o (Nat.mod_eq_of_lt ?_))), c ((add_eq _ _).trans (o (Nat.mod_eq_of_lt ?_))), c ((mul_eq _ _).trans (o (Nat.mod_eq_of_lt ?_))), c ((add_eq _ _).trans (o (Nat.mod_eq_of_lt ?_))), c (shr_eq (by omega)), c ((add_eq _ _).trans (o ?_)), c (mul_eq _ _), rfl, rfl⟩
  all_goals
    generalize x % 4294967296 * (y % 4294967296) = p00 at *
    generalize x / 4294967296 * (y % 4294967296) = p10 at *
    generalize x % 4294967296 * (y / 4294967296) = p01 at *
    generalize x / 4294967296 * (y / 4294967296) = p11 at *
    first | omega | (generalize x * y = xy at *; clear ex ey; omega)
end Go.Proofs.Ytkeieikhmaeiiaa
