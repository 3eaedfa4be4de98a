/- What a long number leaves: the reference's restL, round by round. No condition. -/
import Derived.Test.YtkeieikhmaeiiaaSc4
namespace Go.Proofs.Ytkeieikhmaeiiaa
open Go Go.RowKit

def d_restL : Nat → Option (List Nat) := fun n => match n with
  | 0 => some [0, 5, 6, 7, 8, 9, 10, 11, 12, 13, 14, 15, 16, 17, 18, 19, 20, 21, 22, 23, 24, 25, 26, 27, 28, 29, 30, 31, 32, 33, 34, 35, 36, 37, 38]
  | _ => none
def x_restL (l X : List Int) (k : Nat) : St := ⟨[.junk, .ptr 0 0, .ptr 1 0, .ptr 2 0, .int .i64 (511 - (Int.ofNat k)), .junk, .junk, .junk, .junk, .junk, .junk, .junk, .junk, .junk, .junk, .junk, .junk, .junk, .junk, .junk, .junk, .junk, .junk, .junk, .junk, .junk, .junk, .junk, .junk, .junk, .junk, .junk, .junk, .junk, .junk, .junk, .junk, .junk, .junk], [⟨.nums .u64 l, .own, false⟩, ⟨.nums .u64 [0, 0, 0, 0], .own, false⟩, ⟨.nums .u64 X, .own, !(Nat.beq k 0)⟩]⟩
def h_restL (l : List Int) : Hints := ⟨fun it t => match t, it with
  | 8, [some _] => some (.val (.bool true))
  | 20, [some k] => some (.val (.int .i64 (Int.ofNat ((511 - k) / 64))))
  | 21, [some _] => some .ask
  | 22, [some _] => some .ask
  | 24, [some k] => some (.val (.int .i64 (Int.ofNat ((511 - k) % 64))))
  | 26, [some k] => some (.val (.int .u64 (Int.ofNat (Wv l / 2 ^ (511 - k) % 2))))
  | 27, [some k] => some (.val (.int .u64 (Int.ofNat (w0 (V4 (w0 (Rk 512 (Wv l) k)) (w1 (Rk 512 (Wv l) k)) (w2 (Rk 512 (Wv l) k)) (w3 (Rk 512 (Wv l) k)) + V4 (w0 (Rk 512 (Wv l) k)) (w1 (Rk 512 (Wv l) k)) (w2 (Rk 512 (Wv l) k)) (w3 (Rk 512 (Wv l) k))) + (Wv l / 2 ^ (511 - k) % 2)))))
  | 10, [some k] => some (.val (.int .i64 (511 - (Int.ofNat (k + 1)))))
  | 200036, [some _] => some .ask
  | _, _ => none, fun _ id => match id with
  | 0 => some ⟨512, true, false, fun k => x_restL l (W4 (Rk 512 (Wv l) k)) k⟩
  | _ => none⟩
theorem run_restL (l : List Int) : specW Try.prog d_restL (cS1 Try.prog) (h_restL l) 1000 38 [.nums .u64 l] [] (fun v M => v = .nums .u64 (W4 (Rk 512 (Wv l) 512)) ∧ M = []) =
  (x_restL l [0, 0, 0, 0] 0 = x_restL l (W4 (Rk 512 (Wv l) 0)) 0 ∧ (∀ k, k < 512 → (AV.bool (decide ((511 - (Int.ofNat k)) ≥ 0)) = AV.bool true ∧ (In4 (w0 (Rk 512 (Wv l) k)) (w1 (Rk 512 (Wv l) k)) (w2 (Rk 512 (Wv l) k)) (w3 (Rk 512 (Wv l) k)) ∧ In4 (w0 (Rk 512 (Wv l) k)) (w1 (Rk 512 (Wv l) k)) (w2 (Rk 512 (Wv l) k)) (w3 (Rk 512 (Wv l) k))) ∧ AV.int .i64 (IntKind.i64.wrap (Int.tdiv (511 - (Int.ofNat k)) 64)) = AV.int .i64 (Int.ofNat ((511 - k) / 64)) ∧ (inR (Int.ofNat ((511 - k) / 64)) 8 = some ((511 - k) / 64)) ∧ (0 + (511 - k) / 64 * 1 < l.length) ∧ AV.int .i64 (Int.tmod (511 - (Int.ofNat k)) 64) = AV.int .i64 (Int.ofNat ((511 - k) % 64)) ∧ AV.int .u64 (andR (shrR (l.getD (0 + (511 - k) / 64 * 1) 0) ((511 - k) % 64)) 1) = AV.int .u64 (Int.ofNat (Wv l / 2 ^ (511 - k) % 2)) ∧ AV.int .u64 (IntKind.u64.wrap ((BitVec.ofInt 64 (Int.ofNat (w0 (V4 (w0 (Rk 512 (Wv l) k)) (w1 (Rk 512 (Wv l) k)) (w2 (Rk 512 (Wv l) k)) (w3 (Rk 512 (Wv l) k)) + V4 (w0 (Rk 512 (Wv l) k)) (w1 (Rk 512 (Wv l) k)) (w2 (Rk 512 (Wv l) k)) (w3 (Rk 512 (Wv l) k))))) ||| BitVec.ofInt 64 (Int.ofNat (Wv l / 2 ^ (511 - k) % 2))).toNat)) = AV.int .u64 (Int.ofNat (w0 (V4 (w0 (Rk 512 (Wv l) k)) (w1 (Rk 512 (Wv l) k)) (w2 (Rk 512 (Wv l) k)) (w3 (Rk 512 (Wv l) k)) + V4 (w0 (Rk 512 (Wv l) k)) (w1 (Rk 512 (Wv l) k)) (w2 (Rk 512 (Wv l) k)) (w3 (Rk 512 (Wv l) k))) + (Wv l / 2 ^ (511 - k) % 2))) ∧ (In4 (w0 (V4 (w0 (Rk 512 (Wv l) k)) (w1 (Rk 512 (Wv l) k)) (w2 (Rk 512 (Wv l) k)) (w3 (Rk 512 (Wv l) k)) + V4 (w0 (Rk 512 (Wv l) k)) (w1 (Rk 512 (Wv l) k)) (w2 (Rk 512 (Wv l) k)) (w3 (Rk 512 (Wv l) k))) + (Wv l / 2 ^ (511 - k) % 2)) (w1 (V4 (w0 (Rk 512 (Wv l) k)) (w1 (Rk 512 (Wv l) k)) (w2 (Rk 512 (Wv l) k)) (w3 (Rk 512 (Wv l) k)) + V4 (w0 (Rk 512 (Wv l) k)) (w1 (Rk 512 (Wv l) k)) (w2 (Rk 512 (Wv l) k)) (w3 (Rk 512 (Wv l) k)))) (w2 (V4 (w0 (Rk 512 (Wv l) k)) (w1 (Rk 512 (Wv l) k)) (w2 (Rk 512 (Wv l) k)) (w3 (Rk 512 (Wv l) k)) + V4 (w0 (Rk 512 (Wv l) k)) (w1 (Rk 512 (Wv l) k)) (w2 (Rk 512 (Wv l) k)) (w3 (Rk 512 (Wv l) k)))) (w3 (V4 (w0 (Rk 512 (Wv l) k)) (w1 (Rk 512 (Wv l) k)) (w2 (Rk 512 (Wv l) k)) (w3 (Rk 512 (Wv l) k)) + V4 (w0 (Rk 512 (Wv l) k)) (w1 (Rk 512 (Wv l) k)) (w2 (Rk 512 (Wv l) k)) (w3 (Rk 512 (Wv l) k)))) ∧ In4 6346243789798364141 1503914060200516822 0 1152921504606846976) ∧ (((Int.ofNat (bif Nat.blt (V4 (w0 (V4 (w0 (Rk 512 (Wv l) k)) (w1 (Rk 512 (Wv l) k)) (w2 (Rk 512 (Wv l) k)) (w3 (Rk 512 (Wv l) k)) + V4 (w0 (Rk 512 (Wv l) k)) (w1 (Rk 512 (Wv l) k)) (w2 (Rk 512 (Wv l) k)) (w3 (Rk 512 (Wv l) k))) + (Wv l / 2 ^ (511 - k) % 2)) (w1 (V4 (w0 (Rk 512 (Wv l) k)) (w1 (Rk 512 (Wv l) k)) (w2 (Rk 512 (Wv l) k)) (w3 (Rk 512 (Wv l) k)) + V4 (w0 (Rk 512 (Wv l) k)) (w1 (Rk 512 (Wv l) k)) (w2 (Rk 512 (Wv l) k)) (w3 (Rk 512 (Wv l) k)))) (w2 (V4 (w0 (Rk 512 (Wv l) k)) (w1 (Rk 512 (Wv l) k)) (w2 (Rk 512 (Wv l) k)) (w3 (Rk 512 (Wv l) k)) + V4 (w0 (Rk 512 (Wv l) k)) (w1 (Rk 512 (Wv l) k)) (w2 (Rk 512 (Wv l) k)) (w3 (Rk 512 (Wv l) k)))) (w3 (V4 (w0 (Rk 512 (Wv l) k)) (w1 (Rk 512 (Wv l) k)) (w2 (Rk 512 (Wv l) k)) (w3 (Rk 512 (Wv l) k)) + V4 (w0 (Rk 512 (Wv l) k)) (w1 (Rk 512 (Wv l) k)) (w2 (Rk 512 (Wv l) k)) (w3 (Rk 512 (Wv l) k))))) (V4 6346243789798364141 1503914060200516822 0 1152921504606846976) then 1 else 0) == 0) = true → AV.int .i64 (IntKind.i64.wrap ((511 - (Int.ofNat k)) - 1)) = AV.int .i64 (511 - (Int.ofNat (k + 1))) ∧ x_restL l (W4 (V4 (w0 (V4 (w0 (Rk 512 (Wv l) k)) (w1 (Rk 512 (Wv l) k)) (w2 (Rk 512 (Wv l) k)) (w3 (Rk 512 (Wv l) k)) + V4 (w0 (Rk 512 (Wv l) k)) (w1 (Rk 512 (Wv l) k)) (w2 (Rk 512 (Wv l) k)) (w3 (Rk 512 (Wv l) k))) + (Wv l / 2 ^ (511 - k) % 2)) (w1 (V4 (w0 (Rk 512 (Wv l) k)) (w1 (Rk 512 (Wv l) k)) (w2 (Rk 512 (Wv l) k)) (w3 (Rk 512 (Wv l) k)) + V4 (w0 (Rk 512 (Wv l) k)) (w1 (Rk 512 (Wv l) k)) (w2 (Rk 512 (Wv l) k)) (w3 (Rk 512 (Wv l) k)))) (w2 (V4 (w0 (Rk 512 (Wv l) k)) (w1 (Rk 512 (Wv l) k)) (w2 (Rk 512 (Wv l) k)) (w3 (Rk 512 (Wv l) k)) + V4 (w0 (Rk 512 (Wv l) k)) (w1 (Rk 512 (Wv l) k)) (w2 (Rk 512 (Wv l) k)) (w3 (Rk 512 (Wv l) k)))) (w3 (V4 (w0 (Rk 512 (Wv l) k)) (w1 (Rk 512 (Wv l) k)) (w2 (Rk 512 (Wv l) k)) (w3 (Rk 512 (Wv l) k)) + V4 (w0 (Rk 512 (Wv l) k)) (w1 (Rk 512 (Wv l) k)) (w2 (Rk 512 (Wv l) k)) (w3 (Rk 512 (Wv l) k)))) + 115792089237316195423570985008687907853269984665640564039457584007913129639936 - V4 6346243789798364141 1503914060200516822 0 1152921504606846976)) (k + 1) = x_restL l (W4 (Rk 512 (Wv l) (k + 1))) (k + 1)) ∧ ((Int.ofNat (bif Nat.blt (V4 (w0 (V4 (w0 (Rk 512 (Wv l) k)) (w1 (Rk 512 (Wv l) k)) (w2 (Rk 512 (Wv l) k)) (w3 (Rk 512 (Wv l) k)) + V4 (w0 (Rk 512 (Wv l) k)) (w1 (Rk 512 (Wv l) k)) (w2 (Rk 512 (Wv l) k)) (w3 (Rk 512 (Wv l) k))) + (Wv l / 2 ^ (511 - k) % 2)) (w1 (V4 (w0 (Rk 512 (Wv l) k)) (w1 (Rk 512 (Wv l) k)) (w2 (Rk 512 (Wv l) k)) (w3 (Rk 512 (Wv l) k)) + V4 (w0 (Rk 512 (Wv l) k)) (w1 (Rk 512 (Wv l) k)) (w2 (Rk 512 (Wv l) k)) (w3 (Rk 512 (Wv l) k)))) (w2 (V4 (w0 (Rk 512 (Wv l) k)) (w1 (Rk 512 (Wv l) k)) (w2 (Rk 512 (Wv l) k)) (w3 (Rk 512 (Wv l) k)) + V4 (w0 (Rk 512 (Wv l) k)) (w1 (Rk 512 (Wv l) k)) (w2 (Rk 512 (Wv l) k)) (w3 (Rk 512 (Wv l) k)))) (w3 (V4 (w0 (Rk 512 (Wv l) k)) (w1 (Rk 512 (Wv l) k)) (w2 (Rk 512 (Wv l) k)) (w3 (Rk 512 (Wv l) k)) + V4 (w0 (Rk 512 (Wv l) k)) (w1 (Rk 512 (Wv l) k)) (w2 (Rk 512 (Wv l) k)) (w3 (Rk 512 (Wv l) k))))) (V4 6346243789798364141 1503914060200516822 0 1152921504606846976) then 1 else 0) == 0) = false → AV.int .i64 (IntKind.i64.wrap ((511 - (Int.ofNat k)) - 1)) = AV.int .i64 (511 - (Int.ofNat (k + 1))) ∧ x_restL l [Int.ofNat (w0 (V4 (w0 (Rk 512 (Wv l) k)) (w1 (Rk 512 (Wv l) k)) (w2 (Rk 512 (Wv l) k)) (w3 (Rk 512 (Wv l) k)) + V4 (w0 (Rk 512 (Wv l) k)) (w1 (Rk 512 (Wv l) k)) (w2 (Rk 512 (Wv l) k)) (w3 (Rk 512 (Wv l) k))) + (Wv l / 2 ^ (511 - k) % 2)), Int.ofNat (w1 (V4 (w0 (Rk 512 (Wv l) k)) (w1 (Rk 512 (Wv l) k)) (w2 (Rk 512 (Wv l) k)) (w3 (Rk 512 (Wv l) k)) + V4 (w0 (Rk 512 (Wv l) k)) (w1 (Rk 512 (Wv l) k)) (w2 (Rk 512 (Wv l) k)) (w3 (Rk 512 (Wv l) k)))), Int.ofNat (w2 (V4 (w0 (Rk 512 (Wv l) k)) (w1 (Rk 512 (Wv l) k)) (w2 (Rk 512 (Wv l) k)) (w3 (Rk 512 (Wv l) k)) + V4 (w0 (Rk 512 (Wv l) k)) (w1 (Rk 512 (Wv l) k)) (w2 (Rk 512 (Wv l) k)) (w3 (Rk 512 (Wv l) k)))), Int.ofNat (w3 (V4 (w0 (Rk 512 (Wv l) k)) (w1 (Rk 512 (Wv l) k)) (w2 (Rk 512 (Wv l) k)) (w3 (Rk 512 (Wv l) k)) + V4 (w0 (Rk 512 (Wv l) k)) (w1 (Rk 512 (Wv l) k)) (w2 (Rk 512 (Wv l) k)) (w3 (Rk 512 (Wv l) k))))] (k + 1) = x_restL l (W4 (Rk 512 (Wv l) (k + 1))) (k + 1))))) ∧ AV.nums .u64 (W4 (Rk 512 (Wv l) 512)) = AV.nums .u64 (W4 (Rk 512 (Wv l) 512)) ∧ ([] : Mem) = []) := by kernel_rfl
def s_restL : Spec := fun a M => match a, M with
  | [.nums .u64 l], [] => some (some (Ws 8 l), .nums .u64 (W4 (Wv l % 7237005577332262213973186563042994240857116359379907606001950938285454250989)), [])
  | _, _ => none
theorem or_bit {y b : Nat} (hy : 2 * y < 18446744073709551616) (hb : b ≤ 1) : IntKind.u64.wrap ((BitVec.ofInt 64 (Int.ofNat (2 * y)) ||| BitVec.ofInt 64 (Int.ofNat b)).toNat) = Int.ofNat (2 * y + b) := by
  rw [ofInt_nat, ofInt_nat, BitVec.toNat_or, BitVec.toNat_ofNat, BitVec.toNat_ofNat, Nat.mod_eq_of_lt (show b < 2 ^ 64 by omega), Nat.mod_eq_of_lt (show 2 * y < 2 ^ 64 by omega)]
  have e2 : 2 * y ||| b = 2 * y + b := by
    have : 2 * y = y <<< 1 := by rw [Nat.shiftLeft_eq]; omega
    rw [this, ← Nat.shiftLeft_add_eq_or_of_lt (by omega)]
  rw [e2]
  have h3 := wrap64 (2 * y + b)
  rw [Nat.mod_eq_of_lt (by omega)] at h3
  exact h3
theorem restL_ok {l : List Int} (h : Ws 8 l) : ∃ D H N, specW Try.prog D (cS1 Try.prog) H N 38 [.nums .u64 l] [] fun v M => v = .nums .u64 (W4 (Wv l % 7237005577332262213973186563042994240857116359379907606001950938285454250989)) ∧ M = [] := by
  have big : ∀ k, Rk 512 (Wv l) k < 115792089237316195423570985008687907853269984665640564039457584007913129639936 := fun k => Nat.lt_trans (Rk_lt _ _ _) (by decide)
  have hfin : Rk 512 (Wv l) 512 = Wv l % 7237005577332262213973186563042994240857116359379907606001950938285454250989 := by simp only [Rk, Nat.sub_self, Nat.pow_zero, Nat.div_one]
  rw [← hfin]
  have hinL : In4 6346243789798364141 1503914060200516822 0 1152921504606846976 := by simp only [In4]; omega
  have hL : V4 6346243789798364141 1503914060200516822 0 1152921504606846976 = 7237005577332262213973186563042994240857116359379907606001950938285454250989 := by decide
  have idx : ∀ k, k < 512 → (511 - (Int.ofNat k)) = Int.ofNat (511 - k) := fun k hk => by simp only [Int.ofNat_eq_natCast]; omega
  have dec : ∀ k, AV.int .i64 (IntKind.i64.wrap ((511 - (Int.ofNat k)) - 1)) = AV.int .i64 (511 - (Int.ofNat (k + 1))) ∨ ¬ k < 512 := fun k => by
    by_cases hk : k < 512
    · left
      refine congrArg (AV.int .i64) ?_
      rw [IntKind.wrap_i64]; simp only [Int.ofNat_eq_natCast]; omega
    · exact .inr hk
  refine ⟨d_restL, h_restL l, 1000, Eq.mpr (run_restL l) ⟨?_, fun k hk => ?_, rfl, rfl⟩⟩
  · congr 1
    have h1 := Wv_lt h.2
    rw [h.1] at h1
    have : Rk 512 (Wv l) 0 = 0 := by
      unfold Rk
      have e : (18446744073709551616 : Nat) ^ 8 = 2 ^ 512 := by decide +kernel
      rw [e] at h1
      rw [Nat.sub_zero, Nat.div_eq_of_lt h1, Nat.zero_mod]
    rw [this]; rfl
  · have e10 := (dec k).resolve_right (fun hn => hn hk)
    have hR := Rk_lt 512 (Wv l) k
    rw [Rk_succ hk]
    have hbit : Wv l / 2 ^ (511 - k) % 2 ≤ 1 := by omega
    have hbitE : AV.int .u64 (andR (shrR (l.getD (0 + (511 - k) / 64 * 1) 0) ((511 - k) % 64)) 1) = AV.int .u64 (Int.ofNat (Wv l / 2 ^ (511 - k) % 2)) := by
      refine congrArg (AV.int .u64) ?_
      rw [Nat.zero_add, Nat.mul_one]
      obtain ⟨e1, e2⟩ := Ws_get h (show (511 - k) / 64 < 8 by omega)
      have e3 := Wv_bit (j := (511 - k) / 64) (m := (511 - k) % 64) h.2 (by rw [h.1]; omega) (by omega)
      rw [show 64 * ((511 - k) / 64) + (511 - k) % 64 = 511 - k by omega] at e3
      rw [e3]
      generalize l.getD ((511 - k) / 64) 0 = z at *
      generalize z.toNat = y at *
      subst e1
      rw [shr_eq (by omega), and_one (Nat.lt_of_le_of_lt (Nat.div_le_self _ _) e2)]
    rw [show 512 - 1 - k = 511 - k by omega, V4_w (big k)]
    generalize Wv l / 2 ^ (511 - k) % 2 = bit at *
    generalize Rk 512 (Wv l) k = R at *
    have hw : w0 (R + R) = 2 * (R % 9223372036854775808) := by simp only [w0]; omega
    have hin : In4 (w0 (R + R) + bit) (w1 (R + R)) (w2 (R + R)) (w3 (R + R)) := by
      obtain ⟨q0, q1, q2, q3⟩ := In4_w (R + R)
      exact ⟨by rw [hw]; omega, q1, q2, q3⟩
    have hX : V4 (w0 (R + R) + bit) (w1 (R + R)) (w2 (R + R)) (w3 (R + R)) = 2 * R + bit := by
      have := V4_w (n := R + R) (by omega)
      simp only [V4] at this ⊢; omega
    have hor : AV.int .u64 (IntKind.u64.wrap ((BitVec.ofInt 64 (Int.ofNat (w0 (R + R))) ||| BitVec.ofInt 64 (Int.ofNat bit)).toNat)) = AV.int .u64 (Int.ofNat (w0 (R + R) + bit)) := by
      refine congrArg (AV.int .u64) ?_
      rw [hw]; exact or_bit (by omega) hbit
    refine ⟨?_, ⟨In4_w _, In4_w _⟩, ?_, ?_, ?_, ?_, hbitE, hor, ⟨hin, hinL⟩, fun hb => ⟨e10, ?_⟩, fun hb => ⟨e10, ?_⟩⟩
    · refine congrArg AV.bool ?_
      have : (511 - (Int.ofNat k)) ≥ 0 := by simp only [Int.ofNat_eq_natCast]; omega
      simpa using this
    · refine congrArg (AV.int .i64) ?_
      rw [idx k hk]
      show IntKind.i64.wrap (Int.ofNat ((511 - k) / 64)) = _
      exact i64_small _ (by omega)
    · have : Nat.blt ((511 - k) / 64) 8 = true := by
        have : (511 - k) / 64 < 8 := by omega
        simpa using this
      simp only [inR, this, cond_true]
    · rw [h.1]; omega
    · refine congrArg (AV.int .i64) ?_
      rw [idx k hk]; rfl
    · rw [hX, hL] at hb ⊢
      have hge : ¬ 2 * R + bit < 7237005577332262213973186563042994240857116359379907606001950938285454250989 := by
        intro hlt
        have : Nat.blt (2 * R + bit) 7237005577332262213973186563042994240857116359379907606001950938285454250989 = true := by simpa using hlt
        rw [this] at hb; cases hb
      have e1 : 2 * R + bit + 115792089237316195423570985008687907853269984665640564039457584007913129639936 - 7237005577332262213973186563042994240857116359379907606001950938285454250989 = (2 * R + bit - 7237005577332262213973186563042994240857116359379907606001950938285454250989) + 115792089237316195423570985008687907853269984665640564039457584007913129639936 * 1 := by omega
      have e2 : (2 * R + bit) % 7237005577332262213973186563042994240857116359379907606001950938285454250989 = 2 * R + bit - 7237005577332262213973186563042994240857116359379907606001950938285454250989 := by omega
      rw [e1, W4_add, e2]
    · rw [hX, hL] at hb
      have hlt : 2 * R + bit < 7237005577332262213973186563042994240857116359379907606001950938285454250989 := by
        cases hq : Nat.blt (2 * R + bit) 7237005577332262213973186563042994240857116359379907606001950938285454250989 with
        | true => exact blt_true hq
        | false => rw [hq] at hb; cases hb
      rw [← W4_V4 hin, hX, Nat.mod_eq_of_lt hlt]
end Go.Proofs.Ytkeieikhmaeiiaa
