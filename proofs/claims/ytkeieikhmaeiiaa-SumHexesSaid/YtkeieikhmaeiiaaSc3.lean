/- The table of what is known of words; scalar's step. No condition. -/
import Derived.Test.YtkeieikhmaeiiaaSc2
namespace Go.Proofs.Ytkeieikhmaeiiaa
open Go Go.RowKit

def cS (P : Program) : OrcP := addS (addS (addS (addS (addS (addS (addS (addS (cBP P) 30 s_load) 34 s_from) 42 s_num) 37 s_bytes) 31 s_minus) 33 s_minusr) 39 s_plusr) 43 s_mul64
theorem cS_ok : OrcPOK Try.prog (cS Try.prog) := by
  unfold cS
  refine addS_ok mixed (addS_ok mixed (addS_ok mixed (addS_ok mixed (addS_ok mixed (addS_ok mixed (addS_ok mixed (addS_ok mixed cB_ok cB_ok ?_) cB_ok ?_) cB_ok ?_) cB_ok ?_) cB_ok ?_) cB_ok ?_) cB_ok ?_) cB_ok ?_
  · intro a M q v M' h hq
    unfold s_load at h
    split at h
    · simp only [Option.some.injEq, Prod.mk.injEq] at h
      obtain ⟨rfl, rfl, rfl⟩ := h
      exact load_ok hq
    · cases h
  · intro a M q v M' h hq
    unfold s_from at h
    split at h
    · simp only [Option.some.injEq, Prod.mk.injEq] at h
      obtain ⟨rfl, rfl, rfl⟩ := h
      exact from_ok hq
    · cases h
  · intro a M q v M' h hq
    unfold s_num at h
    split at h
    · simp only [Option.some.injEq, Prod.mk.injEq] at h
      obtain ⟨rfl, rfl, rfl⟩ := h
      exact num_ok hq
    · cases h
  · intro a M q v M' h hq
    unfold s_bytes at h
    split at h
    · simp only [Option.some.injEq, Prod.mk.injEq] at h
      obtain ⟨rfl, rfl, rfl⟩ := h
      exact bytes_ok hq
    · cases h
  · intro a M q v M' h hq
    unfold s_minus at h
    split at h
    · simp only [Option.some.injEq, Prod.mk.injEq] at h
      obtain ⟨rfl, rfl, rfl⟩ := h
      exact minus_ok hq
    · cases h
  · intro a M q v M' h hq
    unfold s_minusr at h
    split at h
    · simp only [Option.some.injEq, Prod.mk.injEq] at h
      obtain ⟨rfl, rfl, rfl⟩ := h
      exact minusr_ok hq
    · cases h
  · intro a M q v M' h hq
    unfold s_plusr at h
    split at h
    · simp only [Option.some.injEq, Prod.mk.injEq] at h
      obtain ⟨rfl, rfl, rfl⟩ := h
      exact plusr_ok hq
    · cases h
  · intro a M q v M' h hq
    unfold s_mul64 at h
    split at h
    · simp only [Option.some.injEq, Prod.mk.injEq] at h
      obtain ⟨rfl, rfl, rfl⟩ := h
      exact mul64_ok hq
    · cases h

/-! ### Twice and a bit more -/
def dw (x c : Nat) : Nat := (2 * x + c) % 18446744073709551616
def orB (x c : Int) : Int := IntKind.u64.wrap ((BitVec.ofInt 64 (IntKind.u64.wrap (x * 2 ^ (Nat.min 1 64))) ||| BitVec.ofInt 64 c).toNat)
theorem dw_or {x c : Nat} (hc : c ≤ 1) : orB (Int.ofNat x) (Int.ofNat c) = Int.ofNat (dw x c) := by
  have e1 : (Int.ofNat x) * 2 ^ (Nat.min 1 64) = Int.ofNat (2 * x) := by
    rw [show Nat.min 1 64 = 1 by rfl, Int.pow_one]
    simp only [Int.ofNat_eq_natCast]; omega
  unfold orB
  rw [e1, wrap64, ofInt_nat, ofInt_nat, BitVec.toNat_or, BitVec.toNat_ofNat, BitVec.toNat_ofNat, Nat.mod_eq_of_lt (show c < 2 ^ 64 by omega), Nat.mod_eq_of_lt (show 2 * x % 18446744073709551616 < 2 ^ 64 by omega)]
  have e2 : 2 * x % 18446744073709551616 ||| c = 2 * x % 18446744073709551616 + c := by
    have : 2 * x % 18446744073709551616 = (x % 9223372036854775808) <<< 1 := by rw [Nat.shiftLeft_eq]; omega
    rw [this, ← Nat.shiftLeft_add_eq_or_of_lt (by omega)]
  rw [e2]
  have h3 := wrap64 (2 * x % 18446744073709551616 + c)
  have e4 : (2 * x % 18446744073709551616 + c) % 18446744073709551616 = dw x c := by unfold dw; omega
  rw [e4] at h3; exact h3
theorem dw_words {a b c d bit : Nat} (h : In4 a b c d) (hb : bit ≤ 1) (hl : V4 a b c d < 7237005577332262213973186563042994240857116359379907606001950938285454250989) :
    V4 (dw a bit) (dw b (a / 9223372036854775808)) (dw c (b / 9223372036854775808)) (dw d (c / 9223372036854775808)) = 2 * V4 a b c d + bit ∧ In4 (dw a bit) (dw b (a / 9223372036854775808)) (dw c (b / 9223372036854775808)) (dw d (c / 9223372036854775808)) := by
  obtain ⟨h1, h2, h3, h4⟩ := h
  refine ⟨?_, ?_⟩
  · simp only [V4, dw] at *; omega
  · simp only [In4, dw]; omega
def s_step : Spec := fun a M => match a, M with
  | [.ptr 0 0, .int .u64 (.ofNat bit)], [⟨.nums .u64 [.ofNat a, .ofNat b, .ofNat c, .ofNat d], .own, _⟩] => some (some (In4 a b c d ∧ bit ≤ 1 ∧ V4 a b c d < 7237005577332262213973186563042994240857116359379907606001950938285454250989), .tup [], [⟨.nums .u64 (W4 ((2 * V4 a b c d + bit) % 7237005577332262213973186563042994240857116359379907606001950938285454250989)), .own, true⟩])
  | _, _ => none
def h_step (ws : List Nat) (cs : List Nat) (below : Bool) : Hints := ⟨fun it t => match t, it with
  | 19, [some i] => some (.val (.int .u64 (Int.ofNat (dw (ws.getD i 0) (cs.getD i 0)))))
  | 25, [some i] => some (.val (.int .u64 (Int.ofNat (ws.getD i 0 / 9223372036854775808))))
  | 36, [] => some (.val (.bool below))
  | _, _ => none, fun _ _ => none⟩
theorem run_step1 (a b c d bit : Nat) (dr : Bool) : specW Try.prog noD (cS Try.prog) (h_step [a, b, c, d] [bit, (a / 9223372036854775808), (b / 9223372036854775808), (c / 9223372036854775808)] true) 100 56 [.ptr 0 0, .int .u64 (.ofNat bit)] [⟨.nums .u64 [.ofNat a, .ofNat b, .ofNat c, .ofNat d], .own, dr⟩] (fun v M => v = .tup [] ∧ M = [(⟨.nums .u64 (W4 ((2 * V4 a b c d + bit) % 7237005577332262213973186563042994240857116359379907606001950938285454250989)), .own, true⟩ : Blk)]) =
  (AV.int .u64 (orB (Int.ofNat a) (Int.ofNat bit)) = AV.int .u64 (Int.ofNat (dw a bit)) ∧ AV.int .u64 (shrR (Int.ofNat a) 63) = AV.int .u64 (Int.ofNat (a / 9223372036854775808)) ∧ AV.int .u64 (orB (Int.ofNat b) (Int.ofNat (a / 9223372036854775808))) = AV.int .u64 (Int.ofNat (dw b (a / 9223372036854775808))) ∧ AV.int .u64 (shrR (Int.ofNat b) 63) = AV.int .u64 (Int.ofNat (b / 9223372036854775808)) ∧ AV.int .u64 (orB (Int.ofNat c) (Int.ofNat (b / 9223372036854775808))) = AV.int .u64 (Int.ofNat (dw c (b / 9223372036854775808))) ∧ AV.int .u64 (shrR (Int.ofNat c) 63) = AV.int .u64 (Int.ofNat (c / 9223372036854775808)) ∧ AV.int .u64 (orB (Int.ofNat d) (Int.ofNat (c / 9223372036854775808))) = AV.int .u64 (Int.ofNat (dw d (c / 9223372036854775808))) ∧ AV.int .u64 (shrR (Int.ofNat d) 63) = AV.int .u64 (Int.ofNat (d / 9223372036854775808)) ∧ (In4 (dw a bit) (dw b (a / 9223372036854775808)) (dw c (b / 9223372036854775808)) (dw d (c / 9223372036854775808)) ∧ In4 6346243789798364141 1503914060200516822 0 1152921504606846976) ∧ AV.bool (Nat.blt (V4 (dw a bit) (dw b (a / 9223372036854775808)) (dw c (b / 9223372036854775808)) (dw d (c / 9223372036854775808))) (V4 6346243789798364141 1503914060200516822 0 1152921504606846976)) = AV.bool true ∧ AV.tup [] = AV.tup [] ∧ [(⟨.nums .u64 [Int.ofNat (dw a bit), Int.ofNat (dw b (a / 9223372036854775808)), Int.ofNat (dw c (b / 9223372036854775808)), Int.ofNat (dw d (c / 9223372036854775808))], .own, true⟩ : Blk)] = [(⟨.nums .u64 (W4 ((2 * V4 a b c d + bit) % 7237005577332262213973186563042994240857116359379907606001950938285454250989)), .own, true⟩ : Blk)]) := by kernel_rfl
theorem run_step0 (a b c d bit : Nat) (dr : Bool) : specW Try.prog noD (cS Try.prog) (h_step [a, b, c, d] [bit, (a / 9223372036854775808), (b / 9223372036854775808), (c / 9223372036854775808)] false) 100 56 [.ptr 0 0, .int .u64 (.ofNat bit)] [⟨.nums .u64 [.ofNat a, .ofNat b, .ofNat c, .ofNat d], .own, dr⟩] (fun v M => v = .tup [] ∧ M = [(⟨.nums .u64 (W4 ((2 * V4 a b c d + bit) % 7237005577332262213973186563042994240857116359379907606001950938285454250989)), .own, true⟩ : Blk)]) =
  (AV.int .u64 (orB (Int.ofNat a) (Int.ofNat bit)) = AV.int .u64 (Int.ofNat (dw a bit)) ∧ AV.int .u64 (shrR (Int.ofNat a) 63) = AV.int .u64 (Int.ofNat (a / 9223372036854775808)) ∧ AV.int .u64 (orB (Int.ofNat b) (Int.ofNat (a / 9223372036854775808))) = AV.int .u64 (Int.ofNat (dw b (a / 9223372036854775808))) ∧ AV.int .u64 (shrR (Int.ofNat b) 63) = AV.int .u64 (Int.ofNat (b / 9223372036854775808)) ∧ AV.int .u64 (orB (Int.ofNat c) (Int.ofNat (b / 9223372036854775808))) = AV.int .u64 (Int.ofNat (dw c (b / 9223372036854775808))) ∧ AV.int .u64 (shrR (Int.ofNat c) 63) = AV.int .u64 (Int.ofNat (c / 9223372036854775808)) ∧ AV.int .u64 (orB (Int.ofNat d) (Int.ofNat (c / 9223372036854775808))) = AV.int .u64 (Int.ofNat (dw d (c / 9223372036854775808))) ∧ AV.int .u64 (shrR (Int.ofNat d) 63) = AV.int .u64 (Int.ofNat (d / 9223372036854775808)) ∧ (In4 (dw a bit) (dw b (a / 9223372036854775808)) (dw c (b / 9223372036854775808)) (dw d (c / 9223372036854775808)) ∧ In4 6346243789798364141 1503914060200516822 0 1152921504606846976) ∧ AV.bool (Nat.blt (V4 (dw a bit) (dw b (a / 9223372036854775808)) (dw c (b / 9223372036854775808)) (dw d (c / 9223372036854775808))) (V4 6346243789798364141 1503914060200516822 0 1152921504606846976)) = AV.bool false ∧ AV.tup [] = AV.tup [] ∧ [(⟨.nums .u64 (W4 ((V4 (dw a bit) (dw b (a / 9223372036854775808)) (dw c (b / 9223372036854775808)) (dw d (c / 9223372036854775808))) + 115792089237316195423570985008687907853269984665640564039457584007913129639936 - (V4 6346243789798364141 1503914060200516822 0 1152921504606846976))), .own, true⟩ : Blk)] = [(⟨.nums .u64 (W4 ((2 * V4 a b c d + bit) % 7237005577332262213973186563042994240857116359379907606001950938285454250989)), .own, true⟩ : Blk)]) := by kernel_rfl
theorem step_ok2 {a b c d bit : Nat} {dr : Bool} (h : In4 a b c d ∧ bit ≤ 1 ∧ V4 a b c d < 7237005577332262213973186563042994240857116359379907606001950938285454250989) : ∃ D H N, specW Try.prog D (cS Try.prog) H N 56 [.ptr 0 0, .int .u64 (.ofNat bit)] [⟨.nums .u64 [.ofNat a, .ofNat b, .ofNat c, .ofNat d], .own, dr⟩] fun v M => v = .tup [] ∧ M = [⟨.nums .u64 (W4 ((2 * V4 a b c d + bit) % 7237005577332262213973186563042994240857116359379907606001950938285454250989)), .own, true⟩] := by
  obtain ⟨hin, hbit, hlt⟩ := h
  obtain ⟨hv, hin2⟩ := dw_words hin hbit hlt
  have hL : (V4 6346243789798364141 1503914060200516822 0 1152921504606846976) = 7237005577332262213973186563042994240857116359379907606001950938285454250989 := by decide
  have hx : ∀ x : Nat, x < 18446744073709551616 → x / 9223372036854775808 ≤ 1 := fun x hx => by omega
  have ci : ∀ {a b : Int}, a = b → AV.int .u64 a = AV.int .u64 b := fun h => by rw [h]
  have hinL : In4 6346243789798364141 1503914060200516822 0 1152921504606846976 := by simp only [In4]; omega
  have s63 : ∀ x : Nat, shrR (Int.ofNat x) 63 = Int.ofNat (x / 9223372036854775808) := fun x => shr_eq (by omega)
  by_cases hb : 2 * V4 a b c d + bit < 7237005577332262213973186563042994240857116359379907606001950938285454250989
  · refine ⟨noD, h_step [a, b, c, d] [bit, (a / 9223372036854775808), (b / 9223372036854775808), (c / 9223372036854775808)] true, 100, Eq.mpr (run_step1 a b c d bit dr) ?_⟩
    refine ⟨ci (dw_or hbit), ci (s63 _), ci (dw_or (hx _ hin.1)), ci (s63 _), ci (dw_or (hx _ hin.2.1)), ci (s63 _), ci (dw_or (hx _ hin.2.2.1)), ci (s63 _), ⟨hin2, hinL⟩, ?_, rfl, ?_⟩
    · rw [hv, hL]
      congr 1
      simpa using hb
    · rw [← W4_V4 hin2, hv, Nat.mod_eq_of_lt hb]
  · refine ⟨noD, h_step [a, b, c, d] [bit, (a / 9223372036854775808), (b / 9223372036854775808), (c / 9223372036854775808)] false, 100, Eq.mpr (run_step0 a b c d bit dr) ?_⟩
    refine ⟨ci (dw_or hbit), ci (s63 _), ci (dw_or (hx _ hin.1)), ci (s63 _), ci (dw_or (hx _ hin.2.1)), ci (s63 _), ci (dw_or (hx _ hin.2.2.1)), ci (s63 _), ⟨hin2, hinL⟩, ?_, rfl, ?_⟩
    · rw [hv, hL]
      congr 1
      cases hq : Nat.blt (2 * V4 a b c d + bit) 7237005577332262213973186563042994240857116359379907606001950938285454250989 with
      | false => rfl
      | true => exact absurd (blt_true hq) hb
    · rw [hv, hL]
      have e1 : 2 * V4 a b c d + bit + 115792089237316195423570985008687907853269984665640564039457584007913129639936 - 7237005577332262213973186563042994240857116359379907606001950938285454250989 = (2 * V4 a b c d + bit - 7237005577332262213973186563042994240857116359379907606001950938285454250989) + 115792089237316195423570985008687907853269984665640564039457584007913129639936 * 1 := by omega
      have e2 : (2 * V4 a b c d + bit) % 7237005577332262213973186563042994240857116359379907606001950938285454250989 = 2 * V4 a b c d + bit - 7237005577332262213973186563042994240857116359379907606001950938285454250989 := by omega
      rw [e1, W4_add, e2]
end Go.Proofs.Ytkeieikhmaeiiaa
