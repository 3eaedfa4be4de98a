/- The reference's sums, differences, products modulo P. No condition. -/
import Derived.Test.YtfknmccjfolhpaaFi5
namespace Go.Proofs.Ytfknmccjfolhpaa
open Go Go.RowKit

def s_rootf : Spec := fun a M => match a, M with
  | [.nums .u64 l], [] => some (some (Ws 4 l), .tup [.nums .u64 (W4 (rootV (Wv l % 57896044618658097711785492504343953926634992332820282019728792003956564819949))), .bool (rootOK (Wv l % 57896044618658097711785492504343953926634992332820282019728792003956564819949))], [])
  | _, _ => none
def cF8 (P : Program) : OrcP := addS (addS (addS (addS (cF7 P) 65 s_invf) 63 s_rootf) 67 s_restf) 81 s_over
theorem cF8_ok : OrcPOK Try.prog (cF8 Try.prog) := by
  unfold cF8
  refine (addS_ok mixed (addS_ok mixed (addS_ok mixed (addS_ok mixed cF7_ok cF7_ok ?_) cF7_ok ?_) cF7_ok ?_) cF7_ok ?_)
  · intro a M q v M' h hq
    unfold s_invf at h
    split at h
    · simp only [Option.some.injEq, Prod.mk.injEq] at h
      obtain ⟨rfl, rfl, rfl⟩ := h
      exact invf_ok hq
    · cases h
  · intro a M q v M' h hq
    unfold s_rootf at h
    split at h
    · simp only [Option.some.injEq, Prod.mk.injEq] at h
      obtain ⟨rfl, rfl, rfl⟩ := h
      exact rootf_ok hq
    · cases h
  · intro a M q v M' h hq
    unfold s_restf at h
    split at h
    · simp only [Option.some.injEq, Prod.mk.injEq] at h
      obtain ⟨rfl, rfl, rfl⟩ := h
      exact restr_ok hq
    · cases h
  · intro a M q v M' h hq
    unfold s_over at h
    split at h
    · simp only [Option.some.injEq, Prod.mk.injEq] at h
      obtain ⟨rfl, rfl, rfl⟩ := h
      exact over_ok hq
    · cases h
def h_addre (a0 a1 a2 a3 b0 b1 b2 b3 : Nat) : Hints := ⟨fun it t => match t with
  | _ => none, fun it id => match id, it with
  | _, _ => none⟩
theorem run_addre (a0 a1 a2 a3 b0 b1 b2 b3 : Nat) : specW Try.prog noD (cF8 Try.prog) (h_addre a0 a1 a2 a3 b0 b1 b2 b3) 1000 68 [(.nums .u64 [(Int.ofNat a0), (Int.ofNat a1), (Int.ofNat a2), (Int.ofNat a3)]), (.nums .u64 [(Int.ofNat b0), (Int.ofNat b1), (Int.ofNat b2), (Int.ofNat b3)])] [] (fun v M => v = (.nums .u64 (W4 (((V4 a0 a1 a2 a3) + (V4 b0 b1 b2 b3)) % 57896044618658097711785492504343953926634992332820282019728792003956564819949))) ∧ M = []) =
  (((In4 a0 a1 a2 a3) ∧ (In4 b0 b1 b2 b3)) ∧ ((In4 (w0 ((V4 a0 a1 a2 a3) + (V4 b0 b1 b2 b3))) (w1 ((V4 a0 a1 a2 a3) + (V4 b0 b1 b2 b3))) (w2 ((V4 a0 a1 a2 a3) + (V4 b0 b1 b2 b3))) (w3 ((V4 a0 a1 a2 a3) + (V4 b0 b1 b2 b3)))) ∧ (((V4 a0 a1 a2 a3) + (V4 b0 b1 b2 b3)) / 115792089237316195423570985008687907853269984665640564039457584007913129639936) ≤ 38) ∧ (Ws 4 (W4 (upN (V4 (w0 ((V4 a0 a1 a2 a3) + (V4 b0 b1 b2 b3))) (w1 ((V4 a0 a1 a2 a3) + (V4 b0 b1 b2 b3))) (w2 ((V4 a0 a1 a2 a3) + (V4 b0 b1 b2 b3))) (w3 ((V4 a0 a1 a2 a3) + (V4 b0 b1 b2 b3)))) (38 * (((V4 a0 a1 a2 a3) + (V4 b0 b1 b2 b3)) / 115792089237316195423570985008687907853269984665640564039457584007913129639936))))) ∧ ((AV.nums .u64 (W4 (Wv (W4 (upN (V4 (w0 ((V4 a0 a1 a2 a3) + (V4 b0 b1 b2 b3))) (w1 ((V4 a0 a1 a2 a3) + (V4 b0 b1 b2 b3))) (w2 ((V4 a0 a1 a2 a3) + (V4 b0 b1 b2 b3))) (w3 ((V4 a0 a1 a2 a3) + (V4 b0 b1 b2 b3)))) (38 * (((V4 a0 a1 a2 a3) + (V4 b0 b1 b2 b3)) / 115792089237316195423570985008687907853269984665640564039457584007913129639936)))) % 57896044618658097711785492504343953926634992332820282019728792003956564819949))) = (AV.nums .u64 (W4 (((V4 a0 a1 a2 a3) + (V4 b0 b1 b2 b3)) % 57896044618658097711785492504343953926634992332820282019728792003956564819949))) ∧ ([] : Mem) = [])) := by kernel_rfl
theorem addre_ok {a0 a1 a2 a3 b0 b1 b2 b3 : Nat} (hyp : In4 a0 a1 a2 a3 ∧ In4 b0 b1 b2 b3) : ∃ D H N, specW Try.prog D (cF8 Try.prog) H N 68 [(.nums .u64 [(Int.ofNat a0), (Int.ofNat a1), (Int.ofNat a2), (Int.ofNat a3)]), (.nums .u64 [(Int.ofNat b0), (Int.ofNat b1), (Int.ofNat b2), (Int.ofNat b3)])] [] fun v M => v = (.nums .u64 (W4 (((V4 a0 a1 a2 a3) + (V4 b0 b1 b2 b3)) % 57896044618658097711785492504343953926634992332820282019728792003956564819949))) ∧ M = [] := by
  obtain ⟨ha, hb⟩ := hyp
  have hA := V4_lt ha
  have hB := V4_lt hb
  refine ⟨noD, _, 1000, Eq.mpr (run_addre a0 a1 a2 a3 b0 b1 b2 b3) ⟨⟨ha, hb⟩, ?_, Ws_W4 _, ⟨?_, rfl⟩⟩⟩
  · exact ⟨In4_w _, by omega⟩
  · have hu : upN (((V4 a0 a1 a2 a3) + (V4 b0 b1 b2 b3)) % 115792089237316195423570985008687907853269984665640564039457584007913129639936) (38 * (((V4 a0 a1 a2 a3) + (V4 b0 b1 b2 b3)) / 115792089237316195423570985008687907853269984665640564039457584007913129639936)) < 115792089237316195423570985008687907853269984665640564039457584007913129639936 := upN_lt (Nat.mod_lt _ (by decide)) (by omega)
    rw [V4_mod, WvW hu, upN_mod]
    have : (((V4 a0 a1 a2 a3) + (V4 b0 b1 b2 b3)) % 115792089237316195423570985008687907853269984665640564039457584007913129639936 + 38 * (((V4 a0 a1 a2 a3) + (V4 b0 b1 b2 b3)) / 115792089237316195423570985008687907853269984665640564039457584007913129639936)) % 57896044618658097711785492504343953926634992332820282019728792003956564819949 = ((V4 a0 a1 a2 a3) + (V4 b0 b1 b2 b3)) % 57896044618658097711785492504343953926634992332820282019728792003956564819949 := by omega
    rw [this]
def s_addrf : Spec := fun a M => match a, M with
  | [.nums .u64 l, .nums .u64 m], [] => some (some (Ws 4 l ∧ Ws 4 m), .nums .u64 (W4 ((Wv l + Wv m) % 57896044618658097711785492504343953926634992332820282019728792003956564819949)), [])
  | _, _ => none
theorem addrf_ok {l m : List Int} (h : Ws 4 l ∧ Ws 4 m) : ∃ D H N, specW Try.prog D (cF8 Try.prog) H N 68 [.nums .u64 l, .nums .u64 m] [] fun v M => v = .nums .u64 (W4 ((Wv l + Wv m) % 57896044618658097711785492504343953926634992332820282019728792003956564819949)) ∧ M = [] := by
  obtain ⟨a0, a1, a2, a3, rfl, ha, ea⟩ := Ws4_cases h.1
  obtain ⟨b0, b1, b2, b3, rfl, hb, eb⟩ := Ws4_cases h.2
  rw [ea, eb]
  exact addre_ok ⟨ha, hb⟩
def h_subre (a0 a1 a2 a3 b0 b1 b2 b3 : Nat) : Hints := ⟨fun it t => match t with
  | 200014 => bif eqIt [] it then some .ask else none
  | _ => none, fun it id => match id, it with
  | _, _ => none⟩
theorem run_subre (a0 a1 a2 a3 b0 b1 b2 b3 : Nat) : specW Try.prog noD (cF8 Try.prog) (h_subre a0 a1 a2 a3 b0 b1 b2 b3) 1000 69 [(.nums .u64 [(Int.ofNat a0), (Int.ofNat a1), (Int.ofNat a2), (Int.ofNat a3)]), (.nums .u64 [(Int.ofNat b0), (Int.ofNat b1), (Int.ofNat b2), (Int.ofNat b3)])] [] (fun v M => v = (.nums .u64 (W4 (((V4 a0 a1 a2 a3) + (57896044618658097711785492504343953926634992332820282019728792003956564819949 - (V4 b0 b1 b2 b3))) % 57896044618658097711785492504343953926634992332820282019728792003956564819949))) ∧ M = []) =
  (((In4 a0 a1 a2 a3) ∧ (In4 b0 b1 b2 b3)) ∧ ((((Int.ofNat (bif Nat.blt (V4 a0 a1 a2 a3) (V4 b0 b1 b2 b3) then 1 else 0)) == 1) = true → (((In4 (w0 ((V4 a0 a1 a2 a3) + 115792089237316195423570985008687907853269984665640564039457584007913129639936 - (V4 b0 b1 b2 b3))) (w1 ((V4 a0 a1 a2 a3) + 115792089237316195423570985008687907853269984665640564039457584007913129639936 - (V4 b0 b1 b2 b3))) (w2 ((V4 a0 a1 a2 a3) + 115792089237316195423570985008687907853269984665640564039457584007913129639936 - (V4 b0 b1 b2 b3))) (w3 ((V4 a0 a1 a2 a3) + 115792089237316195423570985008687907853269984665640564039457584007913129639936 - (V4 b0 b1 b2 b3)))) ∧ (In4 18446744073709551597 18446744073709551615 18446744073709551615 9223372036854775807)) ∧ ((AV.nums .u64 (W4 ((V4 (w0 ((V4 a0 a1 a2 a3) + 115792089237316195423570985008687907853269984665640564039457584007913129639936 - (V4 b0 b1 b2 b3))) (w1 ((V4 a0 a1 a2 a3) + 115792089237316195423570985008687907853269984665640564039457584007913129639936 - (V4 b0 b1 b2 b3))) (w2 ((V4 a0 a1 a2 a3) + 115792089237316195423570985008687907853269984665640564039457584007913129639936 - (V4 b0 b1 b2 b3))) (w3 ((V4 a0 a1 a2 a3) + 115792089237316195423570985008687907853269984665640564039457584007913129639936 - (V4 b0 b1 b2 b3)))) + (V4 18446744073709551597 18446744073709551615 18446744073709551615 9223372036854775807)))) = (AV.nums .u64 (W4 (((V4 a0 a1 a2 a3) + (57896044618658097711785492504343953926634992332820282019728792003956564819949 - (V4 b0 b1 b2 b3))) % 57896044618658097711785492504343953926634992332820282019728792003956564819949))) ∧ ([] : Mem) = []))) ∧ (((Int.ofNat (bif Nat.blt (V4 a0 a1 a2 a3) (V4 b0 b1 b2 b3) then 1 else 0)) == 1) = false → ((AV.nums .u64 (W4 ((V4 a0 a1 a2 a3) + 115792089237316195423570985008687907853269984665640564039457584007913129639936 - (V4 b0 b1 b2 b3)))) = (AV.nums .u64 (W4 (((V4 a0 a1 a2 a3) + (57896044618658097711785492504343953926634992332820282019728792003956564819949 - (V4 b0 b1 b2 b3))) % 57896044618658097711785492504343953926634992332820282019728792003956564819949))) ∧ ([] : Mem) = [])))) := by kernel_rfl
theorem subre_ok {a0 a1 a2 a3 b0 b1 b2 b3 : Nat} (hyp : In4 a0 a1 a2 a3 ∧ In4 b0 b1 b2 b3 ∧ (V4 a0 a1 a2 a3) < 57896044618658097711785492504343953926634992332820282019728792003956564819949 ∧ (V4 b0 b1 b2 b3) < 57896044618658097711785492504343953926634992332820282019728792003956564819949) : ∃ D H N, specW Try.prog D (cF8 Try.prog) H N 69 [(.nums .u64 [(Int.ofNat a0), (Int.ofNat a1), (Int.ofNat a2), (Int.ofNat a3)]), (.nums .u64 [(Int.ofNat b0), (Int.ofNat b1), (Int.ofNat b2), (Int.ofNat b3)])] [] fun v M => v = (.nums .u64 (W4 (((V4 a0 a1 a2 a3) + (57896044618658097711785492504343953926634992332820282019728792003956564819949 - (V4 b0 b1 b2 b3))) % 57896044618658097711785492504343953926634992332820282019728792003956564819949))) ∧ M = [] := by
  obtain ⟨ha, hb, hx, hy⟩ := hyp
  have hA := V4_lt ha
  have hB := V4_lt hb
  refine ⟨noD, _, 1000, Eq.mpr (run_subre a0 a1 a2 a3 b0 b1 b2 b3) ⟨⟨ha, hb⟩, ⟨fun hb => ⟨⟨In4_w _, In4_P⟩, ⟨?_, rfl⟩⟩, fun hb => ⟨?_, rfl⟩⟩⟩⟩
  · rw [bifb] at hb
    have hlt := blt_true hb
    generalize (V4 a0 a1 a2 a3) = x at *
    generalize (V4 b0 b1 b2 b3) = y at *
    rw [V4_mod, V4_P, show (x + 115792089237316195423570985008687907853269984665640564039457584007913129639936 - y) % 115792089237316195423570985008687907853269984665640564039457584007913129639936 + 57896044618658097711785492504343953926634992332820282019728792003956564819949 = (x + (57896044618658097711785492504343953926634992332820282019728792003956564819949 - y)) + 115792089237316195423570985008687907853269984665640564039457584007913129639936 * 1 by omega, W4_add, show (x + (57896044618658097711785492504343953926634992332820282019728792003956564819949 - y)) % 57896044618658097711785492504343953926634992332820282019728792003956564819949 = x + (57896044618658097711785492504343953926634992332820282019728792003956564819949 - y) by omega]
  · rw [bifb] at hb
    have hge : ¬ (V4 a0 a1 a2 a3) < (V4 b0 b1 b2 b3) := fun h => by rw [blt_ok h] at hb; cases hb
    generalize (V4 a0 a1 a2 a3) = x at *
    generalize (V4 b0 b1 b2 b3) = y at *
    rw [show x + 115792089237316195423570985008687907853269984665640564039457584007913129639936 - y = (x - y) + 115792089237316195423570985008687907853269984665640564039457584007913129639936 * 1 by omega, W4_add, show (x + (57896044618658097711785492504343953926634992332820282019728792003956564819949 - y)) % 57896044618658097711785492504343953926634992332820282019728792003956564819949 = x - y by omega]
end Go.Proofs.Ytfknmccjfolhpaa
