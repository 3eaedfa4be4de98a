/- Bits. No condition. -/
import Derived.Test.YtfdhfhgljhnhlaaScA
namespace Go.Proofs.Ytfdhfhgljhnhlaa
open Go Go.RowKit
def bitB (v : Nat) (i : Int) : Bool := decide (0 ≤ i) && (decide (i < 256) && (v / 2 ^ i.toNat % 2 == 1))
def s_bit : Spec := fun a M => match a, M with
  | [.nums .u8 l, .int .i64 i], [] => some (some (By l), .bool (bitB (V l) i), [])
  | _, _ => none

def h_sbitA (la : List Int) (i : Int) : Hints := ⟨fun it t => match t with
  | 6 => bif eqIt [] it then some (.val (.bool false)) else none
  | _ => none, fun it id => match id, it with
  | _, _ => none⟩
theorem run_sbitA (la : List Int) (i : Int) : specW Try.prog noD (cBP Try.prog) (h_sbitA la i) 1000 22 [(.nums .u8 la), (.int .i64 i)] [] (fun v M => v = (.bool (bitB (V la) i)) ∧ M = []) =
  ((AV.bool (decide (i ≥ 0))) = (AV.bool false) ∧ ((AV.bool false) = (AV.bool (bitB (V la) i)) ∧ ([] : Mem) = [])) := by kernel_rfl
theorem sbitA_ok {la : List Int} {i : Int} (hyp : By la ∧ i < 0) : ∃ D H N, specW Try.prog D (cBP Try.prog) H N 22 [(.nums .u8 la), (.int .i64 i)] [] fun v M => v = (.bool (bitB (V la) i)) ∧ M = [] := by
  obtain ⟨hla, hi⟩ := hyp
  refine ⟨noD, _, 1000, Eq.mpr (run_sbitA la i) ⟨aB (decide_eq_false (by omega)), ⟨?_, rfl⟩⟩⟩
  rw [show bitB (V la) i = false by unfold bitB; rw [decide_eq_false (by omega : ¬ 0 ≤ i)]; rfl]
def h_sbitC (la : List Int) (i : Int) : Hints := ⟨fun it t => match t with
  | 6 => bif eqIt [] it then some (.val (.bool true)) else none
  | 9 => bif eqIt [] it then some (.val (.bool false)) else none
  | _ => none, fun it id => match id, it with
  | _, _ => none⟩
theorem run_sbitC (la : List Int) (i : Int) : specW Try.prog noD (cBP Try.prog) (h_sbitC la i) 1000 22 [(.nums .u8 la), (.int .i64 i)] [] (fun v M => v = (.bool (bitB (V la) i)) ∧ M = []) =
  ((AV.bool (decide (i ≥ 0))) = (AV.bool true) ∧ (AV.bool (decide (i < 256))) = (AV.bool false) ∧ ((AV.bool false) = (AV.bool (bitB (V la) i)) ∧ ([] : Mem) = [])) := by kernel_rfl
theorem sbitC_ok {la : List Int} {i : Int} (hyp : By la ∧ 256 ≤ i) : ∃ D H N, specW Try.prog D (cBP Try.prog) H N 22 [(.nums .u8 la), (.int .i64 i)] [] fun v M => v = (.bool (bitB (V la) i)) ∧ M = [] := by
  obtain ⟨hla, hi⟩ := hyp
  refine ⟨noD, _, 1000, Eq.mpr (run_sbitC la i) ⟨aB (decide_eq_true (by omega)), aB (decide_eq_false (by omega)), ⟨?_, rfl⟩⟩⟩
  rw [show bitB (V la) i = false by unfold bitB; rw [decide_eq_false (by omega : ¬ i < 256)]; simp]
def h_sbitB (la : List Int) (n : Nat) : Hints := ⟨fun it t => match t with
  | 6 => bif eqIt [] it then some (.val (.bool true)) else none
  | 9 => bif eqIt [] it then some (.val (.bool true)) else none
  | 13 => bif eqIt [] it then some (.val (.int .i64 (Int.ofNat (n / 8)))) else none
  | 14 => bif eqIt [] it then some .ask else none
  | 15 => bif eqIt [] it then some .ask else none
  | 17 => bif eqIt [] it then some (.val (.int .i64 (Int.ofNat (n % 8)))) else none
  | _ => none, fun it id => match id, it with
  | _, _ => none⟩
theorem run_sbitB (la : List Int) (n : Nat) : specW Try.prog noD (cBP Try.prog) (h_sbitB la n) 1000 22 [(.nums .u8 la), (.int .i64 (Int.ofNat n))] [] (fun v M => v = (.bool (bitB (V la) (Int.ofNat n))) ∧ M = []) =
  ((AV.bool (decide ((Int.ofNat n) ≥ 0))) = (AV.bool true) ∧ (AV.bool (decide ((Int.ofNat n) < 256))) = (AV.bool true) ∧ (AV.int .i64 (IntKind.i64.wrap (Int.tdiv (Int.ofNat n) 8))) = (AV.int .i64 (Int.ofNat (n / 8))) ∧ (inR (Int.ofNat (n / 8)) 32 = some (n / 8)) ∧ ((0 + (n / 8) * 1) < la.length) ∧ (AV.int .i64 (Int.tmod (Int.ofNat n) 8)) = (AV.int .i64 (Int.ofNat (n % 8))) ∧ ((AV.bool ((IntKind.u8.wrap ((BitVec.ofInt 8 (Int.fdiv (la.getD (0 + (n / 8) * 1) 0) (2 ^ (Nat.min (n % 8) 8))) &&& BitVec.ofInt 8 (1 : Int)).toNat)) == 1)) = (AV.bool (bitB (V la) (Int.ofNat n))) ∧ ([] : Mem) = [])) := by kernel_rfl
theorem sbitB_ok {la : List Int} {n : Nat} (hyp : By la ∧ n < 256) : ∃ D H N, specW Try.prog D (cBP Try.prog) H N 22 [(.nums .u8 la), (.int .i64 (Int.ofNat n))] [] fun v M => v = (.bool (bitB (V la) (Int.ofNat n))) ∧ M = [] := by
  obtain ⟨hla, hn⟩ := hyp
  refine ⟨noD, _, 1000, Eq.mpr (run_sbitB la n) ⟨aB (decide_eq_true (by simp only [Int.ofNat_eq_natCast]; omega)), aB (decide_eq_true (by simp only [Int.ofNat_eq_natCast]; omega)), aI (quo8 n (by omega)), inR_ok (by omega), (by rw [hla.1]; omega), rfl, ⟨?_, rfl⟩⟩⟩
  rw [Nat.zero_add, Nat.mul_one]
  obtain ⟨e1, e2⟩ := by_get hla.2 (j := n / 8) (by rw [hla.1]; omega)
  have e3 := V_getD (j := n / 8) (m := n % 8) hla.2 (by rw [hla.1]; omega) (by omega)
  rw [show 8 * (n / 8) + n % 8 = n by omega] at e3
  rw [e1, bit8 e2 (by omega), ← e3]
  refine congrArg AV.bool ?_
  unfold bitB
  rw [decide_eq_true (by simp only [Int.ofNat_eq_natCast]; omega : 0 ≤ Int.ofNat n), decide_eq_true (by simp only [Int.ofNat_eq_natCast]; omega : Int.ofNat n < 256)]
  rfl
theorem sbit_ok {la : List Int} {i : Int} (h : By la) : ∃ D H N, specW Try.prog D (cBP Try.prog) H N 22 [.nums .u8 la, .int .i64 i] [] fun v M => v = .bool (bitB (V la) i) ∧ M = [] := by
  by_cases h1 : i < 0
  · exact sbitA_ok ⟨h, h1⟩
  · by_cases h2 : 256 ≤ i
    · exact sbitC_ok ⟨h, h2⟩
    · have e : i = Int.ofNat i.toNat := (Int.toNat_of_nonneg (by omega)).symm
      rw [e]
      exact sbitB_ok ⟨h, by omega⟩
def h_sbitAr (la : List Int) (i : Int) : Hints := ⟨fun it t => match t with
  | 6 => bif eqIt [] it then some (.val (.bool false)) else none
  | _ => none, fun it id => match id, it with
  | _, _ => none⟩
theorem run_sbitAr (la : List Int) (i : Int) : specW Try.prog noD (cBP Try.prog) (h_sbitAr la i) 1000 23 [(.nums .u8 la), (.int .i64 i)] [] (fun v M => v = (.bool (bitB (V la) i)) ∧ M = []) =
  ((AV.bool (decide (i ≥ 0))) = (AV.bool false) ∧ ((AV.bool false) = (AV.bool (bitB (V la) i)) ∧ ([] : Mem) = [])) := by kernel_rfl
theorem sbitAr_ok {la : List Int} {i : Int} (hyp : By la ∧ i < 0) : ∃ D H N, specW Try.prog D (cBP Try.prog) H N 23 [(.nums .u8 la), (.int .i64 i)] [] fun v M => v = (.bool (bitB (V la) i)) ∧ M = [] := by
  obtain ⟨hla, hi⟩ := hyp
  refine ⟨noD, _, 1000, Eq.mpr (run_sbitAr la i) ⟨aB (decide_eq_false (by omega)), ⟨?_, rfl⟩⟩⟩
  rw [show bitB (V la) i = false by unfold bitB; rw [decide_eq_false (by omega : ¬ 0 ≤ i)]; rfl]
def h_sbitCr (la : List Int) (i : Int) : Hints := ⟨fun it t => match t with
  | 6 => bif eqIt [] it then some (.val (.bool true)) else none
  | 9 => bif eqIt [] it then some (.val (.bool false)) else none
  | _ => none, fun it id => match id, it with
  | _, _ => none⟩
theorem run_sbitCr (la : List Int) (i : Int) : specW Try.prog noD (cBP Try.prog) (h_sbitCr la i) 1000 23 [(.nums .u8 la), (.int .i64 i)] [] (fun v M => v = (.bool (bitB (V la) i)) ∧ M = []) =
  ((AV.bool (decide (i ≥ 0))) = (AV.bool true) ∧ (AV.bool (decide (i < 256))) = (AV.bool false) ∧ ((AV.bool false) = (AV.bool (bitB (V la) i)) ∧ ([] : Mem) = [])) := by kernel_rfl
theorem sbitCr_ok {la : List Int} {i : Int} (hyp : By la ∧ 256 ≤ i) : ∃ D H N, specW Try.prog D (cBP Try.prog) H N 23 [(.nums .u8 la), (.int .i64 i)] [] fun v M => v = (.bool (bitB (V la) i)) ∧ M = [] := by
  obtain ⟨hla, hi⟩ := hyp
  refine ⟨noD, _, 1000, Eq.mpr (run_sbitCr la i) ⟨aB (decide_eq_true (by omega)), aB (decide_eq_false (by omega)), ⟨?_, rfl⟩⟩⟩
  rw [show bitB (V la) i = false by unfold bitB; rw [decide_eq_false (by omega : ¬ i < 256)]; simp]
def h_sbitBr (la : List Int) (n : Nat) : Hints := ⟨fun it t => match t with
  | 6 => bif eqIt [] it then some (.val (.bool true)) else none
  | 9 => bif eqIt [] it then some (.val (.bool true)) else none
  | 13 => bif eqIt [] it then some (.val (.int .i64 (Int.ofNat (n / 8)))) else none
  | 14 => bif eqIt [] it then some .ask else none
  | 15 => bif eqIt [] it then some .ask else none
  | 17 => bif eqIt [] it then some (.val (.int .i64 (Int.ofNat (n % 8)))) else none
  | _ => none, fun it id => match id, it with
  | _, _ => none⟩
theorem run_sbitBr (la : List Int) (n : Nat) : specW Try.prog noD (cBP Try.prog) (h_sbitBr la n) 1000 23 [(.nums .u8 la), (.int .i64 (Int.ofNat n))] [] (fun v M => v = (.bool (bitB (V la) (Int.ofNat n))) ∧ M = []) =
  ((AV.bool (decide ((Int.ofNat n) ≥ 0))) = (AV.bool true) ∧ (AV.bool (decide ((Int.ofNat n) < 256))) = (AV.bool true) ∧ (AV.int .i64 (IntKind.i64.wrap (Int.tdiv (Int.ofNat n) 8))) = (AV.int .i64 (Int.ofNat (n / 8))) ∧ (inR (Int.ofNat (n / 8)) 32 = some (n / 8)) ∧ ((0 + (n / 8) * 1) < la.length) ∧ (AV.int .i64 (Int.tmod (Int.ofNat n) 8)) = (AV.int .i64 (Int.ofNat (n % 8))) ∧ ((AV.bool ((IntKind.u8.wrap ((BitVec.ofInt 8 (Int.fdiv (la.getD (0 + (n / 8) * 1) 0) (2 ^ (Nat.min (n % 8) 8))) &&& BitVec.ofInt 8 (1 : Int)).toNat)) == 1)) = (AV.bool (bitB (V la) (Int.ofNat n))) ∧ ([] : Mem) = [])) := by kernel_rfl
theorem sbitBr_ok {la : List Int} {n : Nat} (hyp : By la ∧ n < 256) : ∃ D H N, specW Try.prog D (cBP Try.prog) H N 23 [(.nums .u8 la), (.int .i64 (Int.ofNat n))] [] fun v M => v = (.bool (bitB (V la) (Int.ofNat n))) ∧ M = [] := by
  obtain ⟨hla, hn⟩ := hyp
  refine ⟨noD, _, 1000, Eq.mpr (run_sbitBr la n) ⟨aB (decide_eq_true (by simp only [Int.ofNat_eq_natCast]; omega)), aB (decide_eq_true (by simp only [Int.ofNat_eq_natCast]; omega)), aI (quo8 n (by omega)), inR_ok (by omega), (by rw [hla.1]; omega), rfl, ⟨?_, rfl⟩⟩⟩
  rw [Nat.zero_add, Nat.mul_one]
  obtain ⟨e1, e2⟩ := by_get hla.2 (j := n / 8) (by rw [hla.1]; omega)
  have e3 := V_getD (j := n / 8) (m := n % 8) hla.2 (by rw [hla.1]; omega) (by omega)
  rw [show 8 * (n / 8) + n % 8 = n by omega] at e3
  rw [e1, bit8 e2 (by omega), ← e3]
  refine congrArg AV.bool ?_
  unfold bitB
  rw [decide_eq_true (by simp only [Int.ofNat_eq_natCast]; omega : 0 ≤ Int.ofNat n), decide_eq_true (by simp only [Int.ofNat_eq_natCast]; omega : Int.ofNat n < 256)]
  rfl
theorem sbitr_ok {la : List Int} {i : Int} (h : By la) : ∃ D H N, specW Try.prog D (cBP Try.prog) H N 23 [.nums .u8 la, .int .i64 i] [] fun v M => v = .bool (bitB (V la) i) ∧ M = [] := by
  by_cases h1 : i < 0
  · exact sbitAr_ok ⟨h, h1⟩
  · by_cases h2 : 256 ≤ i
    · exact sbitCr_ok ⟨h, h2⟩
    · have e : i = Int.ofNat i.toNat := (Int.toNat_of_nonneg (by omega)).symm
      rw [e]
      exact sbitBr_ok ⟨h, by omega⟩
end Go.Proofs.Ytfdhfhgljhnhlaa
