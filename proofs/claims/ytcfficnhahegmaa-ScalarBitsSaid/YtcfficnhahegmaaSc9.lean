/- Bits; what bytes leave. No condition. -/
import Derived.Test.YtcfficnhahegmaaSc8
namespace Go.Proofs.Ytcfficnhahegmaa
open Go Go.RowKit

theorem bifT {b : Bool} {A : Prop} (hb : b = true) (h : A) : bif b then A else False := by rw [hb]; exact h
def s_muladdr : Spec := fun a M => match a, M with
  | [.nums .u8 la, .nums .u8 lb, .nums .u8 lc], [] => some (some (By la ∧ By lb ∧ By lc), .nums .u8 (B32 ((V la * V lb + V lc) % 7237005577332262213973186563042994240857116359379907606001950938285454250989)), [])
  | _, _ => none
def cS6 (P : Program) : OrcP := addS (cS5 P) 20 s_muladdr
theorem cS6_ok : OrcPOK Try.prog (cS6 Try.prog) := by
  unfold cS6
  refine (addS_ok mixed cS5_ok cS5_ok ?_)
  · intro a M q v M' h hq
    unfold s_muladdr at h
    split at h
    · simp only [Option.some.injEq, Prod.mk.injEq] at h
      obtain ⟨rfl, rfl, rfl⟩ := h
      exact muladdr_ok hq
    · cases h
/-! ### Bits -/
def bitB (v : Nat) (i : Int) : Bool := decide (0 ≤ i) && (decide (i < 256) && (v / 2 ^ i.toNat % 2 == 1))
def s_bit : Spec := fun a M => match a, M with
  | [.nums .u8 l, .int .i64 i], [] => some (some (By l), .bool (bitB (V l) i), [])
  | _, _ => none
theorem V_getD : ∀ {l : List Int} {j m : Nat}, (∀ x ∈ l, 0 ≤ x ∧ x < 256) → j < l.length → m < 8 → V l / 2 ^ (8 * j + m) % 2 = (l.getD j 0).toNat / 2 ^ m % 2
  | [], j, m, _, hj, _ => by simp at hj
  | x :: l, 0, m, h, _, hm => by
    have h1 := h x List.mem_cons_self
    simp only [V, List.getD_cons_zero, Nat.mul_zero, Nat.zero_add]
    have e : (256 : Nat) = 2 ^ m * (2 * 2 ^ (7 - m)) := by
      rw [← Nat.pow_succ', ← Nat.pow_add, show m + (7 - m).succ = 8 by omega]
    rw [e, Nat.mul_assoc (2 ^ m), Nat.add_mul_div_left _ _ (Nat.two_pow_pos m), Nat.mul_assoc 2, Nat.add_mul_mod_self_left]
  | x :: l, j + 1, m, h, hj, hm => by
    have h1 := h x List.mem_cons_self
    have ih := V_getD (l := l) (j := j) (m := m) (fun y hy => h y (List.mem_cons_of_mem _ hy)) (by simpa using hj) hm
    simp only [V, List.getD_cons_succ]
    rw [← ih, show 8 * (j + 1) + m = 8 + (8 * j + m) by omega, Nat.pow_add, ← Nat.div_div_eq_div_mul]
    congr 2
    have : (2 : Nat) ^ 8 = 256 := by decide
    omega
theorem by_get {l : List Int} (h : ∀ x ∈ l, 0 ≤ x ∧ x < 256) {j : Nat} (hj : j < l.length) : l.getD j 0 = Int.ofNat (l.getD j 0).toNat ∧ (l.getD j 0).toNat < 256 := by
  have : l.getD j 0 = l[j] := by simp [List.getD, List.getElem?_eq_getElem hj]
  have h2 := h l[j] (List.getElem_mem hj)
  rw [this]
  exact ⟨(Int.toNat_of_nonneg h2.1).symm, by omega⟩
theorem bit8 {x m : Nat} (hx : x < 256) (hm : m < 8) : (IntKind.u8.wrap ((BitVec.ofInt 8 (Int.fdiv (Int.ofNat x) (2 ^ (Nat.min m 8))) &&& BitVec.ofInt 8 (1 : Int)).toNat) == 1) = (x / 2 ^ m % 2 == 1) := by
  have e : ∀ x : Fin 256, ∀ m : Fin 8, (IntKind.u8.wrap ((BitVec.ofInt 8 (Int.fdiv (Int.ofNat x) (2 ^ (Nat.min m 8))) &&& BitVec.ofInt 8 (1 : Int)).toNat) == 1) = (x.val / 2 ^ m.val % 2 == 1) := by decide +kernel
  exact e ⟨x, hx⟩ ⟨m, hm⟩
theorem aB {a b : Bool} (h : a = b) : AV.bool a = AV.bool b := by rw [h]
theorem aI {k : IntKind} {a b : Int} (h : a = b) : AV.int k a = AV.int k b := by rw [h]
theorem quo8 (n : Nat) (h : n < 4611686018427387904) : IntKind.i64.wrap (Int.tdiv (Int.ofNat n) 8) = Int.ofNat (n / 8) := by
  show IntKind.i64.wrap (Int.ofNat (n / 8)) = _
  exact i64_small _ (by omega)
theorem inR_ok {n m : Nat} (h : n < m) : inR (Int.ofNat n) m = some n := by
  have : Nat.blt n m = true := by simpa using h
  simp only [inR, this, cond_true]
theorem inB_ok {n m : Nat} (h : n ≤ m) : inB (Int.ofNat n) m = some n := by
  have : Nat.ble n m = true := by simpa using h
  simp only [inB, this, cond_true]

def h_bitA (la : List Int) (i : Int) : Hints := ⟨fun it t => match t, it with
  | 6, [] => some (.val (.bool false))
  | _, _ => none, fun it id => match id, it with
  | _, _ => none⟩
theorem run_bitA (la : List Int) (i : Int) : specW Try.prog noD (cS6 Try.prog) (h_bitA la i) 1000 12 [(.nums .u8 la), (.int .i64 i)] [] (fun v M => v = (.bool (bitB (V la) i)) ∧ M = []) =
  ((AV.bool (decide (i ≥ 0))) = (AV.bool false) ∧ ((AV.bool false) = (AV.bool (bitB (V la) i)) ∧ ([] : Mem) = [])) := by kernel_rfl
theorem bitA_ok {la : List Int} {i : Int} (hyp : By la ∧ i < 0) : ∃ D H N, specW Try.prog D (cS6 Try.prog) H N 12 [(.nums .u8 la), (.int .i64 i)] [] fun v M => v = (.bool (bitB (V la) i)) ∧ M = [] := by
  obtain ⟨hla, hi⟩ := hyp
  refine ⟨noD, _, 1000, Eq.mpr (run_bitA la i) ⟨aB (decide_eq_false (by omega)), ⟨?_, rfl⟩⟩⟩
  rw [show bitB (V la) i = false by unfold bitB; rw [decide_eq_false (by omega : ¬ 0 ≤ i)]; rfl]
def h_bitC (la : List Int) (i : Int) : Hints := ⟨fun it t => match t, it with
  | 6, [] => some (.val (.bool true))
  | 9, [] => some (.val (.bool false))
  | _, _ => none, fun it id => match id, it with
  | _, _ => none⟩
theorem run_bitC (la : List Int) (i : Int) : specW Try.prog noD (cS6 Try.prog) (h_bitC la i) 1000 12 [(.nums .u8 la), (.int .i64 i)] [] (fun v M => v = (.bool (bitB (V la) i)) ∧ M = []) =
  ((AV.bool (decide (i ≥ 0))) = (AV.bool true) ∧ (AV.bool (decide (i < 256))) = (AV.bool false) ∧ ((AV.bool false) = (AV.bool (bitB (V la) i)) ∧ ([] : Mem) = [])) := by kernel_rfl
theorem bitC_ok {la : List Int} {i : Int} (hyp : By la ∧ 256 ≤ i) : ∃ D H N, specW Try.prog D (cS6 Try.prog) H N 12 [(.nums .u8 la), (.int .i64 i)] [] fun v M => v = (.bool (bitB (V la) i)) ∧ M = [] := by
  obtain ⟨hla, hi⟩ := hyp
  refine ⟨noD, _, 1000, Eq.mpr (run_bitC la i) ⟨aB (decide_eq_true (by omega)), aB (decide_eq_false (by omega)), ⟨?_, rfl⟩⟩⟩
  rw [show bitB (V la) i = false by unfold bitB; rw [decide_eq_false (by omega : ¬ i < 256)]; simp]
def h_bitB (la : List Int) (n : Nat) : Hints := ⟨fun it t => match t, it with
  | 6, [] => some (.val (.bool true))
  | 9, [] => some (.val (.bool true))
  | 13, [] => some (.val (.int .i64 (Int.ofNat (n / 8))))
  | 14, [] => some .ask
  | 15, [] => some .ask
  | 17, [] => some (.val (.int .i64 (Int.ofNat (n % 8))))
  | _, _ => none, fun it id => match id, it with
  | _, _ => none⟩
theorem run_bitB (la : List Int) (n : Nat) : specW Try.prog noD (cS6 Try.prog) (h_bitB la n) 1000 12 [(.nums .u8 la), (.int .i64 (Int.ofNat n))] [] (fun v M => v = (.bool (bitB (V la) (Int.ofNat n))) ∧ M = []) =
  ((AV.bool (decide ((Int.ofNat n) ≥ 0))) = (AV.bool true) ∧ (AV.bool (decide ((Int.ofNat n) < 256))) = (AV.bool true) ∧ (AV.int .i64 (IntKind.i64.wrap (Int.tdiv (Int.ofNat n) 8))) = (AV.int .i64 (Int.ofNat (n / 8))) ∧ (inR (Int.ofNat (n / 8)) 32 = some (n / 8)) ∧ ((0 + (n / 8) * 1) < la.length) ∧ (AV.int .i64 (Int.tmod (Int.ofNat n) 8)) = (AV.int .i64 (Int.ofNat (n % 8))) ∧ ((AV.bool ((IntKind.u8.wrap ((BitVec.ofInt 8 (Int.fdiv (la.getD (0 + (n / 8) * 1) 0) (2 ^ (Nat.min (n % 8) 8))) &&& BitVec.ofInt 8 (1 : Int)).toNat)) == 1)) = (AV.bool (bitB (V la) (Int.ofNat n))) ∧ ([] : Mem) = [])) := by kernel_rfl
theorem bitB_ok {la : List Int} {n : Nat} (hyp : By la ∧ n < 256) : ∃ D H N, specW Try.prog D (cS6 Try.prog) H N 12 [(.nums .u8 la), (.int .i64 (Int.ofNat n))] [] fun v M => v = (.bool (bitB (V la) (Int.ofNat n))) ∧ M = [] := by
  obtain ⟨hla, hn⟩ := hyp
  refine ⟨noD, _, 1000, Eq.mpr (run_bitB la n) ⟨aB (decide_eq_true (by simp only [Int.ofNat_eq_natCast]; omega)), aB (decide_eq_true (by simp only [Int.ofNat_eq_natCast]; omega)), aI (quo8 n (by omega)), inR_ok (by omega), (by rw [hla.1]; omega), rfl, ⟨?_, rfl⟩⟩⟩
  rw [Nat.zero_add, Nat.mul_one]
  obtain ⟨e1, e2⟩ := by_get hla.2 (j := n / 8) (by rw [hla.1]; omega)
  have e3 := V_getD (j := n / 8) (m := n % 8) hla.2 (by rw [hla.1]; omega) (by omega)
  rw [show 8 * (n / 8) + n % 8 = n by omega] at e3
  rw [e1, bit8 e2 (by omega), ← e3]
  refine congrArg AV.bool ?_
  unfold bitB
  rw [decide_eq_true (by simp only [Int.ofNat_eq_natCast]; omega : 0 ≤ Int.ofNat n), decide_eq_true (by simp only [Int.ofNat_eq_natCast]; omega : Int.ofNat n < 256)]
  rfl
theorem bit_ok {la : List Int} {i : Int} (h : By la) : ∃ D H N, specW Try.prog D (cS6 Try.prog) H N 12 [.nums .u8 la, .int .i64 i] [] fun v M => v = .bool (bitB (V la) i) ∧ M = [] := by
  by_cases h1 : i < 0
  · exact bitA_ok ⟨h, h1⟩
  · by_cases h2 : 256 ≤ i
    · exact bitC_ok ⟨h, h2⟩
    · have e : i = Int.ofNat i.toNat := (Int.toNat_of_nonneg (by omega)).symm
      rw [e]
      exact bitB_ok ⟨h, by omega⟩
def h_bitAr (la : List Int) (i : Int) : Hints := ⟨fun it t => match t, it with
  | 6, [] => some (.val (.bool false))
  | _, _ => none, fun it id => match id, it with
  | _, _ => none⟩
theorem run_bitAr (la : List Int) (i : Int) : specW Try.prog noD (cS6 Try.prog) (h_bitAr la i) 1000 21 [(.nums .u8 la), (.int .i64 i)] [] (fun v M => v = (.bool (bitB (V la) i)) ∧ M = []) =
  ((AV.bool (decide (i ≥ 0))) = (AV.bool false) ∧ ((AV.bool false) = (AV.bool (bitB (V la) i)) ∧ ([] : Mem) = [])) := by kernel_rfl
theorem bitAr_ok {la : List Int} {i : Int} (hyp : By la ∧ i < 0) : ∃ D H N, specW Try.prog D (cS6 Try.prog) H N 21 [(.nums .u8 la), (.int .i64 i)] [] fun v M => v = (.bool (bitB (V la) i)) ∧ M = [] := by
  obtain ⟨hla, hi⟩ := hyp
  refine ⟨noD, _, 1000, Eq.mpr (run_bitAr la i) ⟨aB (decide_eq_false (by omega)), ⟨?_, rfl⟩⟩⟩
  rw [show bitB (V la) i = false by unfold bitB; rw [decide_eq_false (by omega : ¬ 0 ≤ i)]; rfl]
def h_bitCr (la : List Int) (i : Int) : Hints := ⟨fun it t => match t, it with
  | 6, [] => some (.val (.bool true))
  | 9, [] => some (.val (.bool false))
  | _, _ => none, fun it id => match id, it with
  | _, _ => none⟩
theorem run_bitCr (la : List Int) (i : Int) : specW Try.prog noD (cS6 Try.prog) (h_bitCr la i) 1000 21 [(.nums .u8 la), (.int .i64 i)] [] (fun v M => v = (.bool (bitB (V la) i)) ∧ M = []) =
  ((AV.bool (decide (i ≥ 0))) = (AV.bool true) ∧ (AV.bool (decide (i < 256))) = (AV.bool false) ∧ ((AV.bool false) = (AV.bool (bitB (V la) i)) ∧ ([] : Mem) = [])) := by kernel_rfl
theorem bitCr_ok {la : List Int} {i : Int} (hyp : By la ∧ 256 ≤ i) : ∃ D H N, specW Try.prog D (cS6 Try.prog) H N 21 [(.nums .u8 la), (.int .i64 i)] [] fun v M => v = (.bool (bitB (V la) i)) ∧ M = [] := by
  obtain ⟨hla, hi⟩ := hyp
  refine ⟨noD, _, 1000, Eq.mpr (run_bitCr la i) ⟨aB (decide_eq_true (by omega)), aB (decide_eq_false (by omega)), ⟨?_, rfl⟩⟩⟩
  rw [show bitB (V la) i = false by unfold bitB; rw [decide_eq_false (by omega : ¬ i < 256)]; simp]
def h_bitBr (la : List Int) (n : Nat) : Hints := ⟨fun it t => match t, it with
  | 6, [] => some (.val (.bool true))
  | 9, [] => some (.val (.bool true))
  | 13, [] => some (.val (.int .i64 (Int.ofNat (n / 8))))
  | 14, [] => some .ask
  | 15, [] => some .ask
  | 17, [] => some (.val (.int .i64 (Int.ofNat (n % 8))))
  | _, _ => none, fun it id => match id, it with
  | _, _ => none⟩
theorem run_bitBr (la : List Int) (n : Nat) : specW Try.prog noD (cS6 Try.prog) (h_bitBr la n) 1000 21 [(.nums .u8 la), (.int .i64 (Int.ofNat n))] [] (fun v M => v = (.bool (bitB (V la) (Int.ofNat n))) ∧ M = []) =
  ((AV.bool (decide ((Int.ofNat n) ≥ 0))) = (AV.bool true) ∧ (AV.bool (decide ((Int.ofNat n) < 256))) = (AV.bool true) ∧ (AV.int .i64 (IntKind.i64.wrap (Int.tdiv (Int.ofNat n) 8))) = (AV.int .i64 (Int.ofNat (n / 8))) ∧ (inR (Int.ofNat (n / 8)) 32 = some (n / 8)) ∧ ((0 + (n / 8) * 1) < la.length) ∧ (AV.int .i64 (Int.tmod (Int.ofNat n) 8)) = (AV.int .i64 (Int.ofNat (n % 8))) ∧ ((AV.bool ((IntKind.u8.wrap ((BitVec.ofInt 8 (Int.fdiv (la.getD (0 + (n / 8) * 1) 0) (2 ^ (Nat.min (n % 8) 8))) &&& BitVec.ofInt 8 (1 : Int)).toNat)) == 1)) = (AV.bool (bitB (V la) (Int.ofNat n))) ∧ ([] : Mem) = [])) := by kernel_rfl
theorem bitBr_ok {la : List Int} {n : Nat} (hyp : By la ∧ n < 256) : ∃ D H N, specW Try.prog D (cS6 Try.prog) H N 21 [(.nums .u8 la), (.int .i64 (Int.ofNat n))] [] fun v M => v = (.bool (bitB (V la) (Int.ofNat n))) ∧ M = [] := by
  obtain ⟨hla, hn⟩ := hyp
  refine ⟨noD, _, 1000, Eq.mpr (run_bitBr la n) ⟨aB (decide_eq_true (by simp only [Int.ofNat_eq_natCast]; omega)), aB (decide_eq_true (by simp only [Int.ofNat_eq_natCast]; omega)), aI (quo8 n (by omega)), inR_ok (by omega), (by rw [hla.1]; omega), rfl, ⟨?_, rfl⟩⟩⟩
  rw [Nat.zero_add, Nat.mul_one]
  obtain ⟨e1, e2⟩ := by_get hla.2 (j := n / 8) (by rw [hla.1]; omega)
  have e3 := V_getD (j := n / 8) (m := n % 8) hla.2 (by rw [hla.1]; omega) (by omega)
  rw [show 8 * (n / 8) + n % 8 = n by omega] at e3
  rw [e1, bit8 e2 (by omega), ← e3]
  refine congrArg AV.bool ?_
  unfold bitB
  rw [decide_eq_true (by simp only [Int.ofNat_eq_natCast]; omega : 0 ≤ Int.ofNat n), decide_eq_true (by simp only [Int.ofNat_eq_natCast]; omega : Int.ofNat n < 256)]
  rfl
theorem bitr_ok {la : List Int} {i : Int} (h : By la) : ∃ D H N, specW Try.prog D (cS6 Try.prog) H N 21 [.nums .u8 la, .int .i64 i] [] fun v M => v = .bool (bitB (V la) i) ∧ M = [] := by
  by_cases h1 : i < 0
  · exact bitAr_ok ⟨h, h1⟩
  · by_cases h2 : 256 ≤ i
    · exact bitCr_ok ⟨h, h2⟩
    · have e : i = Int.ofNat i.toNat := (Int.toNat_of_nonneg (by omega)).symm
      rw [e]
      exact bitBr_ok ⟨h, by omega⟩
end Go.Proofs.Ytcfficnhahegmaa
