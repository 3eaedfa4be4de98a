/- Plain facts about numbers, words and bytes. No condition. -/
import Derived.Test.YtkeieikhmaeiiaaSc6
namespace Go.Proofs.Ytkeieikhmaeiiaa
open Go Go.RowKit

theorem Wv8 {a b c d e f g h : Nat} : Wv [Int.ofNat a, Int.ofNat b, Int.ofNat c, Int.ofNat d, Int.ofNat e, Int.ofNat f, Int.ofNat g, Int.ofNat h] = V4 a b c d + 115792089237316195423570985008687907853269984665640564039457584007913129639936 * V4 e f g h := by
  have : ∀ n : Nat, (Int.ofNat n).toNat = n := fun _ => rfl
  simp only [Wv, V4, this]; omega
theorem Ws8 {a b c d e f g h : Nat} (h1 : In4 a b c d) (h2 : In4 e f g h) : Ws 8 [Int.ofNat a, Int.ofNat b, Int.ofNat c, Int.ofNat d, Int.ofNat e, Int.ofNat f, Int.ofNat g, Int.ofNat h] := by
  refine ⟨rfl, fun x hx => ?_⟩
  simp only [In4, Int.ofNat_eq_natCast] at *
  simp only [List.mem_cons, List.not_mem_nil, or_false] at hx
  rcases hx with rfl | rfl | rfl | rfl | rfl | rfl | rfl | rfl <;> omega
theorem By_lt {l : List Int} (h : By l) : V l < 115792089237316195423570985008687907853269984665640564039457584007913129639936 := by
  obtain ⟨gs, h1, h2, h3, h4⟩ := by_nat h
  rw [h4]
  have := bv_lt gs h2
  rw [h1] at this
  exact this
theorem B32_len (n : Nat) : (B32 n).length = 32 := (By_B32 n).1
theorem by_small : By [1, 0, 0, 0, 0, 0, 0, 0, 0, 0, 0, 0, 0, 0, 0, 0, 0, 0, 0, 0, 0, 0, 0, 0, 0, 0, 0, 0, 0, 0, 0, 0] := ⟨rfl, by decide⟩
theorem Ws_W4 (n : Nat) : Ws 4 (W4 n) := by
  obtain ⟨h1, h2, h3, h4⟩ := In4_w n
  refine ⟨rfl, fun x hx => ?_⟩
  simp only [W4, List.mem_cons, List.not_mem_nil, or_false, Int.ofNat_eq_natCast] at hx
  rcases hx with rfl | rfl | rfl | rfl <;> omega
theorem Ws_W8 (n : Nat) : Ws 8 (W8 n) := by
  refine ⟨rfl, fun x hx => ?_⟩
  rcases List.mem_append.1 hx with h | h
  · exact (Ws_W4 _).2 x h
  · exact (Ws_W4 _).2 x h
theorem V4_mod (n : Nat) : V4 (w0 n) (w1 n) (w2 n) (w3 n) = n % 115792089237316195423570985008687907853269984665640564039457584007913129639936 := by
  simp only [V4, w0, w1, w2, w3]; omega
theorem Wv_W4 (n : Nat) : Wv (W4 n) = n % 115792089237316195423570985008687907853269984665640564039457584007913129639936 := by
  rw [← V4_mod]
  have : ∀ n : Nat, (Int.ofNat n).toNat = n := fun _ => rfl
  simp only [W4, Wv, V4, this]; omega
theorem VB32 (n : Nat) : V (B32 n) = n % 115792089237316195423570985008687907853269984665640564039457584007913129639936 := V_B32 n
theorem Wv_W8 (n : Nat) (h : n < 115792089237316195423570985008687907853269984665640564039457584007913129639936 * 115792089237316195423570985008687907853269984665640564039457584007913129639936) : Wv (W8 n) = n := by
  show Wv [Int.ofNat _, Int.ofNat _, Int.ofNat _, Int.ofNat _, Int.ofNat _, Int.ofNat _, Int.ofNat _, Int.ofNat _] = n
  rw [Wv8, V4_mod, V4_mod]; omega
theorem V_one : V [1, 0, 0, 0, 0, 0, 0, 0, 0, 0, 0, 0, 0, 0, 0, 0, 0, 0, 0, 0, 0, 0, 0, 0, 0, 0, 0, 0, 0, 0, 0, 0] = 1 := by decide
theorem V4_L : V4 6346243789798364141 1503914060200516822 0 1152921504606846976 = 7237005577332262213973186563042994240857116359379907606001950938285454250989 := by decide
theorem Vz32 : V [0, 0, 0, 0, 0, 0, 0, 0, 0, 0, 0, 0, 0, 0, 0, 0, 0, 0, 0, 0, 0, 0, 0, 0, 0, 0, 0, 0, 0, 0, 0, 0] = 0 := by decide
theorem B32_0 : B32 0 = [0, 0, 0, 0, 0, 0, 0, 0, 0, 0, 0, 0, 0, 0, 0, 0, 0, 0, 0, 0, 0, 0, 0, 0, 0, 0, 0, 0, 0, 0, 0, 0] := by decide
theorem mLB (n : Nat) : n % 7237005577332262213973186563042994240857116359379907606001950938285454250989 % 115792089237316195423570985008687907853269984665640564039457584007913129639936 = n % 7237005577332262213973186563042994240857116359379907606001950938285454250989 := Nat.mod_eq_of_lt (Nat.lt_trans (Nat.mod_lt _ (by decide)) (by decide))
theorem lt2B {a b : Nat} (h1 : a < 115792089237316195423570985008687907853269984665640564039457584007913129639936) (h2 : b < 115792089237316195423570985008687907853269984665640564039457584007913129639936) : a * b < 115792089237316195423570985008687907853269984665640564039457584007913129639936 * 115792089237316195423570985008687907853269984665640564039457584007913129639936 := Nat.mul_lt_mul'' h1 h2
theorem bifb (b : Bool) : (Int.ofNat (bif b then 1 else 0) == 1) = b := by cases b <;> rfl
theorem bifT {b : Bool} {A : Prop} (hb : b = true) (h : A) : bif b then A else False := by rw [hb]; exact h
theorem V_getD : ∀ {l : List Int} {j m : Nat}, (∀ x ∈ l, 0 ≤ x ∧ x < 256) → j < l.length → m < 8 → V l / 2 ^ (8 * j + m) % 2 = (l.getD j 0).toNat / 2 ^ m % 2
  | [], j, m, _, hj, _ => by simp at hj
  | x :: l, 0, m, h, _, hm => by
    have h1 := h x List.mem_cons_self
    simp only [V, List.getD_cons_zero, Nat.mul_zero, Nat.zero_add]
    have e : (256 : Nat) = 2 ^ m * (2 * 2 ^ (7 - m)) := by
      rw [← Nat.pow_succ', ← Nat.pow_add, show m + (7 - m).succ = 8 by omega]
    rw [e, Nat.mul_assoc (2 ^ m), Nat.add_mul_div_left _ _ (Nat.two_pow_pos m), Nat.mul_assoc 2, Nat.add_mul_mod_self_left]
  | x :: l, j + 1, m, h, hj, hm => by
    have h1 := h x List.mem_cons_self
    have ih := V_getD (l := l) (j := j) (m := m) (fun y hy => h y (List.mem_cons_of_mem _ hy)) (by simpa using hj) hm
    simp only [V, List.getD_cons_succ]
    rw [← ih, show 8 * (j + 1) + m = 8 + (8 * j + m) by omega, Nat.pow_add, ← Nat.div_div_eq_div_mul]
    congr 2
    have : (2 : Nat) ^ 8 = 256 := by decide
    omega
theorem by_get {l : List Int} (h : ∀ x ∈ l, 0 ≤ x ∧ x < 256) {j : Nat} (hj : j < l.length) : l.getD j 0 = Int.ofNat (l.getD j 0).toNat ∧ (l.getD j 0).toNat < 256 := by
  have : l.getD j 0 = l[j] := by simp [List.getD, List.getElem?_eq_getElem hj]
  have h2 := h l[j] (List.getElem_mem hj)
  rw [this]
  exact ⟨(Int.toNat_of_nonneg h2.1).symm, by omega⟩
theorem bit8 {x m : Nat} (hx : x < 256) (hm : m < 8) : (IntKind.u8.wrap ((BitVec.ofInt 8 (Int.fdiv (Int.ofNat x) (2 ^ (Nat.min m 8))) &&& BitVec.ofInt 8 (1 : Int)).toNat) == 1) = (x / 2 ^ m % 2 == 1) := by
  have e : ∀ x : Fin 256, ∀ m : Fin 8, (IntKind.u8.wrap ((BitVec.ofInt 8 (Int.fdiv (Int.ofNat x) (2 ^ (Nat.min m 8))) &&& BitVec.ofInt 8 (1 : Int)).toNat) == 1) = (x.val / 2 ^ m.val % 2 == 1) := by decide +kernel
  exact e ⟨x, hx⟩ ⟨m, hm⟩
theorem aB {a b : Bool} (h : a = b) : AV.bool a = AV.bool b := by rw [h]
theorem aI {k : IntKind} {a b : Int} (h : a = b) : AV.int k a = AV.int k b := by rw [h]
theorem quo8 (n : Nat) (h : n < 4611686018427387904) : IntKind.i64.wrap (Int.tdiv (Int.ofNat n) 8) = Int.ofNat (n / 8) := by
  show IntKind.i64.wrap (Int.ofNat (n / 8)) = _
  exact i64_small _ (by omega)
theorem inR_ok {n m : Nat} (h : n < m) : inR (Int.ofNat n) m = some n := by
  have : Nat.blt n m = true := by simpa using h
  simp only [inR, this, cond_true]
theorem inB_ok {n m : Nat} (h : n ≤ m) : inB (Int.ofNat n) m = some n := by
  have : Nat.ble n m = true := by simpa using h
  simp only [inB, this, cond_true]
theorem V_take_succ {l : List Int} {k : Nat} (hk : k < l.length) : V (l.take (k + 1)) = V (l.take k) + (l.getD k 0).toNat * 256 ^ k := by
  induction k generalizing l with
  | zero =>
    cases l with
    | nil => simp at hk
    | cons x l => simp [V]
  | succ k ih =>
    cases l with
    | nil => simp at hk
    | cons x l =>
      have := ih (l := l) (by simpa using hk)
      simp only [List.take_succ_cons, V, List.getD_cons_succ] at this ⊢
      have e : 256 * ((l.getD k 0).toNat * 256 ^ k) = (l.getD k 0).toNat * (256 ^ k * 256) := by rw [Nat.mul_left_comm, Nat.mul_comm 256]
      rw [this, Nat.pow_succ, Nat.mul_add, e, Nat.add_assoc]
theorem V_lt : ∀ {l : List Int}, (∀ x ∈ l, 0 ≤ x ∧ x < 256) → V l < 256 ^ l.length
  | [], _ => by simp [V]
  | x :: l, h => by
    have h1 := h x List.mem_cons_self
    have h2 := V_lt fun y hy => h y (List.mem_cons_of_mem _ hy)
    simp only [V, List.length_cons, Nat.pow_succ]
    omega
def Bys (l : List Int) : Prop := ∀ x ∈ l, 0 ≤ x ∧ x < 256
theorem seg_len {l : List Int} {off n : Nat} (h : off + n ≤ l.length) : (seg l off n).length = n := by
  simp only [seg, List.length_take, List.length_drop]; omega
theorem seg_by {l : List Int} {off n : Nat} (h : Bys l) : Bys (seg l off n) := fun x hx => h x (List.mem_of_mem_drop (List.mem_of_mem_take hx))
theorem seg_take {l : List Int} {off n k : Nat} (h : k ≤ n) : (seg l off n).take k = seg l off k := by
  simp only [seg, List.take_take, Nat.min_eq_left h]
theorem seg_get {l : List Int} {off n k : Nat} (h : k < n) : (seg l off n).getD k 0 = l.getD (off + k) 0 := by
  simp only [seg, List.getD, List.getElem?_take, h, if_true, List.getElem?_drop]
theorem min64 (n : Nat) : (if (64 : Int) < Int.ofNat n then 64 else Int.ofNat n) = Int.ofNat (Nat.min n 64) := by
  split
  · rw [show Nat.min n 64 = 64 from Nat.min_eq_right (by simp only [Int.ofNat_eq_natCast] at *; omega)]; rfl
  · rw [show Nat.min n 64 = n from Nat.min_eq_left (by simp only [Int.ofNat_eq_natCast] at *; omega)]
theorem lt_ok {a b : Nat} (h : a < b) : decide (Int.ofNat a < Int.ofNat b) = true := decide_eq_true (Int.ofNat_lt.2 h)
theorem lt_no {a b : Nat} (h : ¬ a < b) : decide (Int.ofNat a < Int.ofNat b) = false := decide_eq_false fun k => h (Int.ofNat_lt.1 k)
theorem inc_ok {n : Nat} (h : n < 4611686018427387904) : IntKind.i64.wrap (Int.ofNat n + 1) = Int.ofNat (n + 1) := i64_small (n + 1) (by omega)
theorem mul8 {n : Nat} (h : n < 1024) : IntKind.i64.wrap ((8 : Int) * Int.ofNat n) = Int.ofNat (8 * n) := by
  have := i64_small (8 * n) (by omega)
  rw [← this]; congr 1
instance (l : List Int) : Decidable (By l) := inferInstanceAs (Decidable (_ ∧ _))
instance (l : List Int) : Decidable (Bys l) := inferInstanceAs (Decidable (∀ x ∈ l, _))
theorem beqT {α : Type} [BEq α] [LawfulBEq α] {a b : α} (h : a = b) : AV.bool (a == b) = AV.bool true := by
  rw [beq_iff_eq.2 h]
theorem V_zero : V [0, 0, 0, 0, 0, 0, 0, 0, 0, 0, 0, 0, 0, 0, 0, 0, 0, 0, 0, 0, 0, 0, 0, 0, 0, 0, 0, 0, 0, 0, 0, 0] = 0 := by decide
theorem seg_all {l : List Int} {n : Nat} (h : l.length = n) : seg l 0 n = l := by
  subst h; simp only [seg, List.drop_zero, List.take_length]
theorem bltT {a b : Nat} (h : a < b) : AV.bool (Nat.blt a b) = AV.bool true := by rw [blt_ok h]
theorem V_app : ∀ a b : List Int, V (a ++ b) = V a + 256 ^ a.length * V b
  | [], b => by simp [V]
  | x :: a, b => by
    simp only [List.cons_append, V, V_app a b, List.length_cons, Nat.pow_succ]
    rw [Nat.mul_add, Nat.mul_comm (256 ^ a.length) 256, Nat.mul_assoc]; omega
theorem seg_app {a b : List Int} {off n : Nat} (h : off + n ≤ a.length) : seg (a ++ b) off n = seg a off n := by
  simp only [seg, List.drop_append, List.take_append, List.length_drop]
  rw [show n - (a.length - off) = 0 by omega, List.take_zero, List.append_nil]
theorem no_gt {n m : Nat} (h : decide (Int.ofNat n > (m : Int)) = false) : ¬ m < n := fun k => by
  have : Int.ofNat n > (m : Int) := Int.ofNat_lt.2 k
  rw [decide_eq_true this] at h; cases h
end Go.Proofs.Ytkeieikhmaeiiaa
