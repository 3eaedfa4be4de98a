/- What bytes leave. No condition. -/
import Derived.Test.YtcfficnhahegmaaSc9
namespace Go.Proofs.Ytcfficnhahegmaa
open Go Go.RowKit

def wN (j v : Nat) : Nat := v / 2 ^ (64 * j) % 18446744073709551616
theorem W8_wN (v : Nat) : W8 v = [Int.ofNat (wN 0 v), Int.ofNat (wN 1 v), Int.ofNat (wN 2 v), Int.ofNat (wN 3 v), Int.ofNat (wN 4 v), Int.ofNat (wN 5 v), Int.ofNat (wN 6 v), Int.ofNat (wN 7 v)] := by
  have e0 : w0 v = wN 0 v := by simp only [w0, wN, Nat.mul_zero, Nat.pow_zero, Nat.div_one]
  have e1 : w1 v = wN 1 v := rfl
  have e2 : w2 v = wN 2 v := rfl
  have e3 : w3 v = wN 3 v := rfl
  have e4 : w0 (v / 115792089237316195423570985008687907853269984665640564039457584007913129639936) = wN 4 v := rfl
  have p : (115792089237316195423570985008687907853269984665640564039457584007913129639936 : Nat) = 2 ^ 256 := by decide
  have e5 : w1 (v / 115792089237316195423570985008687907853269984665640564039457584007913129639936) = wN 5 v := by
    unfold w1 wN; rw [p, Nat.div_div_eq_div_mul, show (2 : Nat) ^ 256 * 18446744073709551616 = 2 ^ (64 * 5) by decide +kernel]
  have e6 : w2 (v / 115792089237316195423570985008687907853269984665640564039457584007913129639936) = wN 6 v := by
    unfold w2 wN; rw [p, Nat.div_div_eq_div_mul, show (2 : Nat) ^ 256 * 340282366920938463463374607431768211456 = 2 ^ (64 * 6) by decide +kernel]
  have e7 : w3 (v / 115792089237316195423570985008687907853269984665640564039457584007913129639936) = wN 7 v := by
    unfold w3 wN; rw [p, Nat.div_div_eq_div_mul, show (2 : Nat) ^ 256 * 6277101735386680763835789423207666416102355444464034512896 = 2 ^ (64 * 7) by decide +kernel]
  show [Int.ofNat _, Int.ofNat _, Int.ofNat _, Int.ofNat _, Int.ofNat _, Int.ofNat _, Int.ofNat _, Int.ofNat _] = _
  rw [e0, e1, e2, e3, e4, e5, e6, e7]
theorem W8_get (v : Nat) {j : Nat} (hj : j < 8) : (W8 v).getD j 0 = Int.ofNat (wN j v) := by
  rw [W8_wN]
  rcases j with _ | _ | _ | _ | _ | _ | _ | _ | j
  all_goals first | rfl | omega
theorem W8_len (v : Nat) : (W8 v).length = 8 := rfl
/-- A byte more. -/
theorem W8_set {v c k : Nat} (hk : k < 64) (hv : v < 256 ^ k) (hc : c < 256) : (W8 v).set (k / 8) (Int.ofNat (wN (k / 8) v + c * 2 ^ (8 * (k % 8)))) = W8 (v + c * 256 ^ k) := by
  have e256 : (256 : Nat) ^ k = 2 ^ (64 * (k / 8) + 8 * (k % 8)) := by
    rw [show (256 : Nat) = 2 ^ 8 by rfl, ← Nat.pow_mul]; congr 1; omega
  have hpos : 0 < 2 ^ (64 * (k / 8)) := Nat.two_pow_pos _
  have hv2 : v < 2 ^ (64 * (k / 8)) * 2 ^ (8 * (k % 8)) := by rw [← Nat.pow_add, ← e256]; exact hv
  have hmid : v / 2 ^ (64 * (k / 8)) < 2 ^ (8 * (k % 8)) := Nat.div_lt_of_lt_mul hv2
  have h8 : 2 ^ (8 * (k % 8)) ≤ 2 ^ 56 := Nat.pow_le_pow_right (by omega) (by omega)
  have hcm : c * 2 ^ (8 * (k % 8)) ≤ 255 * 2 ^ (8 * (k % 8)) := Nat.mul_le_mul_right _ (by omega)
  have key : ∀ j, j < 8 → wN j (v + c * 256 ^ k) = if j = k / 8 then wN (k / 8) v + c * 2 ^ (8 * (k % 8)) else wN j v := by
    intro j hj
    by_cases h1 : j = k / 8
    · subst h1
      rw [if_pos rfl]
      unfold wN
      rw [e256, Nat.pow_add, show c * (2 ^ (64 * (k / 8)) * 2 ^ (8 * (k % 8))) = 2 ^ (64 * (k / 8)) * (c * 2 ^ (8 * (k % 8))) by rw [Nat.mul_left_comm], Nat.add_mul_div_left _ _ hpos]
      generalize 2 ^ (8 * (k % 8)) = m at *
      generalize c * m = cm at *
      generalize v / 2 ^ (64 * (k / 8)) = x at *
      omega
    · rw [if_neg h1]
      unfold wN
      by_cases h2 : j < k / 8
      · rw [e256, show 64 * (k / 8) + 8 * (k % 8) = 64 * j + (64 + (64 * (k / 8 - j - 1) + 8 * (k % 8))) by omega, Nat.pow_add 2 (64 * j), Nat.pow_add 2 64,
          show c * (2 ^ (64 * j) * (2 ^ 64 * 2 ^ (64 * (k / 8 - j - 1) + 8 * (k % 8)))) = 2 ^ (64 * j) * (18446744073709551616 * (c * 2 ^ (64 * (k / 8 - j - 1) + 8 * (k % 8)))) by
            rw [Nat.mul_left_comm c, Nat.mul_left_comm c, show (2 : Nat) ^ 64 = 18446744073709551616 by decide], Nat.add_mul_div_left _ _ (Nat.two_pow_pos _), Nat.add_mul_mod_self_left]
      · have h3 : 2 ^ (64 * (k / 8) + 64) ≤ 2 ^ (64 * j) := Nat.pow_le_pow_right (by omega) (by omega)
        have h4 : v + c * 256 ^ k < 2 ^ (64 * (k / 8) + 64) := by
          have : (c + 1) * 256 ^ k ≤ 256 * 256 ^ k := Nat.mul_le_mul_right _ (by omega)
          have h5 : 256 * 256 ^ k ≤ 2 ^ (64 * (k / 8) + 64) := by
            rw [e256, show (256 : Nat) = 2 ^ 8 by rfl, ← Nat.pow_add]
            exact Nat.pow_le_pow_right (by omega) (by omega)
          rw [Nat.succ_mul] at this
          omega
        have h6 : v < 2 ^ (64 * (k / 8) + 64) := by omega
        rw [Nat.div_eq_of_lt (Nat.lt_of_lt_of_le h4 h3), Nat.div_eq_of_lt (Nat.lt_of_lt_of_le h6 h3)]
  rw [W8_wN (v + c * 256 ^ k), key 0 (by omega), key 1 (by omega), key 2 (by omega), key 3 (by omega), key 4 (by omega), key 5 (by omega), key 6 (by omega), key 7 (by omega), W8_wN v]
  have hq : k / 8 < 8 := by omega
  generalize k / 8 = q at *
  rcases q with _ | _ | _ | _ | _ | _ | _ | _ | q
  all_goals first | omega | rfl
theorem V_take_succ {l : List Int} {k : Nat} (hk : k < l.length) : V (l.take (k + 1)) = V (l.take k) + (l.getD k 0).toNat * 256 ^ k := by
  induction k generalizing l with
  | zero =>
    cases l with
    | nil => simp at hk
    | cons x l => simp [V]
  | succ k ih =>
    cases l with
    | nil => simp at hk
    | cons x l =>
      have := ih (l := l) (by simpa using hk)
      simp only [List.take_succ_cons, V, List.getD_cons_succ] at this ⊢
      have e : 256 * ((l.getD k 0).toNat * 256 ^ k) = (l.getD k 0).toNat * (256 ^ k * 256) := by rw [Nat.mul_left_comm, Nat.mul_comm 256]
      rw [this, Nat.pow_succ, Nat.mul_add, e, Nat.add_assoc]
theorem V_lt : ∀ {l : List Int}, (∀ x ∈ l, 0 ≤ x ∧ x < 256) → V l < 256 ^ l.length
  | [], _ => by simp [V]
  | x :: l, h => by
    have h1 := h x List.mem_cons_self
    have h2 := V_lt fun y hy => h y (List.mem_cons_of_mem _ hy)
    simp only [V, List.length_cons, Nat.pow_succ]
    omega
def Bys (l : List Int) : Prop := ∀ x ∈ l, 0 ≤ x ∧ x < 256
theorem seg_len {l : List Int} {off n : Nat} (h : off + n ≤ l.length) : (seg l off n).length = n := by
  simp only [seg, List.length_take, List.length_drop]; omega
theorem seg_by {l : List Int} {off n : Nat} (h : Bys l) : Bys (seg l off n) := fun x hx => h x (List.mem_of_mem_drop (List.mem_of_mem_take hx))
theorem seg_take {l : List Int} {off n k : Nat} (h : k ≤ n) : (seg l off n).take k = seg l off k := by
  simp only [seg, List.take_take, Nat.min_eq_left h]
theorem seg_get {l : List Int} {off n k : Nat} (h : k < n) : (seg l off n).getD k 0 = l.getD (off + k) 0 := by
  simp only [seg, List.getD, List.getElem?_take, h, if_true, List.getElem?_drop]
theorem of_step {l : List Int} {off k n : Nat} (hk : k < 64) (hl : off + n ≤ l.length) (hkn : k < n) (hb : Bys l) :
    (W8 (V (seg l off k))).set (0 + k / 8 * 1) (IntKind.u64.wrap ((BitVec.ofInt 64 ((W8 (V (seg l off k))).getD (0 + k / 8 * 1) 0) ||| BitVec.ofInt 64 (IntKind.u64.wrap ((IntKind.u64.wrap (l.getD (off + k * 1) 0)) * 2 ^ (Nat.min (8 * (k % 8)) 64)))).toNat)) = W8 (V (seg l off (k + 1))) := by
  have hv : V (seg l off k) < 256 ^ k := by
    have := V_lt (seg_by (off := off) (n := k) hb)
    rwa [seg_len (by omega)] at this
  rw [Nat.zero_add, Nat.mul_one, Nat.mul_one, W8_get _ (by omega)]
  obtain ⟨e1, e2⟩ := by_get hb (j := off + k) (by omega)
  have e3 := V_take_succ (l := seg l off n) (k := k) (by rw [seg_len hl]; exact hkn)
  rw [seg_take (by omega), seg_take (by omega), seg_get hkn] at e3
  rw [e3]
  generalize l.getD (off + k) 0 = z at *
  generalize z.toNat = c at *
  subst e1
  have hp : wN (k / 8) (V (seg l off k)) < 2 ^ (8 * (k % 8)) := by
    unfold wN
    have e256 : (256 : Nat) ^ k = 2 ^ (64 * (k / 8) + 8 * (k % 8)) := by
      rw [show (256 : Nat) = 2 ^ 8 by rfl, ← Nat.pow_mul]; congr 1; omega
    have hv2 : V (seg l off k) < 2 ^ (64 * (k / 8)) * 2 ^ (8 * (k % 8)) := by rw [← Nat.pow_add, ← e256]; exact hv
    exact Nat.lt_of_le_of_lt (Nat.mod_le _ _) (Nat.div_lt_of_lt_mul hv2)
  have h3 := or_step (p := wN (k / 8) (V (seg l off k))) (c := c) (m := 8 * (k % 8)) (by omega) hp e2
  unfold orRaw at h3
  rw [h3, W8_set hk hv e2]
theorem min64 (n : Nat) : (if (64 : Int) < Int.ofNat n then 64 else Int.ofNat n) = Int.ofNat (Nat.min n 64) := by
  split
  · rw [show Nat.min n 64 = 64 from Nat.min_eq_right (by simp only [Int.ofNat_eq_natCast] at *; omega)]; rfl
  · rw [show Nat.min n 64 = n from Nat.min_eq_left (by simp only [Int.ofNat_eq_natCast] at *; omega)]
theorem lt_ok {a b : Nat} (h : a < b) : decide (Int.ofNat a < Int.ofNat b) = true := decide_eq_true (Int.ofNat_lt.2 h)
theorem lt_no {a b : Nat} (h : ¬ a < b) : decide (Int.ofNat a < Int.ofNat b) = false := decide_eq_false fun k => h (Int.ofNat_lt.1 k)
theorem inc_ok {n : Nat} (h : n < 4611686018427387904) : IntKind.i64.wrap (Int.ofNat n + 1) = Int.ofNat (n + 1) := i64_small (n + 1) (by omega)
theorem mul8 {n : Nat} (h : n < 1024) : IntKind.i64.wrap ((8 : Int) * Int.ofNat n) = Int.ofNat (8 * n) := by
  have := i64_small (8 * n) (by omega)
  rw [← this]; congr 1
theorem Ws8_W8 (n : Nat) : Ws 8 (W8 n) := Ws_W8 n

def x_of_ro (l : List Int) (off base n : Nat) (lim : Option Nat) (X : List Int) (k : Nat) : St := ⟨[.junk, .junk, (.ptr 1 0), (.ptr 2 0), .junk, .junk, .junk, .junk, .junk, .junk, (.sl 0 off base (Nat.min n 64) 1 lim), (.int .i64 (Int.ofNat (Nat.min n 64))), (.int .i64 (Int.ofNat k)), .junk, .junk, .junk, .junk, .junk, .junk, .junk, .junk, .junk, .junk, .junk, .junk, .junk, .junk, .junk, .junk, .junk, .junk, .junk], [⟨(.nums .u8 l), .ro, false⟩, ⟨(.nums .u8 (List.replicate 32 0)), .own, false⟩, ⟨(.nums .u64 X), .own, (!(Nat.beq k 0))⟩]⟩
def h_of_ro (l : List Int) (off base n : Nat) (lim : Option Nat) : Hints := ⟨fun it t => match t, it with
  | 9, [] => some (.val (.int .i64 (Int.ofNat (Nat.min n 64))))
  | 10, [] => some .ask
  | 13, [some k0] => some (.val (.bool true))
  | 15, [some k0] => some .ask
  | 16, [some k0] => some .ask
  | 18, [some k0] => some (.val (.int .i64 (Int.ofNat (k0 / 8))))
  | 19, [some k0] => some .ask
  | 20, [some k0] => some .ask
  | 24, [some k0] => some (.val (.int .i64 (Int.ofNat (k0 % 8))))
  | 25, [some k0] => some (.val (.int .i64 (Int.ofNat (8 * (k0 % 8)))))
  | 28, [some k0] => some .ask
  | 100028, [some k0] => some .ask
  | 29, [some k0] => some (.val (.int .i64 (Int.ofNat (k0 + 1))))
  | 13, [none] => some (.val (.bool false))
  | 100002, [] => some .ask
  | _, _ => none, fun it id => match id, it with
  | 0, [] => some ⟨(Nat.min n 64), true, fun kk => x_of_ro l off base n lim (W8 (V (seg l off kk))) kk⟩
  | _, _ => none⟩
def d_of_ro : Nat → Option (List Nat) := fun n => match n with
  | 0 => some [0, 1, 4, 5, 6, 7, 8, 9, 13, 14, 15, 16, 17, 18, 19, 20, 21, 22, 23, 24, 25, 26, 27, 28, 29, 30, 31]
  | _ => none
theorem run_of_ro (l : List Int) (off base n : Nat) (lim : Option Nat) : specW Try.prog d_of_ro (cS6 Try.prog) (h_of_ro l off base n lim) 1000 9 [(.sl 0 off base n 1 lim)] [(⟨(.nums .u8 l), .ro, false⟩ : Blk)] (fun v M => v = (.nums .u8 (B32 (V (seg l off (Nat.min n 64)) % 7237005577332262213973186563042994240857116359379907606001950938285454250989))) ∧ M = [(⟨(.nums .u8 l), .ro, false⟩ : Blk)]) =
  ((AV.int .i64 (if (64 : Int) < (Int.ofNat n) then 64 else (Int.ofNat n))) = (AV.int .i64 (Int.ofNat (Nat.min n 64))) ∧ (1 = 1 ∧ inB (Int.ofNat (Nat.min n 64)) n = some (Nat.min n 64)) ∧ (bif Nat.blt (Nat.min n 64) 1000 then (x_of_ro l off base n lim [0, 0, 0, 0, 0, 0, 0, 0] 0 = x_of_ro l off base n lim (W8 (V (seg l off 0))) 0 ∧ (∀ k0, k0 < (Nat.min n 64) → ((AV.bool (decide ((Int.ofNat k0) < (Int.ofNat (Nat.min n 64))))) = (AV.bool true) ∧ (1 = 1 ∧ inR (Int.ofNat k0) (Nat.min n 64) = some k0) ∧ ((off + k0 * 1) < l.length) ∧ (AV.int .i64 (IntKind.i64.wrap (Int.tdiv (Int.ofNat k0) 8))) = (AV.int .i64 (Int.ofNat (k0 / 8))) ∧ (inR (Int.ofNat (k0 / 8)) 8 = some (k0 / 8)) ∧ ((0 + (k0 / 8) * 1) < (W8 (V (seg l off k0))).length) ∧ (AV.int .i64 (Int.tmod (Int.ofNat k0) 8)) = (AV.int .i64 (Int.ofNat (k0 % 8))) ∧ (AV.int .i64 (IntKind.i64.wrap ((8 : Int) * (Int.ofNat (k0 % 8))))) = (AV.int .i64 (Int.ofNat (8 * (k0 % 8)))) ∧ (inR (Int.ofNat (k0 / 8)) 8 = some (k0 / 8)) ∧ (IntKind.u64 = IntKind.u64 ∧ 1 = 1 ∧ (0 + (k0 / 8) * 1) < (W8 (V (seg l off k0))).length) ∧ (AV.int .i64 (IntKind.i64.wrap ((Int.ofNat k0) + (1 : Int)))) = (AV.int .i64 (Int.ofNat (k0 + 1))) ∧ x_of_ro l off base n lim ((W8 (V (seg l off k0))).set (0 + (k0 / 8) * 1) (IntKind.u64.wrap ((BitVec.ofInt 64 ((W8 (V (seg l off k0))).getD (0 + (k0 / 8) * 1) 0) ||| BitVec.ofInt 64 (IntKind.u64.wrap ((IntKind.u64.wrap (l.getD (off + k0 * 1) 0)) * 2 ^ (Nat.min (8 * (k0 % 8)) 64)))).toNat))) (k0 + 1) = x_of_ro l off base n lim (W8 (V (seg l off (k0 + 1)))) (k0 + 1))) ∧ (AV.bool (decide ((Int.ofNat (Nat.min n 64)) < (Int.ofNat (Nat.min n 64))))) = (AV.bool false) ∧ (Ws 8 (W8 (V (seg l off (Nat.min n 64))))) ∧ (IntKind.u8 = IntKind.u8 ∧ 0 = 0 ∧ (B32 (Wv (W8 (V (seg l off (Nat.min n 64)))) % 7237005577332262213973186563042994240857116359379907606001950938285454250989)).length = 32 ∧ ([0, 0, 0, 0, 0, 0, 0, 0, 0, 0, 0, 0, 0, 0, 0, 0, 0, 0, 0, 0, 0, 0, 0, 0, 0, 0, 0, 0, 0, 0, 0, 0] : List Int).length = 32) ∧ ((AV.nums .u8 (B32 (Wv (W8 (V (seg l off (Nat.min n 64)))) % 7237005577332262213973186563042994240857116359379907606001950938285454250989))) = (AV.nums .u8 (B32 (V (seg l off (Nat.min n 64)) % 7237005577332262213973186563042994240857116359379907606001950938285454250989))) ∧ ([(⟨(.nums .u8 l), .ro, false⟩ : Blk)] : Mem) = [(⟨(.nums .u8 l), .ro, false⟩ : Blk)])) else False)) := by kernel_rfl
theorem of_ro_ok {l : List Int} {off base n : Nat} {lim : Option Nat} (h : Bys l) (hl : off + n ≤ l.length) : ∃ D H N, specW Try.prog D (cS6 Try.prog) H N 9 [(.sl 0 off base n 1 lim)] [(⟨(.nums .u8 l), .ro, false⟩ : Blk)] fun v M => v = (.nums .u8 (B32 (V (seg l off (Nat.min n 64)) % 7237005577332262213973186563042994240857116359379907606001950938285454250989))) ∧ M = [(⟨(.nums .u8 l), .ro, false⟩ : Blk)] := by
  have hm1 : Nat.min n 64 ≤ n := Nat.min_le_left _ _
  have hm2 : Nat.min n 64 ≤ 64 := Nat.min_le_right _ _
  have bifT : ∀ {b : Bool} {A : Prop}, b = true → A → bif b then A else False := bifT
  refine ⟨d_of_ro, _, 1000, Eq.mpr (run_of_ro l off base n lim) ⟨aI (min64 n), ⟨rfl, inB_ok (by omega)⟩, (bifT (by simpa using (show (Nat.min n 64) < 1000 by omega)) ⟨?_, fun k0 hk0 => ⟨aB (lt_ok hk0), ⟨rfl, inR_ok (by omega)⟩, (by omega), aI (quo8 k0 (by omega)), inR_ok (by omega), (by rw [W8_len]; omega), rfl, aI (mul8 (by omega)), inR_ok (by omega), ⟨rfl, rfl, (by rw [W8_len]; omega)⟩, aI (inc_ok (by omega)), ?_⟩, aB (lt_no (by omega)), Ws_W8 _, ⟨rfl, rfl, B32_len _, rfl⟩, ⟨?_, rfl⟩⟩)⟩⟩
  · refine congrArg (fun X => x_of_ro l off base n lim X (0)) ?_
    rw [show seg l off 0 = [] from List.take_zero]; decide
  · exact congrArg (fun X => x_of_ro l off base n lim X (k0 + 1)) (of_step (n := n) (by omega) hl (by omega) h)
  · rw [Wv_W8 _ ?_]
    refine Nat.lt_of_lt_of_le (V_lt (seg_by h)) ?_
    rw [seg_len (by omega)]
    exact Nat.le_trans (Nat.pow_le_pow_right (by omega) (by omega : _ ≤ 64)) (by decide)
def x_of_own (l : List Int) (off base n : Nat) (lim : Option Nat) (X : List Int) (k : Nat) : St := ⟨[.junk, .junk, (.ptr 1 0), (.ptr 2 0), .junk, .junk, .junk, .junk, .junk, .junk, (.sl 0 off base (Nat.min n 64) 1 lim), (.int .i64 (Int.ofNat (Nat.min n 64))), (.int .i64 (Int.ofNat k)), .junk, .junk, .junk, .junk, .junk, .junk, .junk, .junk, .junk, .junk, .junk, .junk, .junk, .junk, .junk, .junk, .junk, .junk, .junk], [⟨(.nums .u8 l), .own, false⟩, ⟨(.nums .u8 (List.replicate 32 0)), .own, false⟩, ⟨(.nums .u64 X), .own, (!(Nat.beq k 0))⟩]⟩
def h_of_own (l : List Int) (off base n : Nat) (lim : Option Nat) : Hints := ⟨fun it t => match t, it with
  | 9, [] => some (.val (.int .i64 (Int.ofNat (Nat.min n 64))))
  | 10, [] => some .ask
  | 13, [some k0] => some (.val (.bool true))
  | 15, [some k0] => some .ask
  | 16, [some k0] => some .ask
  | 18, [some k0] => some (.val (.int .i64 (Int.ofNat (k0 / 8))))
  | 19, [some k0] => some .ask
  | 20, [some k0] => some .ask
  | 24, [some k0] => some (.val (.int .i64 (Int.ofNat (k0 % 8))))
  | 25, [some k0] => some (.val (.int .i64 (Int.ofNat (8 * (k0 % 8)))))
  | 28, [some k0] => some .ask
  | 100028, [some k0] => some .ask
  | 29, [some k0] => some (.val (.int .i64 (Int.ofNat (k0 + 1))))
  | 13, [none] => some (.val (.bool false))
  | 100002, [] => some .ask
  | _, _ => none, fun it id => match id, it with
  | 0, [] => some ⟨(Nat.min n 64), true, fun kk => x_of_own l off base n lim (W8 (V (seg l off kk))) kk⟩
  | _, _ => none⟩
def d_of_own : Nat → Option (List Nat) := fun n => match n with
  | 0 => some [0, 1, 4, 5, 6, 7, 8, 9, 13, 14, 15, 16, 17, 18, 19, 20, 21, 22, 23, 24, 25, 26, 27, 28, 29, 30, 31]
  | _ => none
theorem run_of_own (l : List Int) (off base n : Nat) (lim : Option Nat) : specW Try.prog d_of_own (cS6 Try.prog) (h_of_own l off base n lim) 1000 9 [(.sl 0 off base n 1 lim)] [(⟨(.nums .u8 l), .own, false⟩ : Blk)] (fun v M => v = (.nums .u8 (B32 (V (seg l off (Nat.min n 64)) % 7237005577332262213973186563042994240857116359379907606001950938285454250989))) ∧ M = [(⟨(.nums .u8 l), .own, false⟩ : Blk)]) =
  ((AV.int .i64 (if (64 : Int) < (Int.ofNat n) then 64 else (Int.ofNat n))) = (AV.int .i64 (Int.ofNat (Nat.min n 64))) ∧ (1 = 1 ∧ inB (Int.ofNat (Nat.min n 64)) n = some (Nat.min n 64)) ∧ (bif Nat.blt (Nat.min n 64) 1000 then (x_of_own l off base n lim [0, 0, 0, 0, 0, 0, 0, 0] 0 = x_of_own l off base n lim (W8 (V (seg l off 0))) 0 ∧ (∀ k0, k0 < (Nat.min n 64) → ((AV.bool (decide ((Int.ofNat k0) < (Int.ofNat (Nat.min n 64))))) = (AV.bool true) ∧ (1 = 1 ∧ inR (Int.ofNat k0) (Nat.min n 64) = some k0) ∧ ((off + k0 * 1) < l.length) ∧ (AV.int .i64 (IntKind.i64.wrap (Int.tdiv (Int.ofNat k0) 8))) = (AV.int .i64 (Int.ofNat (k0 / 8))) ∧ (inR (Int.ofNat (k0 / 8)) 8 = some (k0 / 8)) ∧ ((0 + (k0 / 8) * 1) < (W8 (V (seg l off k0))).length) ∧ (AV.int .i64 (Int.tmod (Int.ofNat k0) 8)) = (AV.int .i64 (Int.ofNat (k0 % 8))) ∧ (AV.int .i64 (IntKind.i64.wrap ((8 : Int) * (Int.ofNat (k0 % 8))))) = (AV.int .i64 (Int.ofNat (8 * (k0 % 8)))) ∧ (inR (Int.ofNat (k0 / 8)) 8 = some (k0 / 8)) ∧ (IntKind.u64 = IntKind.u64 ∧ 1 = 1 ∧ (0 + (k0 / 8) * 1) < (W8 (V (seg l off k0))).length) ∧ (AV.int .i64 (IntKind.i64.wrap ((Int.ofNat k0) + (1 : Int)))) = (AV.int .i64 (Int.ofNat (k0 + 1))) ∧ x_of_own l off base n lim ((W8 (V (seg l off k0))).set (0 + (k0 / 8) * 1) (IntKind.u64.wrap ((BitVec.ofInt 64 ((W8 (V (seg l off k0))).getD (0 + (k0 / 8) * 1) 0) ||| BitVec.ofInt 64 (IntKind.u64.wrap ((IntKind.u64.wrap (l.getD (off + k0 * 1) 0)) * 2 ^ (Nat.min (8 * (k0 % 8)) 64)))).toNat))) (k0 + 1) = x_of_own l off base n lim (W8 (V (seg l off (k0 + 1)))) (k0 + 1))) ∧ (AV.bool (decide ((Int.ofNat (Nat.min n 64)) < (Int.ofNat (Nat.min n 64))))) = (AV.bool false) ∧ (Ws 8 (W8 (V (seg l off (Nat.min n 64))))) ∧ (IntKind.u8 = IntKind.u8 ∧ 0 = 0 ∧ (B32 (Wv (W8 (V (seg l off (Nat.min n 64)))) % 7237005577332262213973186563042994240857116359379907606001950938285454250989)).length = 32 ∧ ([0, 0, 0, 0, 0, 0, 0, 0, 0, 0, 0, 0, 0, 0, 0, 0, 0, 0, 0, 0, 0, 0, 0, 0, 0, 0, 0, 0, 0, 0, 0, 0] : List Int).length = 32) ∧ ((AV.nums .u8 (B32 (Wv (W8 (V (seg l off (Nat.min n 64)))) % 7237005577332262213973186563042994240857116359379907606001950938285454250989))) = (AV.nums .u8 (B32 (V (seg l off (Nat.min n 64)) % 7237005577332262213973186563042994240857116359379907606001950938285454250989))) ∧ ([(⟨(.nums .u8 l), .own, false⟩ : Blk)] : Mem) = [(⟨(.nums .u8 l), .own, false⟩ : Blk)])) else False)) := by kernel_rfl
theorem of_own_ok {l : List Int} {off base n : Nat} {lim : Option Nat} (h : Bys l) (hl : off + n ≤ l.length) : ∃ D H N, specW Try.prog D (cS6 Try.prog) H N 9 [(.sl 0 off base n 1 lim)] [(⟨(.nums .u8 l), .own, false⟩ : Blk)] fun v M => v = (.nums .u8 (B32 (V (seg l off (Nat.min n 64)) % 7237005577332262213973186563042994240857116359379907606001950938285454250989))) ∧ M = [(⟨(.nums .u8 l), .own, false⟩ : Blk)] := by
  have hm1 : Nat.min n 64 ≤ n := Nat.min_le_left _ _
  have hm2 : Nat.min n 64 ≤ 64 := Nat.min_le_right _ _
  have bifT : ∀ {b : Bool} {A : Prop}, b = true → A → bif b then A else False := bifT
  refine ⟨d_of_own, _, 1000, Eq.mpr (run_of_own l off base n lim) ⟨aI (min64 n), ⟨rfl, inB_ok (by omega)⟩, (bifT (by simpa using (show (Nat.min n 64) < 1000 by omega)) ⟨?_, fun k0 hk0 => ⟨aB (lt_ok hk0), ⟨rfl, inR_ok (by omega)⟩, (by omega), aI (quo8 k0 (by omega)), inR_ok (by omega), (by rw [W8_len]; omega), rfl, aI (mul8 (by omega)), inR_ok (by omega), ⟨rfl, rfl, (by rw [W8_len]; omega)⟩, aI (inc_ok (by omega)), ?_⟩, aB (lt_no (by omega)), Ws_W8 _, ⟨rfl, rfl, B32_len _, rfl⟩, ⟨?_, rfl⟩⟩)⟩⟩
  · refine congrArg (fun X => x_of_own l off base n lim X (0)) ?_
    rw [show seg l off 0 = [] from List.take_zero]; decide
  · exact congrArg (fun X => x_of_own l off base n lim X (k0 + 1)) (of_step (n := n) (by omega) hl (by omega) h)
  · rw [Wv_W8 _ ?_]
    refine Nat.lt_of_lt_of_le (V_lt (seg_by h)) ?_
    rw [seg_len (by omega)]
    exact Nat.le_trans (Nat.pow_le_pow_right (by omega) (by omega : _ ≤ 64)) (by decide)
def x_of_grow (l : List Int) (off base n : Nat) (lim : Option Nat) (X : List Int) (k : Nat) : St := ⟨[.junk, .junk, (.ptr 1 0), (.ptr 2 0), .junk, .junk, .junk, .junk, .junk, .junk, (.sl 0 off base (Nat.min n 64) 1 lim), (.int .i64 (Int.ofNat (Nat.min n 64))), (.int .i64 (Int.ofNat k)), .junk, .junk, .junk, .junk, .junk, .junk, .junk, .junk, .junk, .junk, .junk, .junk, .junk, .junk, .junk, .junk, .junk, .junk, .junk], [⟨(.nums .u8 l), .grow, false⟩, ⟨(.nums .u8 (List.replicate 32 0)), .own, false⟩, ⟨(.nums .u64 X), .own, (!(Nat.beq k 0))⟩]⟩
def h_of_grow (l : List Int) (off base n : Nat) (lim : Option Nat) : Hints := ⟨fun it t => match t, it with
  | 9, [] => some (.val (.int .i64 (Int.ofNat (Nat.min n 64))))
  | 10, [] => some .ask
  | 13, [some k0] => some (.val (.bool true))
  | 15, [some k0] => some .ask
  | 16, [some k0] => some .ask
  | 18, [some k0] => some (.val (.int .i64 (Int.ofNat (k0 / 8))))
  | 19, [some k0] => some .ask
  | 20, [some k0] => some .ask
  | 24, [some k0] => some (.val (.int .i64 (Int.ofNat (k0 % 8))))
  | 25, [some k0] => some (.val (.int .i64 (Int.ofNat (8 * (k0 % 8)))))
  | 28, [some k0] => some .ask
  | 100028, [some k0] => some .ask
  | 29, [some k0] => some (.val (.int .i64 (Int.ofNat (k0 + 1))))
  | 13, [none] => some (.val (.bool false))
  | 100002, [] => some .ask
  | _, _ => none, fun it id => match id, it with
  | 0, [] => some ⟨(Nat.min n 64), true, fun kk => x_of_grow l off base n lim (W8 (V (seg l off kk))) kk⟩
  | _, _ => none⟩
def d_of_grow : Nat → Option (List Nat) := fun n => match n with
  | 0 => some [0, 1, 4, 5, 6, 7, 8, 9, 13, 14, 15, 16, 17, 18, 19, 20, 21, 22, 23, 24, 25, 26, 27, 28, 29, 30, 31]
  | _ => none
theorem run_of_grow (l : List Int) (off base n : Nat) (lim : Option Nat) : specW Try.prog d_of_grow (cS6 Try.prog) (h_of_grow l off base n lim) 1000 9 [(.sl 0 off base n 1 lim)] [(⟨(.nums .u8 l), .grow, false⟩ : Blk)] (fun v M => v = (.nums .u8 (B32 (V (seg l off (Nat.min n 64)) % 7237005577332262213973186563042994240857116359379907606001950938285454250989))) ∧ M = [(⟨(.nums .u8 l), .grow, false⟩ : Blk)]) =
  ((AV.int .i64 (if (64 : Int) < (Int.ofNat n) then 64 else (Int.ofNat n))) = (AV.int .i64 (Int.ofNat (Nat.min n 64))) ∧ (1 = 1 ∧ inB (Int.ofNat (Nat.min n 64)) n = some (Nat.min n 64)) ∧ (bif Nat.blt (Nat.min n 64) 1000 then (x_of_grow l off base n lim [0, 0, 0, 0, 0, 0, 0, 0] 0 = x_of_grow l off base n lim (W8 (V (seg l off 0))) 0 ∧ (∀ k0, k0 < (Nat.min n 64) → ((AV.bool (decide ((Int.ofNat k0) < (Int.ofNat (Nat.min n 64))))) = (AV.bool true) ∧ (1 = 1 ∧ inR (Int.ofNat k0) (Nat.min n 64) = some k0) ∧ ((off + k0 * 1) < l.length) ∧ (AV.int .i64 (IntKind.i64.wrap (Int.tdiv (Int.ofNat k0) 8))) = (AV.int .i64 (Int.ofNat (k0 / 8))) ∧ (inR (Int.ofNat (k0 / 8)) 8 = some (k0 / 8)) ∧ ((0 + (k0 / 8) * 1) < (W8 (V (seg l off k0))).length) ∧ (AV.int .i64 (Int.tmod (Int.ofNat k0) 8)) = (AV.int .i64 (Int.ofNat (k0 % 8))) ∧ (AV.int .i64 (IntKind.i64.wrap ((8 : Int) * (Int.ofNat (k0 % 8))))) = (AV.int .i64 (Int.ofNat (8 * (k0 % 8)))) ∧ (inR (Int.ofNat (k0 / 8)) 8 = some (k0 / 8)) ∧ (IntKind.u64 = IntKind.u64 ∧ 1 = 1 ∧ (0 + (k0 / 8) * 1) < (W8 (V (seg l off k0))).length) ∧ (AV.int .i64 (IntKind.i64.wrap ((Int.ofNat k0) + (1 : Int)))) = (AV.int .i64 (Int.ofNat (k0 + 1))) ∧ x_of_grow l off base n lim ((W8 (V (seg l off k0))).set (0 + (k0 / 8) * 1) (IntKind.u64.wrap ((BitVec.ofInt 64 ((W8 (V (seg l off k0))).getD (0 + (k0 / 8) * 1) 0) ||| BitVec.ofInt 64 (IntKind.u64.wrap ((IntKind.u64.wrap (l.getD (off + k0 * 1) 0)) * 2 ^ (Nat.min (8 * (k0 % 8)) 64)))).toNat))) (k0 + 1) = x_of_grow l off base n lim (W8 (V (seg l off (k0 + 1)))) (k0 + 1))) ∧ (AV.bool (decide ((Int.ofNat (Nat.min n 64)) < (Int.ofNat (Nat.min n 64))))) = (AV.bool false) ∧ (Ws 8 (W8 (V (seg l off (Nat.min n 64))))) ∧ (IntKind.u8 = IntKind.u8 ∧ 0 = 0 ∧ (B32 (Wv (W8 (V (seg l off (Nat.min n 64)))) % 7237005577332262213973186563042994240857116359379907606001950938285454250989)).length = 32 ∧ ([0, 0, 0, 0, 0, 0, 0, 0, 0, 0, 0, 0, 0, 0, 0, 0, 0, 0, 0, 0, 0, 0, 0, 0, 0, 0, 0, 0, 0, 0, 0, 0] : List Int).length = 32) ∧ ((AV.nums .u8 (B32 (Wv (W8 (V (seg l off (Nat.min n 64)))) % 7237005577332262213973186563042994240857116359379907606001950938285454250989))) = (AV.nums .u8 (B32 (V (seg l off (Nat.min n 64)) % 7237005577332262213973186563042994240857116359379907606001950938285454250989))) ∧ ([(⟨(.nums .u8 l), .grow, false⟩ : Blk)] : Mem) = [(⟨(.nums .u8 l), .grow, false⟩ : Blk)])) else False)) := by kernel_rfl
theorem of_grow_ok {l : List Int} {off base n : Nat} {lim : Option Nat} (h : Bys l) (hl : off + n ≤ l.length) : ∃ D H N, specW Try.prog D (cS6 Try.prog) H N 9 [(.sl 0 off base n 1 lim)] [(⟨(.nums .u8 l), .grow, false⟩ : Blk)] fun v M => v = (.nums .u8 (B32 (V (seg l off (Nat.min n 64)) % 7237005577332262213973186563042994240857116359379907606001950938285454250989))) ∧ M = [(⟨(.nums .u8 l), .grow, false⟩ : Blk)] := by
  have hm1 : Nat.min n 64 ≤ n := Nat.min_le_left _ _
  have hm2 : Nat.min n 64 ≤ 64 := Nat.min_le_right _ _
  have bifT : ∀ {b : Bool} {A : Prop}, b = true → A → bif b then A else False := bifT
  refine ⟨d_of_grow, _, 1000, Eq.mpr (run_of_grow l off base n lim) ⟨aI (min64 n), ⟨rfl, inB_ok (by omega)⟩, (bifT (by simpa using (show (Nat.min n 64) < 1000 by omega)) ⟨?_, fun k0 hk0 => ⟨aB (lt_ok hk0), ⟨rfl, inR_ok (by omega)⟩, (by omega), aI (quo8 k0 (by omega)), inR_ok (by omega), (by rw [W8_len]; omega), rfl, aI (mul8 (by omega)), inR_ok (by omega), ⟨rfl, rfl, (by rw [W8_len]; omega)⟩, aI (inc_ok (by omega)), ?_⟩, aB (lt_no (by omega)), Ws_W8 _, ⟨rfl, rfl, B32_len _, rfl⟩, ⟨?_, rfl⟩⟩)⟩⟩
  · refine congrArg (fun X => x_of_grow l off base n lim X (0)) ?_
    rw [show seg l off 0 = [] from List.take_zero]; decide
  · exact congrArg (fun X => x_of_grow l off base n lim X (k0 + 1)) (of_step (n := n) (by omega) hl (by omega) h)
  · rw [Wv_W8 _ ?_]
    refine Nat.lt_of_lt_of_le (V_lt (seg_by h)) ?_
    rw [seg_len (by omega)]
    exact Nat.le_trans (Nat.pow_le_pow_right (by omega) (by omega : _ ≤ 64)) (by decide)
def x_of_at (l : List Int) (off base n o : Nat) (lim : Option Nat) (X : List Int) (k : Nat) : St := ⟨[.junk, .junk, (.ptr 1 0), (.ptr 2 0), .junk, .junk, .junk, .junk, .junk, .junk, (.sl 0 off base (Nat.min n 64) 1 lim), (.int .i64 (Int.ofNat (Nat.min n 64))), (.int .i64 (Int.ofNat k)), .junk, .junk, .junk, .junk, .junk, .junk, .junk, .junk, .junk, .junk, .junk, .junk, .junk, .junk, .junk, .junk, .junk, .junk, .junk], [⟨(.at o (.nums .u8 l)), .ro, false⟩, ⟨(.nums .u8 (List.replicate 32 0)), .own, false⟩, ⟨(.nums .u64 X), .own, (!(Nat.beq k 0))⟩]⟩
def h_of_at (l : List Int) (off base n o : Nat) (lim : Option Nat) : Hints := ⟨fun it t => match t, it with
  | 9, [] => some (.val (.int .i64 (Int.ofNat (Nat.min n 64))))
  | 10, [] => some .ask
  | 13, [some k0] => some (.val (.bool true))
  | 15, [some k0] => some .ask
  | 16, [some k0] => some (.askv (.int .u8 (l.getD ((off - o) + k0 * 1) 0)))
  | 18, [some k0] => some (.val (.int .i64 (Int.ofNat (k0 / 8))))
  | 19, [some k0] => some .ask
  | 20, [some k0] => some .ask
  | 24, [some k0] => some (.val (.int .i64 (Int.ofNat (k0 % 8))))
  | 25, [some k0] => some (.val (.int .i64 (Int.ofNat (8 * (k0 % 8)))))
  | 28, [some k0] => some .ask
  | 100028, [some k0] => some .ask
  | 29, [some k0] => some (.val (.int .i64 (Int.ofNat (k0 + 1))))
  | 13, [none] => some (.val (.bool false))
  | 100002, [] => some .ask
  | _, _ => none, fun it id => match id, it with
  | 0, [] => some ⟨(Nat.min n 64), true, fun kk => x_of_at l off base n o lim (W8 (V (seg l (off - o) kk))) kk⟩
  | _, _ => none⟩
def d_of_at : Nat → Option (List Nat) := fun n => match n with
  | 0 => some [0, 1, 4, 5, 6, 7, 8, 9, 13, 14, 15, 16, 17, 18, 19, 20, 21, 22, 23, 24, 25, 26, 27, 28, 29, 30, 31]
  | _ => none
theorem run_of_at (l : List Int) (off base n o : Nat) (lim : Option Nat) : specW Try.prog d_of_at (cS6 Try.prog) (h_of_at l off base n o lim) 1000 9 [(.sl 0 off base n 1 lim)] [(⟨(.at o (.nums .u8 l)), .ro, false⟩ : Blk)] (fun v M => v = (.nums .u8 (B32 (V (seg l (off - o) (Nat.min n 64)) % 7237005577332262213973186563042994240857116359379907606001950938285454250989))) ∧ M = [(⟨(.at o (.nums .u8 l)), .ro, false⟩ : Blk)]) =
  ((AV.int .i64 (if (64 : Int) < (Int.ofNat n) then 64 else (Int.ofNat n))) = (AV.int .i64 (Int.ofNat (Nat.min n 64))) ∧ (1 = 1 ∧ inB (Int.ofNat (Nat.min n 64)) n = some (Nat.min n 64)) ∧ (bif Nat.blt (Nat.min n 64) 1000 then (x_of_at l off base n o lim [0, 0, 0, 0, 0, 0, 0, 0] 0 = x_of_at l off base n o lim (W8 (V (seg l (off - o) 0))) 0 ∧ (∀ k0, k0 < (Nat.min n 64) → ((AV.bool (decide ((Int.ofNat k0) < (Int.ofNat (Nat.min n 64))))) = (AV.bool true) ∧ (1 = 1 ∧ inR (Int.ofNat k0) (Nat.min n 64) = some k0) ∧ (o ≤ (off + k0 * 1) ∧ (off + k0 * 1) - o < l.length) ∧ (AV.int .u8 (l.getD ((off + k0 * 1) - o) 0)) = (AV.int .u8 (l.getD ((off - o) + k0 * 1) 0)) ∧ (AV.int .i64 (IntKind.i64.wrap (Int.tdiv (Int.ofNat k0) 8))) = (AV.int .i64 (Int.ofNat (k0 / 8))) ∧ (inR (Int.ofNat (k0 / 8)) 8 = some (k0 / 8)) ∧ ((0 + (k0 / 8) * 1) < (W8 (V (seg l (off - o) k0))).length) ∧ (AV.int .i64 (Int.tmod (Int.ofNat k0) 8)) = (AV.int .i64 (Int.ofNat (k0 % 8))) ∧ (AV.int .i64 (IntKind.i64.wrap ((8 : Int) * (Int.ofNat (k0 % 8))))) = (AV.int .i64 (Int.ofNat (8 * (k0 % 8)))) ∧ (inR (Int.ofNat (k0 / 8)) 8 = some (k0 / 8)) ∧ (IntKind.u64 = IntKind.u64 ∧ 1 = 1 ∧ (0 + (k0 / 8) * 1) < (W8 (V (seg l (off - o) k0))).length) ∧ (AV.int .i64 (IntKind.i64.wrap ((Int.ofNat k0) + (1 : Int)))) = (AV.int .i64 (Int.ofNat (k0 + 1))) ∧ x_of_at l off base n o lim ((W8 (V (seg l (off - o) k0))).set (0 + (k0 / 8) * 1) (IntKind.u64.wrap ((BitVec.ofInt 64 ((W8 (V (seg l (off - o) k0))).getD (0 + (k0 / 8) * 1) 0) ||| BitVec.ofInt 64 (IntKind.u64.wrap ((IntKind.u64.wrap (l.getD ((off - o) + k0 * 1) 0)) * 2 ^ (Nat.min (8 * (k0 % 8)) 64)))).toNat))) (k0 + 1) = x_of_at l off base n o lim (W8 (V (seg l (off - o) (k0 + 1)))) (k0 + 1))) ∧ (AV.bool (decide ((Int.ofNat (Nat.min n 64)) < (Int.ofNat (Nat.min n 64))))) = (AV.bool false) ∧ (Ws 8 (W8 (V (seg l (off - o) (Nat.min n 64))))) ∧ (IntKind.u8 = IntKind.u8 ∧ 0 = 0 ∧ (B32 (Wv (W8 (V (seg l (off - o) (Nat.min n 64)))) % 7237005577332262213973186563042994240857116359379907606001950938285454250989)).length = 32 ∧ ([0, 0, 0, 0, 0, 0, 0, 0, 0, 0, 0, 0, 0, 0, 0, 0, 0, 0, 0, 0, 0, 0, 0, 0, 0, 0, 0, 0, 0, 0, 0, 0] : List Int).length = 32) ∧ ((AV.nums .u8 (B32 (Wv (W8 (V (seg l (off - o) (Nat.min n 64)))) % 7237005577332262213973186563042994240857116359379907606001950938285454250989))) = (AV.nums .u8 (B32 (V (seg l (off - o) (Nat.min n 64)) % 7237005577332262213973186563042994240857116359379907606001950938285454250989))) ∧ ([(⟨(.at o (.nums .u8 l)), .ro, false⟩ : Blk)] : Mem) = [(⟨(.at o (.nums .u8 l)), .ro, false⟩ : Blk)])) else False)) := by kernel_rfl
theorem of_at_ok {l : List Int} {off base n o : Nat} {lim : Option Nat} (h : Bys l) (ho : o ≤ off) (hl : (off - o) + n ≤ l.length) : ∃ D H N, specW Try.prog D (cS6 Try.prog) H N 9 [(.sl 0 off base n 1 lim)] [(⟨(.at o (.nums .u8 l)), .ro, false⟩ : Blk)] fun v M => v = (.nums .u8 (B32 (V (seg l (off - o) (Nat.min n 64)) % 7237005577332262213973186563042994240857116359379907606001950938285454250989))) ∧ M = [(⟨(.at o (.nums .u8 l)), .ro, false⟩ : Blk)] := by
  have hm1 : Nat.min n 64 ≤ n := Nat.min_le_left _ _
  have hm2 : Nat.min n 64 ≤ 64 := Nat.min_le_right _ _
  have bifT : ∀ {b : Bool} {A : Prop}, b = true → A → bif b then A else False := bifT
  refine ⟨d_of_at, _, 1000, Eq.mpr (run_of_at l off base n o lim) ⟨aI (min64 n), ⟨rfl, inB_ok (by omega)⟩, (bifT (by simpa using (show (Nat.min n 64) < 1000 by omega)) ⟨?_, fun k0 hk0 => ⟨aB (lt_ok hk0), ⟨rfl, inR_ok (by omega)⟩, ⟨(by omega), (by omega)⟩, aI (by rw [show (off + k0 * 1) - o = (off - o) + k0 * 1 by omega]), aI (quo8 k0 (by omega)), inR_ok (by omega), (by rw [W8_len]; omega), rfl, aI (mul8 (by omega)), inR_ok (by omega), ⟨rfl, rfl, (by rw [W8_len]; omega)⟩, aI (inc_ok (by omega)), ?_⟩, aB (lt_no (by omega)), Ws_W8 _, ⟨rfl, rfl, B32_len _, rfl⟩, ⟨?_, rfl⟩⟩)⟩⟩
  · refine congrArg (fun X => x_of_at l off base n o lim X (0)) ?_
    rw [show seg l (off - o) 0 = [] from List.take_zero]; decide
  · exact congrArg (fun X => x_of_at l off base n o lim X (k0 + 1)) (of_step (n := n) (by omega) hl (by omega) h)
  · rw [Wv_W8 _ ?_]
    refine Nat.lt_of_lt_of_le (V_lt (seg_by h)) ?_
    rw [seg_len (by omega)]
    exact Nat.le_trans (Nat.pow_le_pow_right (by omega) (by omega : _ ≤ 64)) (by decide)
def x_ofrA_ro (l : List Int) (off base n : Nat) (lim : Option Nat) (X : List Int) (k : Nat) : St := ⟨[(.sl 0 off base n 1 lim), .junk, (.ptr 1 0), (.ptr 2 0), (.int .i64 (Int.ofNat k)), .junk, .junk, .junk, .junk, .junk, .junk, .junk, .junk, .junk, .junk, .junk, .junk, .junk, .junk, .junk, .junk, .junk, .junk, .junk, .junk, .junk, .junk, .junk, .junk, .junk, .junk, .junk, .junk], [⟨(.nums .u8 l), .ro, false⟩, ⟨(.nums .u8 (List.replicate 32 0)), .own, false⟩, ⟨(.nums .u64 X), .own, (!(Nat.beq k 0))⟩]⟩
def h_ofrA_ro (l : List Int) (off base n : Nat) (lim : Option Nat) : Hints := ⟨fun it t => match t, it with
  | 8, [some k0] => some (.val (.bool true))
  | 11, [some k0] => some (.val (.bool true))
  | 16, [some k0] => some (.val (.int .i64 (Int.ofNat (k0 / 8))))
  | 17, [some k0] => some .ask
  | 18, [some k0] => some .ask
  | 21, [some k0] => some .ask
  | 22, [some k0] => some .ask
  | 25, [some k0] => some (.val (.int .i64 (Int.ofNat (k0 % 8))))
  | 26, [some k0] => some (.val (.int .i64 (Int.ofNat (8 * (k0 % 8)))))
  | 29, [some k0] => some .ask
  | 100029, [some k0] => some .ask
  | 14, [some k0] => some (.val (.int .i64 (Int.ofNat (k0 + 1))))
  | 8, [none] => some (.val (.bool false))
  | 30, [] => some .ask
  | 100002, [] => some .ask
  | _, _ => none, fun it id => match id, it with
  | 0, [] => some ⟨n, true, fun kk => x_ofrA_ro l off base n lim (W8 (V (seg l off kk))) kk⟩
  | _, _ => none⟩
def d_ofrA_ro : Nat → Option (List Nat) := fun n => match n with
  | 0 => some [1, 5, 6, 7, 8, 9, 10, 11, 12, 13, 14, 15, 16, 17, 18, 19, 20, 21, 22, 23, 24, 25, 26, 27, 28, 29, 30, 31, 32]
  | _ => none
theorem run_ofrA_ro (l : List Int) (off base n : Nat) (lim : Option Nat) : specW Try.prog d_ofrA_ro (cS6 Try.prog) (h_ofrA_ro l off base n lim) 1000 17 [(.sl 0 off base n 1 lim)] [(⟨(.nums .u8 l), .ro, false⟩ : Blk)] (fun v M => v = (.nums .u8 (B32 (V (seg l off n) % 7237005577332262213973186563042994240857116359379907606001950938285454250989))) ∧ M = [(⟨(.nums .u8 l), .ro, false⟩ : Blk)]) =
  (bif Nat.blt n 1000 then (x_ofrA_ro l off base n lim [0, 0, 0, 0, 0, 0, 0, 0] 0 = x_ofrA_ro l off base n lim (W8 (V (seg l off 0))) 0 ∧ (∀ k0, k0 < n → ((AV.bool (decide ((Int.ofNat k0) < (Int.ofNat n)))) = (AV.bool true) ∧ (AV.bool (decide ((Int.ofNat k0) < 64))) = (AV.bool true) ∧ (AV.int .i64 (IntKind.i64.wrap (Int.tdiv (Int.ofNat k0) 8))) = (AV.int .i64 (Int.ofNat (k0 / 8))) ∧ (inR (Int.ofNat (k0 / 8)) 8 = some (k0 / 8)) ∧ ((0 + (k0 / 8) * 1) < (W8 (V (seg l off k0))).length) ∧ (1 = 1 ∧ inR (Int.ofNat k0) n = some k0) ∧ ((off + k0 * 1) < l.length) ∧ (AV.int .i64 (Int.tmod (Int.ofNat k0) 8)) = (AV.int .i64 (Int.ofNat (k0 % 8))) ∧ (AV.int .i64 (IntKind.i64.wrap ((8 : Int) * (Int.ofNat (k0 % 8))))) = (AV.int .i64 (Int.ofNat (8 * (k0 % 8)))) ∧ (inR (Int.ofNat (k0 / 8)) 8 = some (k0 / 8)) ∧ (IntKind.u64 = IntKind.u64 ∧ 1 = 1 ∧ (0 + (k0 / 8) * 1) < (W8 (V (seg l off k0))).length) ∧ (AV.int .i64 (IntKind.i64.wrap ((Int.ofNat k0) + (1 : Int)))) = (AV.int .i64 (Int.ofNat (k0 + 1))) ∧ x_ofrA_ro l off base n lim ((W8 (V (seg l off k0))).set (0 + (k0 / 8) * 1) (IntKind.u64.wrap ((BitVec.ofInt 64 ((W8 (V (seg l off k0))).getD (0 + (k0 / 8) * 1) 0) ||| BitVec.ofInt 64 (IntKind.u64.wrap ((IntKind.u64.wrap (l.getD (off + k0 * 1) 0)) * 2 ^ (Nat.min (8 * (k0 % 8)) 64)))).toNat))) (k0 + 1) = x_ofrA_ro l off base n lim (W8 (V (seg l off (k0 + 1)))) (k0 + 1))) ∧ (AV.bool (decide ((Int.ofNat n) < (Int.ofNat n)))) = (AV.bool false) ∧ (0 = 0 ∧ (W8 (V (seg l off n))).length = 8) ∧ (Ws 8 (W8 (V (seg l off n)))) ∧ (In4 (w0 (Wv (W8 (V (seg l off n))) % 7237005577332262213973186563042994240857116359379907606001950938285454250989)) (w1 (Wv (W8 (V (seg l off n))) % 7237005577332262213973186563042994240857116359379907606001950938285454250989)) (w2 (Wv (W8 (V (seg l off n))) % 7237005577332262213973186563042994240857116359379907606001950938285454250989)) (w3 (Wv (W8 (V (seg l off n))) % 7237005577332262213973186563042994240857116359379907606001950938285454250989))) ∧ (IntKind.u8 = IntKind.u8 ∧ 0 = 0 ∧ (B32 (V4 (w0 (Wv (W8 (V (seg l off n))) % 7237005577332262213973186563042994240857116359379907606001950938285454250989)) (w1 (Wv (W8 (V (seg l off n))) % 7237005577332262213973186563042994240857116359379907606001950938285454250989)) (w2 (Wv (W8 (V (seg l off n))) % 7237005577332262213973186563042994240857116359379907606001950938285454250989)) (w3 (Wv (W8 (V (seg l off n))) % 7237005577332262213973186563042994240857116359379907606001950938285454250989)))).length = 32 ∧ ([0, 0, 0, 0, 0, 0, 0, 0, 0, 0, 0, 0, 0, 0, 0, 0, 0, 0, 0, 0, 0, 0, 0, 0, 0, 0, 0, 0, 0, 0, 0, 0] : List Int).length = 32) ∧ ((AV.nums .u8 (B32 (V4 (w0 (Wv (W8 (V (seg l off n))) % 7237005577332262213973186563042994240857116359379907606001950938285454250989)) (w1 (Wv (W8 (V (seg l off n))) % 7237005577332262213973186563042994240857116359379907606001950938285454250989)) (w2 (Wv (W8 (V (seg l off n))) % 7237005577332262213973186563042994240857116359379907606001950938285454250989)) (w3 (Wv (W8 (V (seg l off n))) % 7237005577332262213973186563042994240857116359379907606001950938285454250989))))) = (AV.nums .u8 (B32 (V (seg l off n) % 7237005577332262213973186563042994240857116359379907606001950938285454250989))) ∧ ([(⟨(.nums .u8 l), .ro, false⟩ : Blk)] : Mem) = [(⟨(.nums .u8 l), .ro, false⟩ : Blk)])) else False) := by kernel_rfl
theorem ofrA_ro_ok {l : List Int} {off base n : Nat} {lim : Option Nat} (h : Bys l) (hl : off + n ≤ l.length) (hn : n ≤ 64) : ∃ D H N, specW Try.prog D (cS6 Try.prog) H N 17 [(.sl 0 off base n 1 lim)] [(⟨(.nums .u8 l), .ro, false⟩ : Blk)] fun v M => v = (.nums .u8 (B32 (V (seg l off n) % 7237005577332262213973186563042994240857116359379907606001950938285454250989))) ∧ M = [(⟨(.nums .u8 l), .ro, false⟩ : Blk)] := by
  skip
  refine ⟨d_ofrA_ro, _, 1000, Eq.mpr (run_ofrA_ro l off base n lim) (bifT (by simpa using (show n < 1000 by omega)) ⟨?_, fun k0 hk0 => ⟨aB (lt_ok (by omega)), aB (lt_ok (b := 64) (by omega)), aI (quo8 k0 (by omega)), inR_ok (by omega), (by rw [W8_len]; omega), ⟨rfl, inR_ok (by omega)⟩, (by omega), rfl, aI (mul8 (by omega)), inR_ok (by omega), ⟨rfl, rfl, (by rw [W8_len]; omega)⟩, aI (inc_ok (by omega)), ?_⟩, aB (lt_no (by omega)), ⟨rfl, W8_len _⟩, Ws_W8 _, In4_w _, ⟨rfl, rfl, B32_len _, rfl⟩, ⟨?_, rfl⟩⟩)⟩
  · refine congrArg (fun X => x_ofrA_ro l off base n lim X (0)) ?_
    rw [show seg l off 0 = [] from List.take_zero]; decide
  · exact congrArg (fun X => x_ofrA_ro l off base n lim X (k0 + 1)) (of_step (n := n) (by omega) hl (by omega) h)
  · rw [Wv_W8 _ ?_, V4_mod, mLB]
    refine Nat.lt_of_lt_of_le (V_lt (seg_by h)) ?_
    rw [seg_len (by omega)]
    exact Nat.le_trans (Nat.pow_le_pow_right (by omega) (by omega : _ ≤ 64)) (by decide)
def x_ofrB_ro (l : List Int) (off base n : Nat) (lim : Option Nat) (X : List Int) (k : Nat) : St := ⟨[(.sl 0 off base n 1 lim), .junk, (.ptr 1 0), (.ptr 2 0), (.int .i64 (Int.ofNat k)), .junk, .junk, .junk, .junk, .junk, .junk, .junk, .junk, .junk, .junk, .junk, .junk, .junk, .junk, .junk, .junk, .junk, .junk, .junk, .junk, .junk, .junk, .junk, .junk, .junk, .junk, .junk, .junk], [⟨(.nums .u8 l), .ro, false⟩, ⟨(.nums .u8 (List.replicate 32 0)), .own, false⟩, ⟨(.nums .u64 X), .own, (!(Nat.beq k 0))⟩]⟩
def h_ofrB_ro (l : List Int) (off base n : Nat) (lim : Option Nat) : Hints := ⟨fun it t => match t, it with
  | 8, [some k0] => some (.val (.bool true))
  | 11, [some k0] => some (.val (.bool true))
  | 16, [some k0] => some (.val (.int .i64 (Int.ofNat (k0 / 8))))
  | 17, [some k0] => some .ask
  | 18, [some k0] => some .ask
  | 21, [some k0] => some .ask
  | 22, [some k0] => some .ask
  | 25, [some k0] => some (.val (.int .i64 (Int.ofNat (k0 % 8))))
  | 26, [some k0] => some (.val (.int .i64 (Int.ofNat (8 * (k0 % 8)))))
  | 29, [some k0] => some .ask
  | 100029, [some k0] => some .ask
  | 14, [some k0] => some (.val (.int .i64 (Int.ofNat (k0 + 1))))
  | 8, [none] => some (.val (.bool true))
  | 11, [none] => some (.val (.bool false))
  | 30, [] => some .ask
  | 100002, [] => some .ask
  | _, _ => none, fun it id => match id, it with
  | 0, [] => some ⟨64, true, fun kk => x_ofrB_ro l off base n lim (W8 (V (seg l off kk))) kk⟩
  | _, _ => none⟩
def d_ofrB_ro : Nat → Option (List Nat) := fun n => match n with
  | 0 => some [1, 5, 6, 7, 8, 9, 10, 11, 12, 13, 14, 15, 16, 17, 18, 19, 20, 21, 22, 23, 24, 25, 26, 27, 28, 29, 30, 31, 32]
  | _ => none
theorem run_ofrB_ro (l : List Int) (off base n : Nat) (lim : Option Nat) : specW Try.prog d_ofrB_ro (cS6 Try.prog) (h_ofrB_ro l off base n lim) 1000 17 [(.sl 0 off base n 1 lim)] [(⟨(.nums .u8 l), .ro, false⟩ : Blk)] (fun v M => v = (.nums .u8 (B32 (V (seg l off 64) % 7237005577332262213973186563042994240857116359379907606001950938285454250989))) ∧ M = [(⟨(.nums .u8 l), .ro, false⟩ : Blk)]) =
  (x_ofrB_ro l off base n lim [0, 0, 0, 0, 0, 0, 0, 0] 0 = x_ofrB_ro l off base n lim (W8 (V (seg l off 0))) 0 ∧ (∀ k0, k0 < 64 → ((AV.bool (decide ((Int.ofNat k0) < (Int.ofNat n)))) = (AV.bool true) ∧ (AV.bool (decide ((Int.ofNat k0) < 64))) = (AV.bool true) ∧ (AV.int .i64 (IntKind.i64.wrap (Int.tdiv (Int.ofNat k0) 8))) = (AV.int .i64 (Int.ofNat (k0 / 8))) ∧ (inR (Int.ofNat (k0 / 8)) 8 = some (k0 / 8)) ∧ ((0 + (k0 / 8) * 1) < (W8 (V (seg l off k0))).length) ∧ (1 = 1 ∧ inR (Int.ofNat k0) n = some k0) ∧ ((off + k0 * 1) < l.length) ∧ (AV.int .i64 (Int.tmod (Int.ofNat k0) 8)) = (AV.int .i64 (Int.ofNat (k0 % 8))) ∧ (AV.int .i64 (IntKind.i64.wrap ((8 : Int) * (Int.ofNat (k0 % 8))))) = (AV.int .i64 (Int.ofNat (8 * (k0 % 8)))) ∧ (inR (Int.ofNat (k0 / 8)) 8 = some (k0 / 8)) ∧ (IntKind.u64 = IntKind.u64 ∧ 1 = 1 ∧ (0 + (k0 / 8) * 1) < (W8 (V (seg l off k0))).length) ∧ (AV.int .i64 (IntKind.i64.wrap ((Int.ofNat k0) + (1 : Int)))) = (AV.int .i64 (Int.ofNat (k0 + 1))) ∧ x_ofrB_ro l off base n lim ((W8 (V (seg l off k0))).set (0 + (k0 / 8) * 1) (IntKind.u64.wrap ((BitVec.ofInt 64 ((W8 (V (seg l off k0))).getD (0 + (k0 / 8) * 1) 0) ||| BitVec.ofInt 64 (IntKind.u64.wrap ((IntKind.u64.wrap (l.getD (off + k0 * 1) 0)) * 2 ^ (Nat.min (8 * (k0 % 8)) 64)))).toNat))) (k0 + 1) = x_ofrB_ro l off base n lim (W8 (V (seg l off (k0 + 1)))) (k0 + 1))) ∧ (AV.bool (decide ((Int.ofNat 64) < (Int.ofNat n)))) = (AV.bool true) ∧ (AV.bool (decide ((Int.ofNat 64) < 64))) = (AV.bool false) ∧ (0 = 0 ∧ (W8 (V (seg l off 64))).length = 8) ∧ (Ws 8 (W8 (V (seg l off 64)))) ∧ (In4 (w0 (Wv (W8 (V (seg l off 64))) % 7237005577332262213973186563042994240857116359379907606001950938285454250989)) (w1 (Wv (W8 (V (seg l off 64))) % 7237005577332262213973186563042994240857116359379907606001950938285454250989)) (w2 (Wv (W8 (V (seg l off 64))) % 7237005577332262213973186563042994240857116359379907606001950938285454250989)) (w3 (Wv (W8 (V (seg l off 64))) % 7237005577332262213973186563042994240857116359379907606001950938285454250989))) ∧ (IntKind.u8 = IntKind.u8 ∧ 0 = 0 ∧ (B32 (V4 (w0 (Wv (W8 (V (seg l off 64))) % 7237005577332262213973186563042994240857116359379907606001950938285454250989)) (w1 (Wv (W8 (V (seg l off 64))) % 7237005577332262213973186563042994240857116359379907606001950938285454250989)) (w2 (Wv (W8 (V (seg l off 64))) % 7237005577332262213973186563042994240857116359379907606001950938285454250989)) (w3 (Wv (W8 (V (seg l off 64))) % 7237005577332262213973186563042994240857116359379907606001950938285454250989)))).length = 32 ∧ ([0, 0, 0, 0, 0, 0, 0, 0, 0, 0, 0, 0, 0, 0, 0, 0, 0, 0, 0, 0, 0, 0, 0, 0, 0, 0, 0, 0, 0, 0, 0, 0] : List Int).length = 32) ∧ ((AV.nums .u8 (B32 (V4 (w0 (Wv (W8 (V (seg l off 64))) % 7237005577332262213973186563042994240857116359379907606001950938285454250989)) (w1 (Wv (W8 (V (seg l off 64))) % 7237005577332262213973186563042994240857116359379907606001950938285454250989)) (w2 (Wv (W8 (V (seg l off 64))) % 7237005577332262213973186563042994240857116359379907606001950938285454250989)) (w3 (Wv (W8 (V (seg l off 64))) % 7237005577332262213973186563042994240857116359379907606001950938285454250989))))) = (AV.nums .u8 (B32 (V (seg l off 64) % 7237005577332262213973186563042994240857116359379907606001950938285454250989))) ∧ ([(⟨(.nums .u8 l), .ro, false⟩ : Blk)] : Mem) = [(⟨(.nums .u8 l), .ro, false⟩ : Blk)])) := by kernel_rfl
theorem ofrB_ro_ok {l : List Int} {off base n : Nat} {lim : Option Nat} (h : Bys l) (hl : off + n ≤ l.length) (hn : 64 < n) : ∃ D H N, specW Try.prog D (cS6 Try.prog) H N 17 [(.sl 0 off base n 1 lim)] [(⟨(.nums .u8 l), .ro, false⟩ : Blk)] fun v M => v = (.nums .u8 (B32 (V (seg l off 64) % 7237005577332262213973186563042994240857116359379907606001950938285454250989))) ∧ M = [(⟨(.nums .u8 l), .ro, false⟩ : Blk)] := by
  skip
  refine ⟨d_ofrB_ro, _, 1000, Eq.mpr (run_ofrB_ro l off base n lim) ⟨?_, fun k0 hk0 => ⟨aB (lt_ok (by omega)), aB (lt_ok (b := 64) (by omega)), aI (quo8 k0 (by omega)), inR_ok (by omega), (by rw [W8_len]; omega), ⟨rfl, inR_ok (by omega)⟩, (by omega), rfl, aI (mul8 (by omega)), inR_ok (by omega), ⟨rfl, rfl, (by rw [W8_len]; omega)⟩, aI (inc_ok (by omega)), ?_⟩, aB (lt_ok (by omega)), rfl, ⟨rfl, W8_len _⟩, Ws_W8 _, In4_w _, ⟨rfl, rfl, B32_len _, rfl⟩, ⟨?_, rfl⟩⟩⟩
  · refine congrArg (fun X => x_ofrB_ro l off base n lim X (0)) ?_
    rw [show seg l off 0 = [] from List.take_zero]; decide
  · exact congrArg (fun X => x_ofrB_ro l off base n lim X (k0 + 1)) (of_step (n := n) (by omega) hl (by omega) h)
  · rw [Wv_W8 _ ?_, V4_mod, mLB]
    refine Nat.lt_of_lt_of_le (V_lt (seg_by h)) ?_
    rw [seg_len (by omega)]
    exact Nat.le_trans (Nat.pow_le_pow_right (by omega) (by omega : _ ≤ 64)) (by decide)
theorem ofr_ro_ok {l : List Int} {off base n : Nat} {lim : Option Nat} (h : Bys l) (hl : off + n ≤ l.length) : ∃ D H N, specW Try.prog D (cS6 Try.prog) H N 17 [(.sl 0 off base n 1 lim)] [(⟨(.nums .u8 l), .ro, false⟩ : Blk)] fun v M => v = (.nums .u8 (B32 (V (seg l off (Nat.min n 64)) % 7237005577332262213973186563042994240857116359379907606001950938285454250989))) ∧ M = [(⟨(.nums .u8 l), .ro, false⟩ : Blk)] := by
  by_cases hn : n ≤ 64
  · rw [show Nat.min n 64 = n from Nat.min_eq_left hn]; exact ofrA_ro_ok h hl hn
  · rw [show Nat.min n 64 = 64 from Nat.min_eq_right (by omega)]; exact ofrB_ro_ok h hl (by omega)
def x_ofrA_own (l : List Int) (off base n : Nat) (lim : Option Nat) (X : List Int) (k : Nat) : St := ⟨[(.sl 0 off base n 1 lim), .junk, (.ptr 1 0), (.ptr 2 0), (.int .i64 (Int.ofNat k)), .junk, .junk, .junk, .junk, .junk, .junk, .junk, .junk, .junk, .junk, .junk, .junk, .junk, .junk, .junk, .junk, .junk, .junk, .junk, .junk, .junk, .junk, .junk, .junk, .junk, .junk, .junk, .junk], [⟨(.nums .u8 l), .own, false⟩, ⟨(.nums .u8 (List.replicate 32 0)), .own, false⟩, ⟨(.nums .u64 X), .own, (!(Nat.beq k 0))⟩]⟩
def h_ofrA_own (l : List Int) (off base n : Nat) (lim : Option Nat) : Hints := ⟨fun it t => match t, it with
  | 8, [some k0] => some (.val (.bool true))
  | 11, [some k0] => some (.val (.bool true))
  | 16, [some k0] => some (.val (.int .i64 (Int.ofNat (k0 / 8))))
  | 17, [some k0] => some .ask
  | 18, [some k0] => some .ask
  | 21, [some k0] => some .ask
  | 22, [some k0] => some .ask
  | 25, [some k0] => some (.val (.int .i64 (Int.ofNat (k0 % 8))))
  | 26, [some k0] => some (.val (.int .i64 (Int.ofNat (8 * (k0 % 8)))))
  | 29, [some k0] => some .ask
  | 100029, [some k0] => some .ask
  | 14, [some k0] => some (.val (.int .i64 (Int.ofNat (k0 + 1))))
  | 8, [none] => some (.val (.bool false))
  | 30, [] => some .ask
  | 100002, [] => some .ask
  | _, _ => none, fun it id => match id, it with
  | 0, [] => some ⟨n, true, fun kk => x_ofrA_own l off base n lim (W8 (V (seg l off kk))) kk⟩
  | _, _ => none⟩
def d_ofrA_own : Nat → Option (List Nat) := fun n => match n with
  | 0 => some [1, 5, 6, 7, 8, 9, 10, 11, 12, 13, 14, 15, 16, 17, 18, 19, 20, 21, 22, 23, 24, 25, 26, 27, 28, 29, 30, 31, 32]
  | _ => none
theorem run_ofrA_own (l : List Int) (off base n : Nat) (lim : Option Nat) : specW Try.prog d_ofrA_own (cS6 Try.prog) (h_ofrA_own l off base n lim) 1000 17 [(.sl 0 off base n 1 lim)] [(⟨(.nums .u8 l), .own, false⟩ : Blk)] (fun v M => v = (.nums .u8 (B32 (V (seg l off n) % 7237005577332262213973186563042994240857116359379907606001950938285454250989))) ∧ M = [(⟨(.nums .u8 l), .own, false⟩ : Blk)]) =
  (bif Nat.blt n 1000 then (x_ofrA_own l off base n lim [0, 0, 0, 0, 0, 0, 0, 0] 0 = x_ofrA_own l off base n lim (W8 (V (seg l off 0))) 0 ∧ (∀ k0, k0 < n → ((AV.bool (decide ((Int.ofNat k0) < (Int.ofNat n)))) = (AV.bool true) ∧ (AV.bool (decide ((Int.ofNat k0) < 64))) = (AV.bool true) ∧ (AV.int .i64 (IntKind.i64.wrap (Int.tdiv (Int.ofNat k0) 8))) = (AV.int .i64 (Int.ofNat (k0 / 8))) ∧ (inR (Int.ofNat (k0 / 8)) 8 = some (k0 / 8)) ∧ ((0 + (k0 / 8) * 1) < (W8 (V (seg l off k0))).length) ∧ (1 = 1 ∧ inR (Int.ofNat k0) n = some k0) ∧ ((off + k0 * 1) < l.length) ∧ (AV.int .i64 (Int.tmod (Int.ofNat k0) 8)) = (AV.int .i64 (Int.ofNat (k0 % 8))) ∧ (AV.int .i64 (IntKind.i64.wrap ((8 : Int) * (Int.ofNat (k0 % 8))))) = (AV.int .i64 (Int.ofNat (8 * (k0 % 8)))) ∧ (inR (Int.ofNat (k0 / 8)) 8 = some (k0 / 8)) ∧ (IntKind.u64 = IntKind.u64 ∧ 1 = 1 ∧ (0 + (k0 / 8) * 1) < (W8 (V (seg l off k0))).length) ∧ (AV.int .i64 (IntKind.i64.wrap ((Int.ofNat k0) + (1 : Int)))) = (AV.int .i64 (Int.ofNat (k0 + 1))) ∧ x_ofrA_own l off base n lim ((W8 (V (seg l off k0))).set (0 + (k0 / 8) * 1) (IntKind.u64.wrap ((BitVec.ofInt 64 ((W8 (V (seg l off k0))).getD (0 + (k0 / 8) * 1) 0) ||| BitVec.ofInt 64 (IntKind.u64.wrap ((IntKind.u64.wrap (l.getD (off + k0 * 1) 0)) * 2 ^ (Nat.min (8 * (k0 % 8)) 64)))).toNat))) (k0 + 1) = x_ofrA_own l off base n lim (W8 (V (seg l off (k0 + 1)))) (k0 + 1))) ∧ (AV.bool (decide ((Int.ofNat n) < (Int.ofNat n)))) = (AV.bool false) ∧ (0 = 0 ∧ (W8 (V (seg l off n))).length = 8) ∧ (Ws 8 (W8 (V (seg l off n)))) ∧ (In4 (w0 (Wv (W8 (V (seg l off n))) % 7237005577332262213973186563042994240857116359379907606001950938285454250989)) (w1 (Wv (W8 (V (seg l off n))) % 7237005577332262213973186563042994240857116359379907606001950938285454250989)) (w2 (Wv (W8 (V (seg l off n))) % 7237005577332262213973186563042994240857116359379907606001950938285454250989)) (w3 (Wv (W8 (V (seg l off n))) % 7237005577332262213973186563042994240857116359379907606001950938285454250989))) ∧ (IntKind.u8 = IntKind.u8 ∧ 0 = 0 ∧ (B32 (V4 (w0 (Wv (W8 (V (seg l off n))) % 7237005577332262213973186563042994240857116359379907606001950938285454250989)) (w1 (Wv (W8 (V (seg l off n))) % 7237005577332262213973186563042994240857116359379907606001950938285454250989)) (w2 (Wv (W8 (V (seg l off n))) % 7237005577332262213973186563042994240857116359379907606001950938285454250989)) (w3 (Wv (W8 (V (seg l off n))) % 7237005577332262213973186563042994240857116359379907606001950938285454250989)))).length = 32 ∧ ([0, 0, 0, 0, 0, 0, 0, 0, 0, 0, 0, 0, 0, 0, 0, 0, 0, 0, 0, 0, 0, 0, 0, 0, 0, 0, 0, 0, 0, 0, 0, 0] : List Int).length = 32) ∧ ((AV.nums .u8 (B32 (V4 (w0 (Wv (W8 (V (seg l off n))) % 7237005577332262213973186563042994240857116359379907606001950938285454250989)) (w1 (Wv (W8 (V (seg l off n))) % 7237005577332262213973186563042994240857116359379907606001950938285454250989)) (w2 (Wv (W8 (V (seg l off n))) % 7237005577332262213973186563042994240857116359379907606001950938285454250989)) (w3 (Wv (W8 (V (seg l off n))) % 7237005577332262213973186563042994240857116359379907606001950938285454250989))))) = (AV.nums .u8 (B32 (V (seg l off n) % 7237005577332262213973186563042994240857116359379907606001950938285454250989))) ∧ ([(⟨(.nums .u8 l), .own, false⟩ : Blk)] : Mem) = [(⟨(.nums .u8 l), .own, false⟩ : Blk)])) else False) := by kernel_rfl
theorem ofrA_own_ok {l : List Int} {off base n : Nat} {lim : Option Nat} (h : Bys l) (hl : off + n ≤ l.length) (hn : n ≤ 64) : ∃ D H N, specW Try.prog D (cS6 Try.prog) H N 17 [(.sl 0 off base n 1 lim)] [(⟨(.nums .u8 l), .own, false⟩ : Blk)] fun v M => v = (.nums .u8 (B32 (V (seg l off n) % 7237005577332262213973186563042994240857116359379907606001950938285454250989))) ∧ M = [(⟨(.nums .u8 l), .own, false⟩ : Blk)] := by
  skip
  refine ⟨d_ofrA_own, _, 1000, Eq.mpr (run_ofrA_own l off base n lim) (bifT (by simpa using (show n < 1000 by omega)) ⟨?_, fun k0 hk0 => ⟨aB (lt_ok (by omega)), aB (lt_ok (b := 64) (by omega)), aI (quo8 k0 (by omega)), inR_ok (by omega), (by rw [W8_len]; omega), ⟨rfl, inR_ok (by omega)⟩, (by omega), rfl, aI (mul8 (by omega)), inR_ok (by omega), ⟨rfl, rfl, (by rw [W8_len]; omega)⟩, aI (inc_ok (by omega)), ?_⟩, aB (lt_no (by omega)), ⟨rfl, W8_len _⟩, Ws_W8 _, In4_w _, ⟨rfl, rfl, B32_len _, rfl⟩, ⟨?_, rfl⟩⟩)⟩
  · refine congrArg (fun X => x_ofrA_own l off base n lim X (0)) ?_
    rw [show seg l off 0 = [] from List.take_zero]; decide
  · exact congrArg (fun X => x_ofrA_own l off base n lim X (k0 + 1)) (of_step (n := n) (by omega) hl (by omega) h)
  · rw [Wv_W8 _ ?_, V4_mod, mLB]
    refine Nat.lt_of_lt_of_le (V_lt (seg_by h)) ?_
    rw [seg_len (by omega)]
    exact Nat.le_trans (Nat.pow_le_pow_right (by omega) (by omega : _ ≤ 64)) (by decide)
def x_ofrB_own (l : List Int) (off base n : Nat) (lim : Option Nat) (X : List Int) (k : Nat) : St := ⟨[(.sl 0 off base n 1 lim), .junk, (.ptr 1 0), (.ptr 2 0), (.int .i64 (Int.ofNat k)), .junk, .junk, .junk, .junk, .junk, .junk, .junk, .junk, .junk, .junk, .junk, .junk, .junk, .junk, .junk, .junk, .junk, .junk, .junk, .junk, .junk, .junk, .junk, .junk, .junk, .junk, .junk, .junk], [⟨(.nums .u8 l), .own, false⟩, ⟨(.nums .u8 (List.replicate 32 0)), .own, false⟩, ⟨(.nums .u64 X), .own, (!(Nat.beq k 0))⟩]⟩
def h_ofrB_own (l : List Int) (off base n : Nat) (lim : Option Nat) : Hints := ⟨fun it t => match t, it with
  | 8, [some k0] => some (.val (.bool true))
  | 11, [some k0] => some (.val (.bool true))
  | 16, [some k0] => some (.val (.int .i64 (Int.ofNat (k0 / 8))))
  | 17, [some k0] => some .ask
  | 18, [some k0] => some .ask
  | 21, [some k0] => some .ask
  | 22, [some k0] => some .ask
  | 25, [some k0] => some (.val (.int .i64 (Int.ofNat (k0 % 8))))
  | 26, [some k0] => some (.val (.int .i64 (Int.ofNat (8 * (k0 % 8)))))
  | 29, [some k0] => some .ask
  | 100029, [some k0] => some .ask
  | 14, [some k0] => some (.val (.int .i64 (Int.ofNat (k0 + 1))))
  | 8, [none] => some (.val (.bool true))
  | 11, [none] => some (.val (.bool false))
  | 30, [] => some .ask
  | 100002, [] => some .ask
  | _, _ => none, fun it id => match id, it with
  | 0, [] => some ⟨64, true, fun kk => x_ofrB_own l off base n lim (W8 (V (seg l off kk))) kk⟩
  | _, _ => none⟩
def d_ofrB_own : Nat → Option (List Nat) := fun n => match n with
  | 0 => some [1, 5, 6, 7, 8, 9, 10, 11, 12, 13, 14, 15, 16, 17, 18, 19, 20, 21, 22, 23, 24, 25, 26, 27, 28, 29, 30, 31, 32]
  | _ => none
theorem run_ofrB_own (l : List Int) (off base n : Nat) (lim : Option Nat) : specW Try.prog d_ofrB_own (cS6 Try.prog) (h_ofrB_own l off base n lim) 1000 17 [(.sl 0 off base n 1 lim)] [(⟨(.nums .u8 l), .own, false⟩ : Blk)] (fun v M => v = (.nums .u8 (B32 (V (seg l off 64) % 7237005577332262213973186563042994240857116359379907606001950938285454250989))) ∧ M = [(⟨(.nums .u8 l), .own, false⟩ : Blk)]) =
  (x_ofrB_own l off base n lim [0, 0, 0, 0, 0, 0, 0, 0] 0 = x_ofrB_own l off base n lim (W8 (V (seg l off 0))) 0 ∧ (∀ k0, k0 < 64 → ((AV.bool (decide ((Int.ofNat k0) < (Int.ofNat n)))) = (AV.bool true) ∧ (AV.bool (decide ((Int.ofNat k0) < 64))) = (AV.bool true) ∧ (AV.int .i64 (IntKind.i64.wrap (Int.tdiv (Int.ofNat k0) 8))) = (AV.int .i64 (Int.ofNat (k0 / 8))) ∧ (inR (Int.ofNat (k0 / 8)) 8 = some (k0 / 8)) ∧ ((0 + (k0 / 8) * 1) < (W8 (V (seg l off k0))).length) ∧ (1 = 1 ∧ inR (Int.ofNat k0) n = some k0) ∧ ((off + k0 * 1) < l.length) ∧ (AV.int .i64 (Int.tmod (Int.ofNat k0) 8)) = (AV.int .i64 (Int.ofNat (k0 % 8))) ∧ (AV.int .i64 (IntKind.i64.wrap ((8 : Int) * (Int.ofNat (k0 % 8))))) = (AV.int .i64 (Int.ofNat (8 * (k0 % 8)))) ∧ (inR (Int.ofNat (k0 / 8)) 8 = some (k0 / 8)) ∧ (IntKind.u64 = IntKind.u64 ∧ 1 = 1 ∧ (0 + (k0 / 8) * 1) < (W8 (V (seg l off k0))).length) ∧ (AV.int .i64 (IntKind.i64.wrap ((Int.ofNat k0) + (1 : Int)))) = (AV.int .i64 (Int.ofNat (k0 + 1))) ∧ x_ofrB_own l off base n lim ((W8 (V (seg l off k0))).set (0 + (k0 / 8) * 1) (IntKind.u64.wrap ((BitVec.ofInt 64 ((W8 (V (seg l off k0))).getD (0 + (k0 / 8) * 1) 0) ||| BitVec.ofInt 64 (IntKind.u64.wrap ((IntKind.u64.wrap (l.getD (off + k0 * 1) 0)) * 2 ^ (Nat.min (8 * (k0 % 8)) 64)))).toNat))) (k0 + 1) = x_ofrB_own l off base n lim (W8 (V (seg l off (k0 + 1)))) (k0 + 1))) ∧ (AV.bool (decide ((Int.ofNat 64) < (Int.ofNat n)))) = (AV.bool true) ∧ (AV.bool (decide ((Int.ofNat 64) < 64))) = (AV.bool false) ∧ (0 = 0 ∧ (W8 (V (seg l off 64))).length = 8) ∧ (Ws 8 (W8 (V (seg l off 64)))) ∧ (In4 (w0 (Wv (W8 (V (seg l off 64))) % 7237005577332262213973186563042994240857116359379907606001950938285454250989)) (w1 (Wv (W8 (V (seg l off 64))) % 7237005577332262213973186563042994240857116359379907606001950938285454250989)) (w2 (Wv (W8 (V (seg l off 64))) % 7237005577332262213973186563042994240857116359379907606001950938285454250989)) (w3 (Wv (W8 (V (seg l off 64))) % 7237005577332262213973186563042994240857116359379907606001950938285454250989))) ∧ (IntKind.u8 = IntKind.u8 ∧ 0 = 0 ∧ (B32 (V4 (w0 (Wv (W8 (V (seg l off 64))) % 7237005577332262213973186563042994240857116359379907606001950938285454250989)) (w1 (Wv (W8 (V (seg l off 64))) % 7237005577332262213973186563042994240857116359379907606001950938285454250989)) (w2 (Wv (W8 (V (seg l off 64))) % 7237005577332262213973186563042994240857116359379907606001950938285454250989)) (w3 (Wv (W8 (V (seg l off 64))) % 7237005577332262213973186563042994240857116359379907606001950938285454250989)))).length = 32 ∧ ([0, 0, 0, 0, 0, 0, 0, 0, 0, 0, 0, 0, 0, 0, 0, 0, 0, 0, 0, 0, 0, 0, 0, 0, 0, 0, 0, 0, 0, 0, 0, 0] : List Int).length = 32) ∧ ((AV.nums .u8 (B32 (V4 (w0 (Wv (W8 (V (seg l off 64))) % 7237005577332262213973186563042994240857116359379907606001950938285454250989)) (w1 (Wv (W8 (V (seg l off 64))) % 7237005577332262213973186563042994240857116359379907606001950938285454250989)) (w2 (Wv (W8 (V (seg l off 64))) % 7237005577332262213973186563042994240857116359379907606001950938285454250989)) (w3 (Wv (W8 (V (seg l off 64))) % 7237005577332262213973186563042994240857116359379907606001950938285454250989))))) = (AV.nums .u8 (B32 (V (seg l off 64) % 7237005577332262213973186563042994240857116359379907606001950938285454250989))) ∧ ([(⟨(.nums .u8 l), .own, false⟩ : Blk)] : Mem) = [(⟨(.nums .u8 l), .own, false⟩ : Blk)])) := by kernel_rfl
theorem ofrB_own_ok {l : List Int} {off base n : Nat} {lim : Option Nat} (h : Bys l) (hl : off + n ≤ l.length) (hn : 64 < n) : ∃ D H N, specW Try.prog D (cS6 Try.prog) H N 17 [(.sl 0 off base n 1 lim)] [(⟨(.nums .u8 l), .own, false⟩ : Blk)] fun v M => v = (.nums .u8 (B32 (V (seg l off 64) % 7237005577332262213973186563042994240857116359379907606001950938285454250989))) ∧ M = [(⟨(.nums .u8 l), .own, false⟩ : Blk)] := by
  skip
  refine ⟨d_ofrB_own, _, 1000, Eq.mpr (run_ofrB_own l off base n lim) ⟨?_, fun k0 hk0 => ⟨aB (lt_ok (by omega)), aB (lt_ok (b := 64) (by omega)), aI (quo8 k0 (by omega)), inR_ok (by omega), (by rw [W8_len]; omega), ⟨rfl, inR_ok (by omega)⟩, (by omega), rfl, aI (mul8 (by omega)), inR_ok (by omega), ⟨rfl, rfl, (by rw [W8_len]; omega)⟩, aI (inc_ok (by omega)), ?_⟩, aB (lt_ok (by omega)), rfl, ⟨rfl, W8_len _⟩, Ws_W8 _, In4_w _, ⟨rfl, rfl, B32_len _, rfl⟩, ⟨?_, rfl⟩⟩⟩
  · refine congrArg (fun X => x_ofrB_own l off base n lim X (0)) ?_
    rw [show seg l off 0 = [] from List.take_zero]; decide
  · exact congrArg (fun X => x_ofrB_own l off base n lim X (k0 + 1)) (of_step (n := n) (by omega) hl (by omega) h)
  · rw [Wv_W8 _ ?_, V4_mod, mLB]
    refine Nat.lt_of_lt_of_le (V_lt (seg_by h)) ?_
    rw [seg_len (by omega)]
    exact Nat.le_trans (Nat.pow_le_pow_right (by omega) (by omega : _ ≤ 64)) (by decide)
theorem ofr_own_ok {l : List Int} {off base n : Nat} {lim : Option Nat} (h : Bys l) (hl : off + n ≤ l.length) : ∃ D H N, specW Try.prog D (cS6 Try.prog) H N 17 [(.sl 0 off base n 1 lim)] [(⟨(.nums .u8 l), .own, false⟩ : Blk)] fun v M => v = (.nums .u8 (B32 (V (seg l off (Nat.min n 64)) % 7237005577332262213973186563042994240857116359379907606001950938285454250989))) ∧ M = [(⟨(.nums .u8 l), .own, false⟩ : Blk)] := by
  by_cases hn : n ≤ 64
  · rw [show Nat.min n 64 = n from Nat.min_eq_left hn]; exact ofrA_own_ok h hl hn
  · rw [show Nat.min n 64 = 64 from Nat.min_eq_right (by omega)]; exact ofrB_own_ok h hl (by omega)
def x_ofrA_grow (l : List Int) (off base n : Nat) (lim : Option Nat) (X : List Int) (k : Nat) : St := ⟨[(.sl 0 off base n 1 lim), .junk, (.ptr 1 0), (.ptr 2 0), (.int .i64 (Int.ofNat k)), .junk, .junk, .junk, .junk, .junk, .junk, .junk, .junk, .junk, .junk, .junk, .junk, .junk, .junk, .junk, .junk, .junk, .junk, .junk, .junk, .junk, .junk, .junk, .junk, .junk, .junk, .junk, .junk], [⟨(.nums .u8 l), .grow, false⟩, ⟨(.nums .u8 (List.replicate 32 0)), .own, false⟩, ⟨(.nums .u64 X), .own, (!(Nat.beq k 0))⟩]⟩
def h_ofrA_grow (l : List Int) (off base n : Nat) (lim : Option Nat) : Hints := ⟨fun it t => match t, it with
  | 8, [some k0] => some (.val (.bool true))
  | 11, [some k0] => some (.val (.bool true))
  | 16, [some k0] => some (.val (.int .i64 (Int.ofNat (k0 / 8))))
  | 17, [some k0] => some .ask
  | 18, [some k0] => some .ask
  | 21, [some k0] => some .ask
  | 22, [some k0] => some .ask
  | 25, [some k0] => some (.val (.int .i64 (Int.ofNat (k0 % 8))))
  | 26, [some k0] => some (.val (.int .i64 (Int.ofNat (8 * (k0 % 8)))))
  | 29, [some k0] => some .ask
  | 100029, [some k0] => some .ask
  | 14, [some k0] => some (.val (.int .i64 (Int.ofNat (k0 + 1))))
  | 8, [none] => some (.val (.bool false))
  | 30, [] => some .ask
  | 100002, [] => some .ask
  | _, _ => none, fun it id => match id, it with
  | 0, [] => some ⟨n, true, fun kk => x_ofrA_grow l off base n lim (W8 (V (seg l off kk))) kk⟩
  | _, _ => none⟩
def d_ofrA_grow : Nat → Option (List Nat) := fun n => match n with
  | 0 => some [1, 5, 6, 7, 8, 9, 10, 11, 12, 13, 14, 15, 16, 17, 18, 19, 20, 21, 22, 23, 24, 25, 26, 27, 28, 29, 30, 31, 32]
  | _ => none
theorem run_ofrA_grow (l : List Int) (off base n : Nat) (lim : Option Nat) : specW Try.prog d_ofrA_grow (cS6 Try.prog) (h_ofrA_grow l off base n lim) 1000 17 [(.sl 0 off base n 1 lim)] [(⟨(.nums .u8 l), .grow, false⟩ : Blk)] (fun v M => v = (.nums .u8 (B32 (V (seg l off n) % 7237005577332262213973186563042994240857116359379907606001950938285454250989))) ∧ M = [(⟨(.nums .u8 l), .grow, false⟩ : Blk)]) =
  (bif Nat.blt n 1000 then (x_ofrA_grow l off base n lim [0, 0, 0, 0, 0, 0, 0, 0] 0 = x_ofrA_grow l off base n lim (W8 (V (seg l off 0))) 0 ∧ (∀ k0, k0 < n → ((AV.bool (decide ((Int.ofNat k0) < (Int.ofNat n)))) = (AV.bool true) ∧ (AV.bool (decide ((Int.ofNat k0) < 64))) = (AV.bool true) ∧ (AV.int .i64 (IntKind.i64.wrap (Int.tdiv (Int.ofNat k0) 8))) = (AV.int .i64 (Int.ofNat (k0 / 8))) ∧ (inR (Int.ofNat (k0 / 8)) 8 = some (k0 / 8)) ∧ ((0 + (k0 / 8) * 1) < (W8 (V (seg l off k0))).length) ∧ (1 = 1 ∧ inR (Int.ofNat k0) n = some k0) ∧ ((off + k0 * 1) < l.length) ∧ (AV.int .i64 (Int.tmod (Int.ofNat k0) 8)) = (AV.int .i64 (Int.ofNat (k0 % 8))) ∧ (AV.int .i64 (IntKind.i64.wrap ((8 : Int) * (Int.ofNat (k0 % 8))))) = (AV.int .i64 (Int.ofNat (8 * (k0 % 8)))) ∧ (inR (Int.ofNat (k0 / 8)) 8 = some (k0 / 8)) ∧ (IntKind.u64 = IntKind.u64 ∧ 1 = 1 ∧ (0 + (k0 / 8) * 1) < (W8 (V (seg l off k0))).length) ∧ (AV.int .i64 (IntKind.i64.wrap ((Int.ofNat k0) + (1 : Int)))) = (AV.int .i64 (Int.ofNat (k0 + 1))) ∧ x_ofrA_grow l off base n lim ((W8 (V (seg l off k0))).set (0 + (k0 / 8) * 1) (IntKind.u64.wrap ((BitVec.ofInt 64 ((W8 (V (seg l off k0))).getD (0 + (k0 / 8) * 1) 0) ||| BitVec.ofInt 64 (IntKind.u64.wrap ((IntKind.u64.wrap (l.getD (off + k0 * 1) 0)) * 2 ^ (Nat.min (8 * (k0 % 8)) 64)))).toNat))) (k0 + 1) = x_ofrA_grow l off base n lim (W8 (V (seg l off (k0 + 1)))) (k0 + 1))) ∧ (AV.bool (decide ((Int.ofNat n) < (Int.ofNat n)))) = (AV.bool false) ∧ (0 = 0 ∧ (W8 (V (seg l off n))).length = 8) ∧ (Ws 8 (W8 (V (seg l off n)))) ∧ (In4 (w0 (Wv (W8 (V (seg l off n))) % 7237005577332262213973186563042994240857116359379907606001950938285454250989)) (w1 (Wv (W8 (V (seg l off n))) % 7237005577332262213973186563042994240857116359379907606001950938285454250989)) (w2 (Wv (W8 (V (seg l off n))) % 7237005577332262213973186563042994240857116359379907606001950938285454250989)) (w3 (Wv (W8 (V (seg l off n))) % 7237005577332262213973186563042994240857116359379907606001950938285454250989))) ∧ (IntKind.u8 = IntKind.u8 ∧ 0 = 0 ∧ (B32 (V4 (w0 (Wv (W8 (V (seg l off n))) % 7237005577332262213973186563042994240857116359379907606001950938285454250989)) (w1 (Wv (W8 (V (seg l off n))) % 7237005577332262213973186563042994240857116359379907606001950938285454250989)) (w2 (Wv (W8 (V (seg l off n))) % 7237005577332262213973186563042994240857116359379907606001950938285454250989)) (w3 (Wv (W8 (V (seg l off n))) % 7237005577332262213973186563042994240857116359379907606001950938285454250989)))).length = 32 ∧ ([0, 0, 0, 0, 0, 0, 0, 0, 0, 0, 0, 0, 0, 0, 0, 0, 0, 0, 0, 0, 0, 0, 0, 0, 0, 0, 0, 0, 0, 0, 0, 0] : List Int).length = 32) ∧ ((AV.nums .u8 (B32 (V4 (w0 (Wv (W8 (V (seg l off n))) % 7237005577332262213973186563042994240857116359379907606001950938285454250989)) (w1 (Wv (W8 (V (seg l off n))) % 7237005577332262213973186563042994240857116359379907606001950938285454250989)) (w2 (Wv (W8 (V (seg l off n))) % 7237005577332262213973186563042994240857116359379907606001950938285454250989)) (w3 (Wv (W8 (V (seg l off n))) % 7237005577332262213973186563042994240857116359379907606001950938285454250989))))) = (AV.nums .u8 (B32 (V (seg l off n) % 7237005577332262213973186563042994240857116359379907606001950938285454250989))) ∧ ([(⟨(.nums .u8 l), .grow, false⟩ : Blk)] : Mem) = [(⟨(.nums .u8 l), .grow, false⟩ : Blk)])) else False) := by kernel_rfl
theorem ofrA_grow_ok {l : List Int} {off base n : Nat} {lim : Option Nat} (h : Bys l) (hl : off + n ≤ l.length) (hn : n ≤ 64) : ∃ D H N, specW Try.prog D (cS6 Try.prog) H N 17 [(.sl 0 off base n 1 lim)] [(⟨(.nums .u8 l), .grow, false⟩ : Blk)] fun v M => v = (.nums .u8 (B32 (V (seg l off n) % 7237005577332262213973186563042994240857116359379907606001950938285454250989))) ∧ M = [(⟨(.nums .u8 l), .grow, false⟩ : Blk)] := by
  skip
  refine ⟨d_ofrA_grow, _, 1000, Eq.mpr (run_ofrA_grow l off base n lim) (bifT (by simpa using (show n < 1000 by omega)) ⟨?_, fun k0 hk0 => ⟨aB (lt_ok (by omega)), aB (lt_ok (b := 64) (by omega)), aI (quo8 k0 (by omega)), inR_ok (by omega), (by rw [W8_len]; omega), ⟨rfl, inR_ok (by omega)⟩, (by omega), rfl, aI (mul8 (by omega)), inR_ok (by omega), ⟨rfl, rfl, (by rw [W8_len]; omega)⟩, aI (inc_ok (by omega)), ?_⟩, aB (lt_no (by omega)), ⟨rfl, W8_len _⟩, Ws_W8 _, In4_w _, ⟨rfl, rfl, B32_len _, rfl⟩, ⟨?_, rfl⟩⟩)⟩
  · refine congrArg (fun X => x_ofrA_grow l off base n lim X (0)) ?_
    rw [show seg l off 0 = [] from List.take_zero]; decide
  · exact congrArg (fun X => x_ofrA_grow l off base n lim X (k0 + 1)) (of_step (n := n) (by omega) hl (by omega) h)
  · rw [Wv_W8 _ ?_, V4_mod, mLB]
    refine Nat.lt_of_lt_of_le (V_lt (seg_by h)) ?_
    rw [seg_len (by omega)]
    exact Nat.le_trans (Nat.pow_le_pow_right (by omega) (by omega : _ ≤ 64)) (by decide)
def x_ofrB_grow (l : List Int) (off base n : Nat) (lim : Option Nat) (X : List Int) (k : Nat) : St := ⟨[(.sl 0 off base n 1 lim), .junk, (.ptr 1 0), (.ptr 2 0), (.int .i64 (Int.ofNat k)), .junk, .junk, .junk, .junk, .junk, .junk, .junk, .junk, .junk, .junk, .junk, .junk, .junk, .junk, .junk, .junk, .junk, .junk, .junk, .junk, .junk, .junk, .junk, .junk, .junk, .junk, .junk, .junk], [⟨(.nums .u8 l), .grow, false⟩, ⟨(.nums .u8 (List.replicate 32 0)), .own, false⟩, ⟨(.nums .u64 X), .own, (!(Nat.beq k 0))⟩]⟩
def h_ofrB_grow (l : List Int) (off base n : Nat) (lim : Option Nat) : Hints := ⟨fun it t => match t, it with
  | 8, [some k0] => some (.val (.bool true))
  | 11, [some k0] => some (.val (.bool true))
  | 16, [some k0] => some (.val (.int .i64 (Int.ofNat (k0 / 8))))
  | 17, [some k0] => some .ask
  | 18, [some k0] => some .ask
  | 21, [some k0] => some .ask
  | 22, [some k0] => some .ask
  | 25, [some k0] => some (.val (.int .i64 (Int.ofNat (k0 % 8))))
  | 26, [some k0] => some (.val (.int .i64 (Int.ofNat (8 * (k0 % 8)))))
  | 29, [some k0] => some .ask
  | 100029, [some k0] => some .ask
  | 14, [some k0] => some (.val (.int .i64 (Int.ofNat (k0 + 1))))
  | 8, [none] => some (.val (.bool true))
  | 11, [none] => some (.val (.bool false))
  | 30, [] => some .ask
  | 100002, [] => some .ask
  | _, _ => none, fun it id => match id, it with
  | 0, [] => some ⟨64, true, fun kk => x_ofrB_grow l off base n lim (W8 (V (seg l off kk))) kk⟩
  | _, _ => none⟩
def d_ofrB_grow : Nat → Option (List Nat) := fun n => match n with
  | 0 => some [1, 5, 6, 7, 8, 9, 10, 11, 12, 13, 14, 15, 16, 17, 18, 19, 20, 21, 22, 23, 24, 25, 26, 27, 28, 29, 30, 31, 32]
  | _ => none
theorem run_ofrB_grow (l : List Int) (off base n : Nat) (lim : Option Nat) : specW Try.prog d_ofrB_grow (cS6 Try.prog) (h_ofrB_grow l off base n lim) 1000 17 [(.sl 0 off base n 1 lim)] [(⟨(.nums .u8 l), .grow, false⟩ : Blk)] (fun v M => v = (.nums .u8 (B32 (V (seg l off 64) % 7237005577332262213973186563042994240857116359379907606001950938285454250989))) ∧ M = [(⟨(.nums .u8 l), .grow, false⟩ : Blk)]) =
  (x_ofrB_grow l off base n lim [0, 0, 0, 0, 0, 0, 0, 0] 0 = x_ofrB_grow l off base n lim (W8 (V (seg l off 0))) 0 ∧ (∀ k0, k0 < 64 → ((AV.bool (decide ((Int.ofNat k0) < (Int.ofNat n)))) = (AV.bool true) ∧ (AV.bool (decide ((Int.ofNat k0) < 64))) = (AV.bool true) ∧ (AV.int .i64 (IntKind.i64.wrap (Int.tdiv (Int.ofNat k0) 8))) = (AV.int .i64 (Int.ofNat (k0 / 8))) ∧ (inR (Int.ofNat (k0 / 8)) 8 = some (k0 / 8)) ∧ ((0 + (k0 / 8) * 1) < (W8 (V (seg l off k0))).length) ∧ (1 = 1 ∧ inR (Int.ofNat k0) n = some k0) ∧ ((off + k0 * 1) < l.length) ∧ (AV.int .i64 (Int.tmod (Int.ofNat k0) 8)) = (AV.int .i64 (Int.ofNat (k0 % 8))) ∧ (AV.int .i64 (IntKind.i64.wrap ((8 : Int) * (Int.ofNat (k0 % 8))))) = (AV.int .i64 (Int.ofNat (8 * (k0 % 8)))) ∧ (inR (Int.ofNat (k0 / 8)) 8 = some (k0 / 8)) ∧ (IntKind.u64 = IntKind.u64 ∧ 1 = 1 ∧ (0 + (k0 / 8) * 1) < (W8 (V (seg l off k0))).length) ∧ (AV.int .i64 (IntKind.i64.wrap ((Int.ofNat k0) + (1 : Int)))) = (AV.int .i64 (Int.ofNat (k0 + 1))) ∧ x_ofrB_grow l off base n lim ((W8 (V (seg l off k0))).set (0 + (k0 / 8) * 1) (IntKind.u64.wrap ((BitVec.ofInt 64 ((W8 (V (seg l off k0))).getD (0 + (k0 / 8) * 1) 0) ||| BitVec.ofInt 64 (IntKind.u64.wrap ((IntKind.u64.wrap (l.getD (off + k0 * 1) 0)) * 2 ^ (Nat.min (8 * (k0 % 8)) 64)))).toNat))) (k0 + 1) = x_ofrB_grow l off base n lim (W8 (V (seg l off (k0 + 1)))) (k0 + 1))) ∧ (AV.bool (decide ((Int.ofNat 64) < (Int.ofNat n)))) = (AV.bool true) ∧ (AV.bool (decide ((Int.ofNat 64) < 64))) = (AV.bool false) ∧ (0 = 0 ∧ (W8 (V (seg l off 64))).length = 8) ∧ (Ws 8 (W8 (V (seg l off 64)))) ∧ (In4 (w0 (Wv (W8 (V (seg l off 64))) % 7237005577332262213973186563042994240857116359379907606001950938285454250989)) (w1 (Wv (W8 (V (seg l off 64))) % 7237005577332262213973186563042994240857116359379907606001950938285454250989)) (w2 (Wv (W8 (V (seg l off 64))) % 7237005577332262213973186563042994240857116359379907606001950938285454250989)) (w3 (Wv (W8 (V (seg l off 64))) % 7237005577332262213973186563042994240857116359379907606001950938285454250989))) ∧ (IntKind.u8 = IntKind.u8 ∧ 0 = 0 ∧ (B32 (V4 (w0 (Wv (W8 (V (seg l off 64))) % 7237005577332262213973186563042994240857116359379907606001950938285454250989)) (w1 (Wv (W8 (V (seg l off 64))) % 7237005577332262213973186563042994240857116359379907606001950938285454250989)) (w2 (Wv (W8 (V (seg l off 64))) % 7237005577332262213973186563042994240857116359379907606001950938285454250989)) (w3 (Wv (W8 (V (seg l off 64))) % 7237005577332262213973186563042994240857116359379907606001950938285454250989)))).length = 32 ∧ ([0, 0, 0, 0, 0, 0, 0, 0, 0, 0, 0, 0, 0, 0, 0, 0, 0, 0, 0, 0, 0, 0, 0, 0, 0, 0, 0, 0, 0, 0, 0, 0] : List Int).length = 32) ∧ ((AV.nums .u8 (B32 (V4 (w0 (Wv (W8 (V (seg l off 64))) % 7237005577332262213973186563042994240857116359379907606001950938285454250989)) (w1 (Wv (W8 (V (seg l off 64))) % 7237005577332262213973186563042994240857116359379907606001950938285454250989)) (w2 (Wv (W8 (V (seg l off 64))) % 7237005577332262213973186563042994240857116359379907606001950938285454250989)) (w3 (Wv (W8 (V (seg l off 64))) % 7237005577332262213973186563042994240857116359379907606001950938285454250989))))) = (AV.nums .u8 (B32 (V (seg l off 64) % 7237005577332262213973186563042994240857116359379907606001950938285454250989))) ∧ ([(⟨(.nums .u8 l), .grow, false⟩ : Blk)] : Mem) = [(⟨(.nums .u8 l), .grow, false⟩ : Blk)])) := by kernel_rfl
theorem ofrB_grow_ok {l : List Int} {off base n : Nat} {lim : Option Nat} (h : Bys l) (hl : off + n ≤ l.length) (hn : 64 < n) : ∃ D H N, specW Try.prog D (cS6 Try.prog) H N 17 [(.sl 0 off base n 1 lim)] [(⟨(.nums .u8 l), .grow, false⟩ : Blk)] fun v M => v = (.nums .u8 (B32 (V (seg l off 64) % 7237005577332262213973186563042994240857116359379907606001950938285454250989))) ∧ M = [(⟨(.nums .u8 l), .grow, false⟩ : Blk)] := by
  skip
  refine ⟨d_ofrB_grow, _, 1000, Eq.mpr (run_ofrB_grow l off base n lim) ⟨?_, fun k0 hk0 => ⟨aB (lt_ok (by omega)), aB (lt_ok (b := 64) (by omega)), aI (quo8 k0 (by omega)), inR_ok (by omega), (by rw [W8_len]; omega), ⟨rfl, inR_ok (by omega)⟩, (by omega), rfl, aI (mul8 (by omega)), inR_ok (by omega), ⟨rfl, rfl, (by rw [W8_len]; omega)⟩, aI (inc_ok (by omega)), ?_⟩, aB (lt_ok (by omega)), rfl, ⟨rfl, W8_len _⟩, Ws_W8 _, In4_w _, ⟨rfl, rfl, B32_len _, rfl⟩, ⟨?_, rfl⟩⟩⟩
  · refine congrArg (fun X => x_ofrB_grow l off base n lim X (0)) ?_
    rw [show seg l off 0 = [] from List.take_zero]; decide
  · exact congrArg (fun X => x_ofrB_grow l off base n lim X (k0 + 1)) (of_step (n := n) (by omega) hl (by omega) h)
  · rw [Wv_W8 _ ?_, V4_mod, mLB]
    refine Nat.lt_of_lt_of_le (V_lt (seg_by h)) ?_
    rw [seg_len (by omega)]
    exact Nat.le_trans (Nat.pow_le_pow_right (by omega) (by omega : _ ≤ 64)) (by decide)
theorem ofr_grow_ok {l : List Int} {off base n : Nat} {lim : Option Nat} (h : Bys l) (hl : off + n ≤ l.length) : ∃ D H N, specW Try.prog D (cS6 Try.prog) H N 17 [(.sl 0 off base n 1 lim)] [(⟨(.nums .u8 l), .grow, false⟩ : Blk)] fun v M => v = (.nums .u8 (B32 (V (seg l off (Nat.min n 64)) % 7237005577332262213973186563042994240857116359379907606001950938285454250989))) ∧ M = [(⟨(.nums .u8 l), .grow, false⟩ : Blk)] := by
  by_cases hn : n ≤ 64
  · rw [show Nat.min n 64 = n from Nat.min_eq_left hn]; exact ofrA_grow_ok h hl hn
  · rw [show Nat.min n 64 = 64 from Nat.min_eq_right (by omega)]; exact ofrB_grow_ok h hl (by omega)
def x_ofrA_at (l : List Int) (off base n o : Nat) (lim : Option Nat) (X : List Int) (k : Nat) : St := ⟨[(.sl 0 off base n 1 lim), .junk, (.ptr 1 0), (.ptr 2 0), (.int .i64 (Int.ofNat k)), .junk, .junk, .junk, .junk, .junk, .junk, .junk, .junk, .junk, .junk, .junk, .junk, .junk, .junk, .junk, .junk, .junk, .junk, .junk, .junk, .junk, .junk, .junk, .junk, .junk, .junk, .junk, .junk], [⟨(.at o (.nums .u8 l)), .ro, false⟩, ⟨(.nums .u8 (List.replicate 32 0)), .own, false⟩, ⟨(.nums .u64 X), .own, (!(Nat.beq k 0))⟩]⟩
def h_ofrA_at (l : List Int) (off base n o : Nat) (lim : Option Nat) : Hints := ⟨fun it t => match t, it with
  | 8, [some k0] => some (.val (.bool true))
  | 11, [some k0] => some (.val (.bool true))
  | 16, [some k0] => some (.val (.int .i64 (Int.ofNat (k0 / 8))))
  | 17, [some k0] => some .ask
  | 18, [some k0] => some .ask
  | 21, [some k0] => some .ask
  | 22, [some k0] => some (.askv (.int .u8 (l.getD ((off - o) + k0 * 1) 0)))
  | 25, [some k0] => some (.val (.int .i64 (Int.ofNat (k0 % 8))))
  | 26, [some k0] => some (.val (.int .i64 (Int.ofNat (8 * (k0 % 8)))))
  | 29, [some k0] => some .ask
  | 100029, [some k0] => some .ask
  | 14, [some k0] => some (.val (.int .i64 (Int.ofNat (k0 + 1))))
  | 8, [none] => some (.val (.bool false))
  | 30, [] => some .ask
  | 100002, [] => some .ask
  | _, _ => none, fun it id => match id, it with
  | 0, [] => some ⟨n, true, fun kk => x_ofrA_at l off base n o lim (W8 (V (seg l (off - o) kk))) kk⟩
  | _, _ => none⟩
def d_ofrA_at : Nat → Option (List Nat) := fun n => match n with
  | 0 => some [1, 5, 6, 7, 8, 9, 10, 11, 12, 13, 14, 15, 16, 17, 18, 19, 20, 21, 22, 23, 24, 25, 26, 27, 28, 29, 30, 31, 32]
  | _ => none
theorem run_ofrA_at (l : List Int) (off base n o : Nat) (lim : Option Nat) : specW Try.prog d_ofrA_at (cS6 Try.prog) (h_ofrA_at l off base n o lim) 1000 17 [(.sl 0 off base n 1 lim)] [(⟨(.at o (.nums .u8 l)), .ro, false⟩ : Blk)] (fun v M => v = (.nums .u8 (B32 (V (seg l (off - o) n) % 7237005577332262213973186563042994240857116359379907606001950938285454250989))) ∧ M = [(⟨(.at o (.nums .u8 l)), .ro, false⟩ : Blk)]) =
  (bif Nat.blt n 1000 then (x_ofrA_at l off base n o lim [0, 0, 0, 0, 0, 0, 0, 0] 0 = x_ofrA_at l off base n o lim (W8 (V (seg l (off - o) 0))) 0 ∧ (∀ k0, k0 < n → ((AV.bool (decide ((Int.ofNat k0) < (Int.ofNat n)))) = (AV.bool true) ∧ (AV.bool (decide ((Int.ofNat k0) < 64))) = (AV.bool true) ∧ (AV.int .i64 (IntKind.i64.wrap (Int.tdiv (Int.ofNat k0) 8))) = (AV.int .i64 (Int.ofNat (k0 / 8))) ∧ (inR (Int.ofNat (k0 / 8)) 8 = some (k0 / 8)) ∧ ((0 + (k0 / 8) * 1) < (W8 (V (seg l (off - o) k0))).length) ∧ (1 = 1 ∧ inR (Int.ofNat k0) n = some k0) ∧ (o ≤ (off + k0 * 1) ∧ (off + k0 * 1) - o < l.length) ∧ (AV.int .u8 (l.getD ((off + k0 * 1) - o) 0)) = (AV.int .u8 (l.getD ((off - o) + k0 * 1) 0)) ∧ (AV.int .i64 (Int.tmod (Int.ofNat k0) 8)) = (AV.int .i64 (Int.ofNat (k0 % 8))) ∧ (AV.int .i64 (IntKind.i64.wrap ((8 : Int) * (Int.ofNat (k0 % 8))))) = (AV.int .i64 (Int.ofNat (8 * (k0 % 8)))) ∧ (inR (Int.ofNat (k0 / 8)) 8 = some (k0 / 8)) ∧ (IntKind.u64 = IntKind.u64 ∧ 1 = 1 ∧ (0 + (k0 / 8) * 1) < (W8 (V (seg l (off - o) k0))).length) ∧ (AV.int .i64 (IntKind.i64.wrap ((Int.ofNat k0) + (1 : Int)))) = (AV.int .i64 (Int.ofNat (k0 + 1))) ∧ x_ofrA_at l off base n o lim ((W8 (V (seg l (off - o) k0))).set (0 + (k0 / 8) * 1) (IntKind.u64.wrap ((BitVec.ofInt 64 ((W8 (V (seg l (off - o) k0))).getD (0 + (k0 / 8) * 1) 0) ||| BitVec.ofInt 64 (IntKind.u64.wrap ((IntKind.u64.wrap (l.getD ((off - o) + k0 * 1) 0)) * 2 ^ (Nat.min (8 * (k0 % 8)) 64)))).toNat))) (k0 + 1) = x_ofrA_at l off base n o lim (W8 (V (seg l (off - o) (k0 + 1)))) (k0 + 1))) ∧ (AV.bool (decide ((Int.ofNat n) < (Int.ofNat n)))) = (AV.bool false) ∧ (0 = 0 ∧ (W8 (V (seg l (off - o) n))).length = 8) ∧ (Ws 8 (W8 (V (seg l (off - o) n)))) ∧ (In4 (w0 (Wv (W8 (V (seg l (off - o) n))) % 7237005577332262213973186563042994240857116359379907606001950938285454250989)) (w1 (Wv (W8 (V (seg l (off - o) n))) % 7237005577332262213973186563042994240857116359379907606001950938285454250989)) (w2 (Wv (W8 (V (seg l (off - o) n))) % 7237005577332262213973186563042994240857116359379907606001950938285454250989)) (w3 (Wv (W8 (V (seg l (off - o) n))) % 7237005577332262213973186563042994240857116359379907606001950938285454250989))) ∧ (IntKind.u8 = IntKind.u8 ∧ 0 = 0 ∧ (B32 (V4 (w0 (Wv (W8 (V (seg l (off - o) n))) % 7237005577332262213973186563042994240857116359379907606001950938285454250989)) (w1 (Wv (W8 (V (seg l (off - o) n))) % 7237005577332262213973186563042994240857116359379907606001950938285454250989)) (w2 (Wv (W8 (V (seg l (off - o) n))) % 7237005577332262213973186563042994240857116359379907606001950938285454250989)) (w3 (Wv (W8 (V (seg l (off - o) n))) % 7237005577332262213973186563042994240857116359379907606001950938285454250989)))).length = 32 ∧ ([0, 0, 0, 0, 0, 0, 0, 0, 0, 0, 0, 0, 0, 0, 0, 0, 0, 0, 0, 0, 0, 0, 0, 0, 0, 0, 0, 0, 0, 0, 0, 0] : List Int).length = 32) ∧ ((AV.nums .u8 (B32 (V4 (w0 (Wv (W8 (V (seg l (off - o) n))) % 7237005577332262213973186563042994240857116359379907606001950938285454250989)) (w1 (Wv (W8 (V (seg l (off - o) n))) % 7237005577332262213973186563042994240857116359379907606001950938285454250989)) (w2 (Wv (W8 (V (seg l (off - o) n))) % 7237005577332262213973186563042994240857116359379907606001950938285454250989)) (w3 (Wv (W8 (V (seg l (off - o) n))) % 7237005577332262213973186563042994240857116359379907606001950938285454250989))))) = (AV.nums .u8 (B32 (V (seg l (off - o) n) % 7237005577332262213973186563042994240857116359379907606001950938285454250989))) ∧ ([(⟨(.at o (.nums .u8 l)), .ro, false⟩ : Blk)] : Mem) = [(⟨(.at o (.nums .u8 l)), .ro, false⟩ : Blk)])) else False) := by kernel_rfl
theorem ofrA_at_ok {l : List Int} {off base n o : Nat} {lim : Option Nat} (h : Bys l) (ho : o ≤ off) (hl : (off - o) + n ≤ l.length) (hn : n ≤ 64) : ∃ D H N, specW Try.prog D (cS6 Try.prog) H N 17 [(.sl 0 off base n 1 lim)] [(⟨(.at o (.nums .u8 l)), .ro, false⟩ : Blk)] fun v M => v = (.nums .u8 (B32 (V (seg l (off - o) n) % 7237005577332262213973186563042994240857116359379907606001950938285454250989))) ∧ M = [(⟨(.at o (.nums .u8 l)), .ro, false⟩ : Blk)] := by
  skip
  refine ⟨d_ofrA_at, _, 1000, Eq.mpr (run_ofrA_at l off base n o lim) (bifT (by simpa using (show n < 1000 by omega)) ⟨?_, fun k0 hk0 => ⟨aB (lt_ok (by omega)), aB (lt_ok (b := 64) (by omega)), aI (quo8 k0 (by omega)), inR_ok (by omega), (by rw [W8_len]; omega), ⟨rfl, inR_ok (by omega)⟩, ⟨(by omega), (by omega)⟩, aI (by rw [show (off + k0 * 1) - o = (off - o) + k0 * 1 by omega]), rfl, aI (mul8 (by omega)), inR_ok (by omega), ⟨rfl, rfl, (by rw [W8_len]; omega)⟩, aI (inc_ok (by omega)), ?_⟩, aB (lt_no (by omega)), ⟨rfl, W8_len _⟩, Ws_W8 _, In4_w _, ⟨rfl, rfl, B32_len _, rfl⟩, ⟨?_, rfl⟩⟩)⟩
  · refine congrArg (fun X => x_ofrA_at l off base n o lim X (0)) ?_
    rw [show seg l (off - o) 0 = [] from List.take_zero]; decide
  · exact congrArg (fun X => x_ofrA_at l off base n o lim X (k0 + 1)) (of_step (n := n) (by omega) hl (by omega) h)
  · rw [Wv_W8 _ ?_, V4_mod, mLB]
    refine Nat.lt_of_lt_of_le (V_lt (seg_by h)) ?_
    rw [seg_len (by omega)]
    exact Nat.le_trans (Nat.pow_le_pow_right (by omega) (by omega : _ ≤ 64)) (by decide)
def x_ofrB_at (l : List Int) (off base n o : Nat) (lim : Option Nat) (X : List Int) (k : Nat) : St := ⟨[(.sl 0 off base n 1 lim), .junk, (.ptr 1 0), (.ptr 2 0), (.int .i64 (Int.ofNat k)), .junk, .junk, .junk, .junk, .junk, .junk, .junk, .junk, .junk, .junk, .junk, .junk, .junk, .junk, .junk, .junk, .junk, .junk, .junk, .junk, .junk, .junk, .junk, .junk, .junk, .junk, .junk, .junk], [⟨(.at o (.nums .u8 l)), .ro, false⟩, ⟨(.nums .u8 (List.replicate 32 0)), .own, false⟩, ⟨(.nums .u64 X), .own, (!(Nat.beq k 0))⟩]⟩
def h_ofrB_at (l : List Int) (off base n o : Nat) (lim : Option Nat) : Hints := ⟨fun it t => match t, it with
  | 8, [some k0] => some (.val (.bool true))
  | 11, [some k0] => some (.val (.bool true))
  | 16, [some k0] => some (.val (.int .i64 (Int.ofNat (k0 / 8))))
  | 17, [some k0] => some .ask
  | 18, [some k0] => some .ask
  | 21, [some k0] => some .ask
  | 22, [some k0] => some (.askv (.int .u8 (l.getD ((off - o) + k0 * 1) 0)))
  | 25, [some k0] => some (.val (.int .i64 (Int.ofNat (k0 % 8))))
  | 26, [some k0] => some (.val (.int .i64 (Int.ofNat (8 * (k0 % 8)))))
  | 29, [some k0] => some .ask
  | 100029, [some k0] => some .ask
  | 14, [some k0] => some (.val (.int .i64 (Int.ofNat (k0 + 1))))
  | 8, [none] => some (.val (.bool true))
  | 11, [none] => some (.val (.bool false))
  | 30, [] => some .ask
  | 100002, [] => some .ask
  | _, _ => none, fun it id => match id, it with
  | 0, [] => some ⟨64, true, fun kk => x_ofrB_at l off base n o lim (W8 (V (seg l (off - o) kk))) kk⟩
  | _, _ => none⟩
def d_ofrB_at : Nat → Option (List Nat) := fun n => match n with
  | 0 => some [1, 5, 6, 7, 8, 9, 10, 11, 12, 13, 14, 15, 16, 17, 18, 19, 20, 21, 22, 23, 24, 25, 26, 27, 28, 29, 30, 31, 32]
  | _ => none
theorem run_ofrB_at (l : List Int) (off base n o : Nat) (lim : Option Nat) : specW Try.prog d_ofrB_at (cS6 Try.prog) (h_ofrB_at l off base n o lim) 1000 17 [(.sl 0 off base n 1 lim)] [(⟨(.at o (.nums .u8 l)), .ro, false⟩ : Blk)] (fun v M => v = (.nums .u8 (B32 (V (seg l (off - o) 64) % 7237005577332262213973186563042994240857116359379907606001950938285454250989))) ∧ M = [(⟨(.at o (.nums .u8 l)), .ro, false⟩ : Blk)]) =
  (x_ofrB_at l off base n o lim [0, 0, 0, 0, 0, 0, 0, 0] 0 = x_ofrB_at l off base n o lim (W8 (V (seg l (off - o) 0))) 0 ∧ (∀ k0, k0 < 64 → ((AV.bool (decide ((Int.ofNat k0) < (Int.ofNat n)))) = (AV.bool true) ∧ (AV.bool (decide ((Int.ofNat k0) < 64))) = (AV.bool true) ∧ (AV.int .i64 (IntKind.i64.wrap (Int.tdiv (Int.ofNat k0) 8))) = (AV.int .i64 (Int.ofNat (k0 / 8))) ∧ (inR (Int.ofNat (k0 / 8)) 8 = some (k0 / 8)) ∧ ((0 + (k0 / 8) * 1) < (W8 (V (seg l (off - o) k0))).length) ∧ (1 = 1 ∧ inR (Int.ofNat k0) n = some k0) ∧ (o ≤ (off + k0 * 1) ∧ (off + k0 * 1) - o < l.length) ∧ (AV.int .u8 (l.getD ((off + k0 * 1) - o) 0)) = (AV.int .u8 (l.getD ((off - o) + k0 * 1) 0)) ∧ (AV.int .i64 (Int.tmod (Int.ofNat k0) 8)) = (AV.int .i64 (Int.ofNat (k0 % 8))) ∧ (AV.int .i64 (IntKind.i64.wrap ((8 : Int) * (Int.ofNat (k0 % 8))))) = (AV.int .i64 (Int.ofNat (8 * (k0 % 8)))) ∧ (inR (Int.ofNat (k0 / 8)) 8 = some (k0 / 8)) ∧ (IntKind.u64 = IntKind.u64 ∧ 1 = 1 ∧ (0 + (k0 / 8) * 1) < (W8 (V (seg l (off - o) k0))).length) ∧ (AV.int .i64 (IntKind.i64.wrap ((Int.ofNat k0) + (1 : Int)))) = (AV.int .i64 (Int.ofNat (k0 + 1))) ∧ x_ofrB_at l off base n o lim ((W8 (V (seg l (off - o) k0))).set (0 + (k0 / 8) * 1) (IntKind.u64.wrap ((BitVec.ofInt 64 ((W8 (V (seg l (off - o) k0))).getD (0 + (k0 / 8) * 1) 0) ||| BitVec.ofInt 64 (IntKind.u64.wrap ((IntKind.u64.wrap (l.getD ((off - o) + k0 * 1) 0)) * 2 ^ (Nat.min (8 * (k0 % 8)) 64)))).toNat))) (k0 + 1) = x_ofrB_at l off base n o lim (W8 (V (seg l (off - o) (k0 + 1)))) (k0 + 1))) ∧ (AV.bool (decide ((Int.ofNat 64) < (Int.ofNat n)))) = (AV.bool true) ∧ (AV.bool (decide ((Int.ofNat 64) < 64))) = (AV.bool false) ∧ (0 = 0 ∧ (W8 (V (seg l (off - o) 64))).length = 8) ∧ (Ws 8 (W8 (V (seg l (off - o) 64)))) ∧ (In4 (w0 (Wv (W8 (V (seg l (off - o) 64))) % 7237005577332262213973186563042994240857116359379907606001950938285454250989)) (w1 (Wv (W8 (V (seg l (off - o) 64))) % 7237005577332262213973186563042994240857116359379907606001950938285454250989)) (w2 (Wv (W8 (V (seg l (off - o) 64))) % 7237005577332262213973186563042994240857116359379907606001950938285454250989)) (w3 (Wv (W8 (V (seg l (off - o) 64))) % 7237005577332262213973186563042994240857116359379907606001950938285454250989))) ∧ (IntKind.u8 = IntKind.u8 ∧ 0 = 0 ∧ (B32 (V4 (w0 (Wv (W8 (V (seg l (off - o) 64))) % 7237005577332262213973186563042994240857116359379907606001950938285454250989)) (w1 (Wv (W8 (V (seg l (off - o) 64))) % 7237005577332262213973186563042994240857116359379907606001950938285454250989)) (w2 (Wv (W8 (V (seg l (off - o) 64))) % 7237005577332262213973186563042994240857116359379907606001950938285454250989)) (w3 (Wv (W8 (V (seg l (off - o) 64))) % 7237005577332262213973186563042994240857116359379907606001950938285454250989)))).length = 32 ∧ ([0, 0, 0, 0, 0, 0, 0, 0, 0, 0, 0, 0, 0, 0, 0, 0, 0, 0, 0, 0, 0, 0, 0, 0, 0, 0, 0, 0, 0, 0, 0, 0] : List Int).length = 32) ∧ ((AV.nums .u8 (B32 (V4 (w0 (Wv (W8 (V (seg l (off - o) 64))) % 7237005577332262213973186563042994240857116359379907606001950938285454250989)) (w1 (Wv (W8 (V (seg l (off - o) 64))) % 7237005577332262213973186563042994240857116359379907606001950938285454250989)) (w2 (Wv (W8 (V (seg l (off - o) 64))) % 7237005577332262213973186563042994240857116359379907606001950938285454250989)) (w3 (Wv (W8 (V (seg l (off - o) 64))) % 7237005577332262213973186563042994240857116359379907606001950938285454250989))))) = (AV.nums .u8 (B32 (V (seg l (off - o) 64) % 7237005577332262213973186563042994240857116359379907606001950938285454250989))) ∧ ([(⟨(.at o (.nums .u8 l)), .ro, false⟩ : Blk)] : Mem) = [(⟨(.at o (.nums .u8 l)), .ro, false⟩ : Blk)])) := by kernel_rfl
theorem ofrB_at_ok {l : List Int} {off base n o : Nat} {lim : Option Nat} (h : Bys l) (ho : o ≤ off) (hl : (off - o) + n ≤ l.length) (hn : 64 < n) : ∃ D H N, specW Try.prog D (cS6 Try.prog) H N 17 [(.sl 0 off base n 1 lim)] [(⟨(.at o (.nums .u8 l)), .ro, false⟩ : Blk)] fun v M => v = (.nums .u8 (B32 (V (seg l (off - o) 64) % 7237005577332262213973186563042994240857116359379907606001950938285454250989))) ∧ M = [(⟨(.at o (.nums .u8 l)), .ro, false⟩ : Blk)] := by
  skip
  refine ⟨d_ofrB_at, _, 1000, Eq.mpr (run_ofrB_at l off base n o lim) ⟨?_, fun k0 hk0 => ⟨aB (lt_ok (by omega)), aB (lt_ok (b := 64) (by omega)), aI (quo8 k0 (by omega)), inR_ok (by omega), (by rw [W8_len]; omega), ⟨rfl, inR_ok (by omega)⟩, ⟨(by omega), (by omega)⟩, aI (by rw [show (off + k0 * 1) - o = (off - o) + k0 * 1 by omega]), rfl, aI (mul8 (by omega)), inR_ok (by omega), ⟨rfl, rfl, (by rw [W8_len]; omega)⟩, aI (inc_ok (by omega)), ?_⟩, aB (lt_ok (by omega)), rfl, ⟨rfl, W8_len _⟩, Ws_W8 _, In4_w _, ⟨rfl, rfl, B32_len _, rfl⟩, ⟨?_, rfl⟩⟩⟩
  · refine congrArg (fun X => x_ofrB_at l off base n o lim X (0)) ?_
    rw [show seg l (off - o) 0 = [] from List.take_zero]; decide
  · exact congrArg (fun X => x_ofrB_at l off base n o lim X (k0 + 1)) (of_step (n := n) (by omega) hl (by omega) h)
  · rw [Wv_W8 _ ?_, V4_mod, mLB]
    refine Nat.lt_of_lt_of_le (V_lt (seg_by h)) ?_
    rw [seg_len (by omega)]
    exact Nat.le_trans (Nat.pow_le_pow_right (by omega) (by omega : _ ≤ 64)) (by decide)
theorem ofr_at_ok {l : List Int} {off base n o : Nat} {lim : Option Nat} (h : Bys l) (ho : o ≤ off) (hl : (off - o) + n ≤ l.length) : ∃ D H N, specW Try.prog D (cS6 Try.prog) H N 17 [(.sl 0 off base n 1 lim)] [(⟨(.at o (.nums .u8 l)), .ro, false⟩ : Blk)] fun v M => v = (.nums .u8 (B32 (V (seg l (off - o) (Nat.min n 64)) % 7237005577332262213973186563042994240857116359379907606001950938285454250989))) ∧ M = [(⟨(.at o (.nums .u8 l)), .ro, false⟩ : Blk)] := by
  by_cases hn : n ≤ 64
  · rw [show Nat.min n 64 = n from Nat.min_eq_left hn]; exact ofrA_at_ok h ho hl hn
  · rw [show Nat.min n 64 = 64 from Nat.min_eq_right (by omega)]; exact ofrB_at_ok h ho hl (by omega)
def s_of : Spec := fun a M => match a, M with
  | [.sl 0 off base n 1 lim], [⟨.nums .u8 l, .ro, false⟩] => some (some (Bys l ∧ off + n ≤ l.length), .nums .u8 (B32 (V (seg l off (Nat.min n 64)) % 7237005577332262213973186563042994240857116359379907606001950938285454250989)), [⟨.nums .u8 l, .ro, false⟩])
  | [.sl 0 off base n 1 lim], [⟨.nums .u8 l, .own, false⟩] => some (some (Bys l ∧ off + n ≤ l.length), .nums .u8 (B32 (V (seg l off (Nat.min n 64)) % 7237005577332262213973186563042994240857116359379907606001950938285454250989)), [⟨.nums .u8 l, .own, false⟩])
  | [.sl 0 off base n 1 lim], [⟨.nums .u8 l, .grow, false⟩] => some (some (Bys l ∧ off + n ≤ l.length), .nums .u8 (B32 (V (seg l off (Nat.min n 64)) % 7237005577332262213973186563042994240857116359379907606001950938285454250989)), [⟨.nums .u8 l, .grow, false⟩])
  | [.sl 0 off base n 1 lim], [⟨.at o (.nums .u8 l), .ro, false⟩] => some (some (Bys l ∧ o ≤ off ∧ off - o + n ≤ l.length), .nums .u8 (B32 (V (seg l (off - o) (Nat.min n 64)) % 7237005577332262213973186563042994240857116359379907606001950938285454250989)), [⟨.at o (.nums .u8 l), .ro, false⟩])
  | [.nilsl], [] => some (none, .nums .u8 (B32 0), [])
  | _, _ => none
def h_of_nil : Hints := ⟨fun it t => match t, it with
  | 100002, [] => some .ask
  | _, _ => none, fun it id => match id, it with
  | _, _ => none⟩
theorem run_of_nil  : specW Try.prog noD (cS6 Try.prog) (h_of_nil) 1000 9 [.nilsl] [] (fun v M => v = (.nums .u8 (B32 0)) ∧ M = []) =
  ((Ws 8 [0, 0, 0, 0, 0, 0, 0, 0]) ∧ (IntKind.u8 = IntKind.u8 ∧ 0 = 0 ∧ (B32 (Wv [0, 0, 0, 0, 0, 0, 0, 0] % 7237005577332262213973186563042994240857116359379907606001950938285454250989)).length = 32 ∧ ([0, 0, 0, 0, 0, 0, 0, 0, 0, 0, 0, 0, 0, 0, 0, 0, 0, 0, 0, 0, 0, 0, 0, 0, 0, 0, 0, 0, 0, 0, 0, 0] : List Int).length = 32) ∧ ((AV.nums .u8 (B32 (Wv [0, 0, 0, 0, 0, 0, 0, 0] % 7237005577332262213973186563042994240857116359379907606001950938285454250989))) = (AV.nums .u8 (B32 0)) ∧ ([] : Mem) = [])) := by kernel_rfl
theorem of_nil_ok  (_h : True) : ∃ D H N, specW Try.prog D (cS6 Try.prog) H N 9 [.nilsl] [] fun v M => v = (.nums .u8 (B32 0)) ∧ M = [] := by
  refine ⟨noD, _, 1000, Eq.mpr (run_of_nil) ⟨⟨rfl, by decide⟩, ⟨rfl, rfl, B32_len _, rfl⟩, ⟨?_, rfl⟩⟩⟩
  rw [show Wv [0, 0, 0, 0, 0, 0, 0, 0] % 7237005577332262213973186563042994240857116359379907606001950938285454250989 = 0 by decide]
def h_ofr_nil : Hints := ⟨fun it t => match t, it with
  | 100002, [] => some .ask
  | _, _ => none, fun it id => match id, it with
  | _, _ => none⟩
theorem run_ofr_nil  : specW Try.prog noD (cS6 Try.prog) (h_ofr_nil) 1000 17 [.nilsl] [] (fun v M => v = (.nums .u8 (B32 0)) ∧ M = []) =
  ((Ws 8 [0, 0, 0, 0, 0, 0, 0, 0]) ∧ (In4 (w0 (Wv [0, 0, 0, 0, 0, 0, 0, 0] % 7237005577332262213973186563042994240857116359379907606001950938285454250989)) (w1 (Wv [0, 0, 0, 0, 0, 0, 0, 0] % 7237005577332262213973186563042994240857116359379907606001950938285454250989)) (w2 (Wv [0, 0, 0, 0, 0, 0, 0, 0] % 7237005577332262213973186563042994240857116359379907606001950938285454250989)) (w3 (Wv [0, 0, 0, 0, 0, 0, 0, 0] % 7237005577332262213973186563042994240857116359379907606001950938285454250989))) ∧ (IntKind.u8 = IntKind.u8 ∧ 0 = 0 ∧ (B32 (V4 (w0 (Wv [0, 0, 0, 0, 0, 0, 0, 0] % 7237005577332262213973186563042994240857116359379907606001950938285454250989)) (w1 (Wv [0, 0, 0, 0, 0, 0, 0, 0] % 7237005577332262213973186563042994240857116359379907606001950938285454250989)) (w2 (Wv [0, 0, 0, 0, 0, 0, 0, 0] % 7237005577332262213973186563042994240857116359379907606001950938285454250989)) (w3 (Wv [0, 0, 0, 0, 0, 0, 0, 0] % 7237005577332262213973186563042994240857116359379907606001950938285454250989)))).length = 32 ∧ ([0, 0, 0, 0, 0, 0, 0, 0, 0, 0, 0, 0, 0, 0, 0, 0, 0, 0, 0, 0, 0, 0, 0, 0, 0, 0, 0, 0, 0, 0, 0, 0] : List Int).length = 32) ∧ ((AV.nums .u8 (B32 (V4 (w0 (Wv [0, 0, 0, 0, 0, 0, 0, 0] % 7237005577332262213973186563042994240857116359379907606001950938285454250989)) (w1 (Wv [0, 0, 0, 0, 0, 0, 0, 0] % 7237005577332262213973186563042994240857116359379907606001950938285454250989)) (w2 (Wv [0, 0, 0, 0, 0, 0, 0, 0] % 7237005577332262213973186563042994240857116359379907606001950938285454250989)) (w3 (Wv [0, 0, 0, 0, 0, 0, 0, 0] % 7237005577332262213973186563042994240857116359379907606001950938285454250989))))) = (AV.nums .u8 (B32 0)) ∧ ([] : Mem) = [])) := by kernel_rfl
theorem ofr_nil_ok  (_h : True) : ∃ D H N, specW Try.prog D (cS6 Try.prog) H N 17 [.nilsl] [] fun v M => v = (.nums .u8 (B32 0)) ∧ M = [] := by
  refine ⟨noD, _, 1000, Eq.mpr (run_ofr_nil) ⟨⟨rfl, by decide⟩, In4_w _, ⟨rfl, rfl, B32_len _, rfl⟩, ⟨?_, rfl⟩⟩⟩
  rw [show Wv [0, 0, 0, 0, 0, 0, 0, 0] % 7237005577332262213973186563042994240857116359379907606001950938285454250989 = 0 by decide, V4_mod]
def cS7 (P : Program) : OrcP := addS (addS (addS (addS (cS6 P) 9 s_of) 17 s_of) 12 s_bit) 21 s_bit
theorem cS7_ok : OrcPOK Try.prog (cS7 Try.prog) := by
  unfold cS7
  refine (addS_ok mixed (addS_ok mixed (addS_ok mixed (addS_ok mixed cS6_ok cS6_ok ?_) cS6_ok ?_) cS6_ok ?_) cS6_ok ?_)
  · intro a M q v M' h hq
    unfold s_of at h
    split at h
    · simp only [Option.some.injEq, Prod.mk.injEq] at h
      obtain ⟨rfl, rfl, rfl⟩ := h
      exact of_ro_ok hq.1 hq.2
    · simp only [Option.some.injEq, Prod.mk.injEq] at h
      obtain ⟨rfl, rfl, rfl⟩ := h
      exact of_own_ok hq.1 hq.2
    · simp only [Option.some.injEq, Prod.mk.injEq] at h
      obtain ⟨rfl, rfl, rfl⟩ := h
      exact of_grow_ok hq.1 hq.2
    · simp only [Option.some.injEq, Prod.mk.injEq] at h
      obtain ⟨rfl, rfl, rfl⟩ := h
      exact of_at_ok hq.1 hq.2.1 hq.2.2
    · simp only [Option.some.injEq, Prod.mk.injEq] at h
      obtain ⟨rfl, rfl, rfl⟩ := h
      exact of_nil_ok trivial
    · cases h
  · intro a M q v M' h hq
    unfold s_of at h
    split at h
    · simp only [Option.some.injEq, Prod.mk.injEq] at h
      obtain ⟨rfl, rfl, rfl⟩ := h
      exact ofr_ro_ok hq.1 hq.2
    · simp only [Option.some.injEq, Prod.mk.injEq] at h
      obtain ⟨rfl, rfl, rfl⟩ := h
      exact ofr_own_ok hq.1 hq.2
    · simp only [Option.some.injEq, Prod.mk.injEq] at h
      obtain ⟨rfl, rfl, rfl⟩ := h
      exact ofr_grow_ok hq.1 hq.2
    · simp only [Option.some.injEq, Prod.mk.injEq] at h
      obtain ⟨rfl, rfl, rfl⟩ := h
      exact ofr_at_ok hq.1 hq.2.1 hq.2.2
    · simp only [Option.some.injEq, Prod.mk.injEq] at h
      obtain ⟨rfl, rfl, rfl⟩ := h
      exact ofr_nil_ok trivial
    · cases h
  · intro a M q v M' h hq
    unfold s_bit at h
    split at h
    · simp only [Option.some.injEq, Prod.mk.injEq] at h
      obtain ⟨rfl, rfl, rfl⟩ := h
      exact bit_ok hq
    · cases h
  · intro a M q v M' h hq
    unfold s_bit at h
    split at h
    · simp only [Option.some.injEq, Prod.mk.injEq] at h
      obtain ⟨rfl, rfl, rfl⟩ := h
      exact bitr_ok hq
    · cases h
end Go.Proofs.Ytcfficnhahegmaa
