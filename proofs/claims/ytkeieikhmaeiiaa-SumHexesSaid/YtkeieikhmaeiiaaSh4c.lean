/- The primes, by the sieve's states. No condition. -/
import Derived.Test.YtkeieikhmaeiiaaSh4b
namespace Go.Proofs.Ytkeieikhmaeiiaa
open Go Go.RowKit
/-- How many numbers the prime p strikes out. -/
def cnt (p : Nat) : Nat := bif Nat.blt p 21 then (409 - p * p) / p + 1 else 0
def marks (m p : Nat) : Nat → Nat
  | 0 => m
  | j + 1 => marks m p j ||| 2 ^ (p * p + j * p)
def svM : Nat → Nat
  | 0 => 0
  | k + 1 => bif Nat.testBit (svM k) (k + 2) then svM k else marks (svM k) (k + 2) (cnt (k + 2))
def svO : Nat → List Int
  | 0 => []
  | k + 1 => bif Nat.testBit (svM k) (k + 2) then svO k else svO k ++ [Int.ofNat (k + 2)]
theorem svM_t {k : Nat} (h : Nat.testBit (svM k) (k + 2) = true) : svM (k + 1) = svM k := by simp only [svM, h, cond_true]
theorem svM_f {k : Nat} (h : Nat.testBit (svM k) (k + 2) = false) : svM (k + 1) = marks (svM k) (k + 2) (cnt (k + 2)) := by simp only [svM, h, cond_false]
theorem svO_t {k : Nat} (h : Nat.testBit (svM k) (k + 2) = true) : svO (k + 1) = svO k := by simp only [svO, h, cond_true]
theorem svO_f {k : Nat} (h : Nat.testBit (svM k) (k + 2) = false) : svO (k + 1) = svO k ++ [Int.ofNat (k + 2)] := by simp only [svO, h, cond_false]
theorem svO_le : ∀ k, (svO k).length ≤ k
  | 0 => Nat.le_refl _
  | k + 1 => by
    have ih := svO_le k
    simp only [svO]
    cases Nat.testBit (svM k) (k + 2) with
    | true => rw [cond_true]; omega
    | false => rw [cond_false, List.length_append]; simp only [List.length_cons, List.length_nil]; omega
def dq : Nat → Nat → Bool
  | 0, 0 => false
  | _, _ => true
theorem cnt_lt {p j : Nat} (hp : 2 ≤ p) (hj : j < cnt p) : p * p + j * p < 410 ∧ p < 21 := by
  unfold cnt at hj
  cases hb : Nat.blt p 21 with
  | true =>
    rw [hb, cond_true] at hj
    have h21 := blt_true hb
    have hpp : p * p ≤ 400 := Nat.mul_le_mul (show p ≤ 20 by omega) (show p ≤ 20 by omega)
    have h1 : j * p ≤ 409 - p * p := (Nat.le_div_iff_mul_le (by omega)).1 (by omega)
    exact ⟨by omega, h21⟩
  | false => rw [hb, cond_false] at hj; omega
theorem cnt_end {p : Nat} (hp : 2 ≤ p) : ¬ p * p + cnt p * p < 410 := by
  unfold cnt
  cases hb : Nat.blt p 21 with
  | true =>
    rw [cond_true]
    have h21 := blt_true hb
    have hpp : p * p ≤ 400 := Nat.mul_le_mul (show p ≤ 20 by omega) (show p ≤ 20 by omega)
    have h1 : 409 - p * p < p * ((409 - p * p) / p + 1) := Nat.lt_mul_div_succ _ (by omega)
    rw [Nat.mul_comm p ((409 - p * p) / p + 1)] at h1
    omega
  | false =>
    rw [cond_false]
    have : ¬ p < 21 := fun h => by rw [blt_ok h] at hb; cases hb
    have hpp : 21 * 21 ≤ p * p := Nat.mul_le_mul (by omega) (by omega)
    omega
theorem cnt_N {p : Nat} (hp : 2 ≤ p) : Nat.blt (cnt p) 1000 = true := by
  apply blt_ok
  unfold cnt
  cases Nat.blt p 21 with
  | true =>
    rw [cond_true]
    have : (409 - p * p) / p ≤ 409 - p * p := Nat.div_le_self _ _
    omega
  | false => rw [cond_false]; omega
theorem in_add {p k : Nat} : p * p + k * p + p = p * p + (k + 1) * p := by rw [Nat.succ_mul k p]; omega
theorem in_small {p k : Nat} (hp : 2 ≤ p) (hk : k < cnt p) : p * p + (k + 1) * p < 4611686018427387904 := by
  have := cnt_lt hp hk
  rw [Nat.succ_mul k p]; omega
theorem ld_bl {C : Orc} {M : Mem} {i off o m : Nat} {kd : BK} {d : Bool} (hi : liveB M i = some ⟨.flat (bl410 m), kd, d⟩) (he : off = o) (h : o < 410) : psem C (.load none) [.ptr i off] M = some (.bool (m.testBit o), M, ⟨[i], [], false, false⟩) := by
  subst he
  simp only [psem, hi, AV.part, AV.get?, bl410_get h]; rfl
theorem st_bl {C : Orc} {M : Mem} {i off o m : Nat} {kd : BK} {d : Bool} (hi : ownB M i = some ⟨.flat (bl410 m), kd, d⟩) (he : off = o) (h : o < 410) : psem C (.store 1) [.ptr i off, .bool true] M = some (undefA, M.set i ⟨.flat (bl410 (m ||| 2 ^ o)), kd, true⟩, ⟨[], [i], true, false⟩) := by
  subst he
  have h1 : (AV.flat (bl410 m)).putR off (.bool true) = some (.flat (bl410 (m ||| 2 ^ off))) := by
    have hb : Nat.blt off (bl410 m).length = true := blt_ok (by rw [bl410_len]; exact h)
    simp only [AV.putR, AV.one, hb, Bool.and_self, if_true, toSV, bl410_set h]
  simp only [psem, hi, AV.csize, AV.plain, AV.one, beq_ok, Bool.and_self, cond_true, h1]
theorem mul_i {p : Nat} (h : p < 1000) : IntKind.i64.wrap (Int.ofNat p * Int.ofNat p) = Int.ofNat (p * p) := i64_small (p * p) (by have := Nat.mul_le_mul (show p ≤ 999 by omega) (show p ≤ 999 by omega); omega)
theorem add_i {a b c : Nat} (hc : a + b = c) (h : c < 4611686018427387904) : IntKind.i64.wrap (Int.ofNat a + Int.ofNat b) = Int.ofNat c := by subst hc; exact i64_small (a + b) (by omega)
theorem inc_i {a c : Nat} (hc : a + 1 = c) (h : a < 4611686018427387904) : IntKind.i64.wrap (Int.ofNat a + 1) = Int.ofNat c := by subst hc; exact inc_ok h
theorem cv_u {p : Nat} (h : p < 1000) : IntKind.u64.wrap (Int.ofNat p) = Int.ofNat p := by
  have := wrap64 p
  rw [Nat.mod_eq_of_lt (by omega)] at this
  exact this
def x_pr (n : Nat) (mm : Nat) (oo : List Int) (ol : Nat) (p : Nat) (d : Bool) : St := ⟨((.int .i64 (Int.ofNat n)) :: (.junk :: (.junk :: ((.ptr 0 0) :: ((.sl 1 0 0 ol 1 none) :: ((.int .i64 (Int.ofNat p)) :: (jk 26 []))))))), [⟨(.flat (bl410 mm)), .own, d⟩, ⟨(.nums .u64 oo), .grow, false⟩]⟩
def x_pr0 (n : Nat) : St := ⟨((.int .i64 (Int.ofNat n)) :: (.junk :: (.junk :: ((.ptr 0 0) :: (.nilsl :: ((.int .i64 2) :: (jk 26 []))))))), [⟨(.flat (bl410 0)), .own, false⟩]⟩
def x_in (n : Nat) (mm : Nat) (oo : List Int) (ol : Nat) (p : Nat) (q : Nat) (d : Bool) : St := ⟨((.int .i64 (Int.ofNat n)) :: (.junk :: (.junk :: ((.ptr 0 0) :: ((.sl 1 0 0 ol 1 none) :: ((.int .i64 (Int.ofNat p)) :: ((.int .i64 (Int.ofNat q)) :: (jk 25 [])))))))), [⟨(.flat (bl410 mm)), .own, d⟩, ⟨(.nums .u64 oo), .grow, false⟩]⟩
def h_primes (n R : Nat) : Hints := ⟨fun it t => match t with
  | 3 => bif eqIt [] it then some (.op (.ptr 0 0) [(⟨(.flat (bl410 0)), .own, false⟩ : Blk)] ⟨[], [], true, true⟩) else none
  | 10 => (match (lkH [([some 0], (.val (.bool true))), ([none], (.val (.bool false)))] it : Option VH), it with | some v, _ => some v | none, [some (k0 + 1)] => some (.val (.bool true)) | _, _ => none)
  | 15 => (match (bif eqIt [some 0] it then some (.op (.bool false) [(⟨(.flat (bl410 0)), .own, false⟩ : Blk)] ⟨[0], [], false, false⟩) else none : Option VH), it with | some v, _ => some v | none, [some (k0 + 1)] => some (.op (.bool (Nat.testBit (svM (k0 + 1)) ((k0 + 1) + 2))) [(⟨(.flat (bl410 (svM (k0 + 1)))), .own, true⟩ : Blk), ⟨(.nums .u64 (svO (k0 + 1))), .grow, false⟩] ⟨[0], [], false, false⟩) | _, _ => none)
  | 25 => (match (bif eqIt [none, some 0] it then some (.val (.bool false)) else none : Option VH), it with | some v, _ => some v | none, [some k1, some 0] => some (.val (.bool true))  | none, [some k1, some (k0 + 1)] => some (.val (.bool true))  | none, [none, some (k0 + 1)] => some (.val (.bool false)) | _, _ => none)
  | 30 => (match it with | [some k1, some 0] => some .ask  | [some k1, some (k0 + 1)] => some .ask | _ => none)
  | 100030 => (match it with | [some k1, some 0] => some (.op (.tup []) [(⟨(.flat (bl410 (marks (svM 0) (0 + 2) (k1 + 1)))), .own, true⟩ : Blk), ⟨(.nums .u64 (svO 0 ++ [Int.ofNat (0 + 2)])), .grow, false⟩] ⟨[], [0], true, false⟩)  | [some k1, some (k0 + 1)] => some (.op (.tup []) [(⟨(.flat (bl410 (marks (svM (k0 + 1)) ((k0 + 1) + 2) (k1 + 1)))), .own, true⟩ : Blk), ⟨(.nums .u64 (svO (k0 + 1) ++ [Int.ofNat ((k0 + 1) + 2)])), .grow, false⟩] ⟨[], [0], true, false⟩) | _ => none)
  | 28 => (match it with | [some k1, some 0] => some (.val (.int .i64 (Int.ofNat ((0 + 2) * (0 + 2) + (k1 + 1) * (0 + 2)))))  | [some k1, some (k0 + 1)] => some (.val (.int .i64 (Int.ofNat (((k0 + 1) + 2) * ((k0 + 1) + 2) + (k1 + 1) * ((k0 + 1) + 2))))) | _ => none)
  | 12 => (match (bif eqIt [some 0] it then some (.val (.int .i64 (Int.ofNat ((0 + 1) + 2)))) else none : Option VH), it with | some v, _ => some v | none, [some (k0 + 1)] => some (.val (.int .i64 (Int.ofNat (((k0 + 1) + 1) + 2)))) | _, _ => none)
  | 14 => (match it with | [some (k0 + 1)] => some .ask | _ => none)
  | 200015 => (match it with | [some (k0 + 1)] => some .ask | _ => none)
  | 18 => (match it with | [some (k0 + 1)] => some (.val (.int .u64 (Int.ofNat ((k0 + 1) + 2)))) | _ => none)
  | 20 => (match it with | [some (k0 + 1)] => some (.op (.sl 3 0 0 ((svO (k0 + 1)).length + 1) 1 none) [(⟨(.flat (bl410 (svM (k0 + 1)))), .own, true⟩ : Blk), ⟨.junk, .dead, true⟩, ⟨(.nums .u64 [(Int.ofNat ((k0 + 1) + 2))]), .own, false⟩, ⟨(.nums .u64 ((svO (k0 + 1)) ++ [(Int.ofNat ((k0 + 1) + 2))])), .grow, false⟩] ⟨[], [1], true, false⟩) | _ => none)
  | 23 => (match it with | [some (k0 + 1)] => some (.val (.int .i64 (Int.ofNat (((k0 + 1) + 2) * ((k0 + 1) + 2))))) | _ => none)
  | _ => none, fun it id => match id, it with
  | 0, [] => some ⟨(R + 1), true, true, fun kk => match kk with | 0 => x_pr0 n | kk + 1 => x_pr n (svM (kk + 1)) (svO (kk + 1)) (svO (kk + 1)).length ((kk + 1) + 2) true⟩
  | 1, [some k] => some ⟨(cnt (k + 2)), true, false, fun kk => x_in n (marks (svM k) (k + 2) kk) (svO k ++ [Int.ofNat (k + 2)]) ((svO k).length + 1) (k + 2) ((k + 2) * (k + 2) + kk * (k + 2)) (dq k kk)⟩
  | _, _ => none⟩
def d_primes : Nat → Option (List Nat) := fun n => match n with
  | 0 => some [1, 2, 6, 7, 8, 9, 10, 11, 12, 13, 14, 15, 16, 17, 18, 19, 20, 21, 22, 23, 24, 25, 26, 27, 28, 29, 30, 31]
  | 1 => some [1, 2, 7, 8, 9, 10, 11, 12, 13, 14, 15, 16, 17, 18, 19, 20, 21, 22, 23, 24, 25, 26, 27, 28, 29, 30, 31]
  | _ => none
theorem run_primes (n R : Nat) : specW Try.prog d_primes (cH3 Try.prog) (h_primes n R) 1000 57 [(.int .i64 (Int.ofNat n))] [] (fun v M => v = (.sl 0 0 0 (svO (R + 1)).length 1 none) ∧ M = [⟨.nums .u64 (svO (R + 1)), .grow, false⟩]) =
  (psem (forget (cH3 Try.prog)) (.alloc (.flat (List.replicate 410 (.bool false)))) [] [] = some ((.ptr 0 0), [(⟨(.flat (bl410 0)), .own, false⟩ : Blk)], ⟨[], [], true, true⟩) ∧ (bif Nat.blt (R + 1) 1000 then (x_pr0 n = x_pr0 n ∧ ((0 < (R + 1) → ((AV.bool (decide ((0 : Int) < (Int.ofNat n)))) = (AV.bool true) ∧ psem (forget (cH3 Try.prog)) (.load none) [(.ptr 0 2)] [(⟨(.flat (bl410 0)), .own, false⟩ : Blk)] = some ((.bool false), [(⟨(.flat (bl410 0)), .own, false⟩ : Blk)], ⟨[0], [], false, false⟩) ∧ (bif Nat.blt (cnt (0 + 2)) 1000 then (x_in n 0 [2] 1 2 4 false = x_in n (marks (svM 0) (0 + 2) 0) (svO 0 ++ [Int.ofNat (0 + 2)]) ((svO 0).length + 1) (0 + 2) ((0 + 2) * (0 + 2) + 0 * (0 + 2)) (dq 0 0) ∧ (∀ k1, k1 < (cnt (0 + 2)) → ((AV.bool (decide ((Int.ofNat ((0 + 2) * (0 + 2) + k1 * (0 + 2))) < 410))) = (AV.bool true) ∧ (inR (Int.ofNat ((0 + 2) * (0 + 2) + k1 * (0 + 2))) 410 = some ((0 + 2) * (0 + 2) + k1 * (0 + 2))) ∧ psem (forget (cH3 Try.prog)) (.store 1) [(.ptr 0 (0 + ((0 + 2) * (0 + 2) + k1 * (0 + 2)) * 1)), (.bool true)] [(⟨(.flat (bl410 (marks (svM 0) (0 + 2) k1))), .own, (dq 0 k1)⟩ : Blk), ⟨(.nums .u64 (svO 0 ++ [Int.ofNat (0 + 2)])), .grow, false⟩] = some ((.tup []), [(⟨(.flat (bl410 (marks (svM 0) (0 + 2) (k1 + 1)))), .own, true⟩ : Blk), ⟨(.nums .u64 (svO 0 ++ [Int.ofNat (0 + 2)])), .grow, false⟩], ⟨[], [0], true, false⟩) ∧ (AV.int .i64 (IntKind.i64.wrap ((Int.ofNat ((0 + 2) * (0 + 2) + k1 * (0 + 2))) + (Int.ofNat (0 + 2))))) = (AV.int .i64 (Int.ofNat ((0 + 2) * (0 + 2) + (k1 + 1) * (0 + 2)))) ∧ x_in n (marks (svM 0) (0 + 2) (k1 + 1)) (svO 0 ++ [Int.ofNat (0 + 2)]) ((svO 0).length + 1) (0 + 2) ((0 + 2) * (0 + 2) + (k1 + 1) * (0 + 2)) true = x_in n (marks (svM 0) (0 + 2) (k1 + 1)) (svO 0 ++ [Int.ofNat (0 + 2)]) ((svO 0).length + 1) (0 + 2) ((0 + 2) * (0 + 2) + (k1 + 1) * (0 + 2)) (dq 0 (k1 + 1)))) ∧ (AV.bool (decide ((Int.ofNat ((0 + 2) * (0 + 2) + (cnt (0 + 2)) * (0 + 2))) < 410))) = (AV.bool false) ∧ (AV.int .i64 (IntKind.i64.wrap ((Int.ofNat (0 + 2)) + (1 : Int)))) = (AV.int .i64 (Int.ofNat ((0 + 1) + 2))) ∧ x_pr n (marks (svM 0) (0 + 2) (cnt (0 + 2))) (svO 0 ++ [Int.ofNat (0 + 2)]) ((svO 0).length + 1) ((0 + 1) + 2) (dq 0 (cnt (0 + 2))) = x_pr n (svM 1) (svO 1) (svO 1).length (1 + 2) true) else False))) ∧ (∀ k0, k0 + 1 < (R + 1) → ((AV.bool (decide ((Int.ofNat (svO (k0 + 1)).length) < (Int.ofNat n)))) = (AV.bool true) ∧ (inR (Int.ofNat ((k0 + 1) + 2)) 410 = some ((k0 + 1) + 2)) ∧ psem (forget (cH3 Try.prog)) (.load none) [(.ptr 0 (0 + ((k0 + 1) + 2) * 1))] [(⟨(.flat (bl410 (svM (k0 + 1)))), .own, true⟩ : Blk), ⟨(.nums .u64 (svO (k0 + 1))), .grow, false⟩] = some ((.bool (Nat.testBit (svM (k0 + 1)) ((k0 + 1) + 2))), [(⟨(.flat (bl410 (svM (k0 + 1)))), .own, true⟩ : Blk), ⟨(.nums .u64 (svO (k0 + 1))), .grow, false⟩], ⟨[0], [], false, false⟩) ∧ (((Nat.testBit (svM (k0 + 1)) ((k0 + 1) + 2)) = true → ((AV.int .i64 (IntKind.i64.wrap ((Int.ofNat ((k0 + 1) + 2)) + (1 : Int)))) = (AV.int .i64 (Int.ofNat (((k0 + 1) + 1) + 2))) ∧ x_pr n (svM (k0 + 1)) (svO (k0 + 1)) (svO (k0 + 1)).length (((k0 + 1) + 1) + 2) true = x_pr n (svM ((k0 + 1) + 1)) (svO ((k0 + 1) + 1)) (svO ((k0 + 1) + 1)).length (((k0 + 1) + 1) + 2) true)) ∧ ((Nat.testBit (svM (k0 + 1)) ((k0 + 1) + 2)) = false → ((AV.int .u64 (IntKind.u64.wrap (Int.ofNat ((k0 + 1) + 2)))) = (AV.int .u64 (Int.ofNat ((k0 + 1) + 2))) ∧ psem (forget (cH3 Try.prog)) (.append 1 8) [(.sl 1 0 0 (svO (k0 + 1)).length 1 none), (.sl 2 0 0 1 1 none)] [(⟨(.flat (bl410 (svM (k0 + 1)))), .own, true⟩ : Blk), ⟨(.nums .u64 (svO (k0 + 1))), .grow, false⟩, ⟨(.nums .u64 [(Int.ofNat ((k0 + 1) + 2))]), .own, false⟩] = some ((.sl 3 0 0 ((svO (k0 + 1)).length + 1) 1 none), [(⟨(.flat (bl410 (svM (k0 + 1)))), .own, true⟩ : Blk), ⟨.junk, .dead, true⟩, ⟨(.nums .u64 [(Int.ofNat ((k0 + 1) + 2))]), .own, false⟩, ⟨(.nums .u64 ((svO (k0 + 1)) ++ [(Int.ofNat ((k0 + 1) + 2))])), .grow, false⟩], ⟨[], [1], true, false⟩) ∧ (AV.int .i64 (IntKind.i64.wrap ((Int.ofNat ((k0 + 1) + 2)) * (Int.ofNat ((k0 + 1) + 2))))) = (AV.int .i64 (Int.ofNat (((k0 + 1) + 2) * ((k0 + 1) + 2)))) ∧ (bif Nat.blt (cnt ((k0 + 1) + 2)) 1000 then (x_in n (svM (k0 + 1)) ((svO (k0 + 1)) ++ [(Int.ofNat ((k0 + 1) + 2))]) ((svO (k0 + 1)).length + 1) ((k0 + 1) + 2) (((k0 + 1) + 2) * ((k0 + 1) + 2)) true = x_in n (marks (svM (k0 + 1)) ((k0 + 1) + 2) 0) (svO (k0 + 1) ++ [Int.ofNat ((k0 + 1) + 2)]) ((svO (k0 + 1)).length + 1) ((k0 + 1) + 2) (((k0 + 1) + 2) * ((k0 + 1) + 2) + 0 * ((k0 + 1) + 2)) (dq (k0 + 1) 0) ∧ (∀ k1, k1 < (cnt ((k0 + 1) + 2)) → ((AV.bool (decide ((Int.ofNat (((k0 + 1) + 2) * ((k0 + 1) + 2) + k1 * ((k0 + 1) + 2))) < 410))) = (AV.bool true) ∧ (inR (Int.ofNat (((k0 + 1) + 2) * ((k0 + 1) + 2) + k1 * ((k0 + 1) + 2))) 410 = some (((k0 + 1) + 2) * ((k0 + 1) + 2) + k1 * ((k0 + 1) + 2))) ∧ psem (forget (cH3 Try.prog)) (.store 1) [(.ptr 0 (0 + (((k0 + 1) + 2) * ((k0 + 1) + 2) + k1 * ((k0 + 1) + 2)) * 1)), (.bool true)] [(⟨(.flat (bl410 (marks (svM (k0 + 1)) ((k0 + 1) + 2) k1))), .own, (dq (k0 + 1) k1)⟩ : Blk), ⟨(.nums .u64 (svO (k0 + 1) ++ [Int.ofNat ((k0 + 1) + 2)])), .grow, false⟩] = some ((.tup []), [(⟨(.flat (bl410 (marks (svM (k0 + 1)) ((k0 + 1) + 2) (k1 + 1)))), .own, true⟩ : Blk), ⟨(.nums .u64 (svO (k0 + 1) ++ [Int.ofNat ((k0 + 1) + 2)])), .grow, false⟩], ⟨[], [0], true, false⟩) ∧ (AV.int .i64 (IntKind.i64.wrap ((Int.ofNat (((k0 + 1) + 2) * ((k0 + 1) + 2) + k1 * ((k0 + 1) + 2))) + (Int.ofNat ((k0 + 1) + 2))))) = (AV.int .i64 (Int.ofNat (((k0 + 1) + 2) * ((k0 + 1) + 2) + (k1 + 1) * ((k0 + 1) + 2)))) ∧ x_in n (marks (svM (k0 + 1)) ((k0 + 1) + 2) (k1 + 1)) (svO (k0 + 1) ++ [Int.ofNat ((k0 + 1) + 2)]) ((svO (k0 + 1)).length + 1) ((k0 + 1) + 2) (((k0 + 1) + 2) * ((k0 + 1) + 2) + (k1 + 1) * ((k0 + 1) + 2)) true = x_in n (marks (svM (k0 + 1)) ((k0 + 1) + 2) (k1 + 1)) (svO (k0 + 1) ++ [Int.ofNat ((k0 + 1) + 2)]) ((svO (k0 + 1)).length + 1) ((k0 + 1) + 2) (((k0 + 1) + 2) * ((k0 + 1) + 2) + (k1 + 1) * ((k0 + 1) + 2)) (dq (k0 + 1) (k1 + 1)))) ∧ (AV.bool (decide ((Int.ofNat (((k0 + 1) + 2) * ((k0 + 1) + 2) + (cnt ((k0 + 1) + 2)) * ((k0 + 1) + 2))) < 410))) = (AV.bool false) ∧ (AV.int .i64 (IntKind.i64.wrap ((Int.ofNat ((k0 + 1) + 2)) + (1 : Int)))) = (AV.int .i64 (Int.ofNat (((k0 + 1) + 1) + 2))) ∧ x_pr n (marks (svM (k0 + 1)) ((k0 + 1) + 2) (cnt ((k0 + 1) + 2))) (svO (k0 + 1) ++ [Int.ofNat ((k0 + 1) + 2)]) ((svO (k0 + 1)).length + 1) (((k0 + 1) + 1) + 2) (dq (k0 + 1) (cnt ((k0 + 1) + 2))) = x_pr n (svM ((k0 + 1) + 1)) (svO ((k0 + 1) + 1)) (svO ((k0 + 1) + 1)).length (((k0 + 1) + 1) + 2) true) else False))))))) ∧ (AV.bool (decide ((Int.ofNat (svO (R + 1)).length) < (Int.ofNat n)))) = (AV.bool false) ∧ ((AV.sl 0 0 0 (svO (R + 1)).length 1 none) = (AV.sl 0 0 0 (svO (R + 1)).length 1 none) ∧ ([(⟨(.nums .u64 (svO (R + 1))), .grow, false⟩ : Blk)] : Mem) = [⟨.nums .u64 (svO (R + 1)), .grow, false⟩])) else False)) := by kernel_rfl
theorem al0 : psem (forget (cH3 Try.prog)) (.alloc (.flat (List.replicate 410 (.bool false)))) [] [] = some (.ptr 0 0, [⟨.flat (bl410 0), .own, false⟩], ⟨[], [], true, true⟩) := by kernel_rfl
theorem primes_ok {n R : Nat} (hR : R ≤ 407) (hn : ∀ k, k < R + 1 → (svO k).length < n) (hN : (svO (R + 1)).length = n) : ∃ D H N, specW Try.prog D (cH3 Try.prog) H N 57 [(.int .i64 (Int.ofNat n))] [] fun v M => v = (.sl 0 0 0 (svO (R + 1)).length 1 none) ∧ M = [⟨.nums .u64 (svO (R + 1)), .grow, false⟩] := by
  refine ⟨d_primes, _, 1000, Eq.mpr (run_primes n R) ⟨al0, (bifT (by first | exact cnt_N (by omega) | exact blt_ok (by omega)) ⟨?_, ⟨fun _ => ⟨(aB (lt_ok (by have := hn 0 (by omega); exact this))), (ld_bl (o := 2) (m := 0) rfl rfl (by decide)), (bifT (by first | exact cnt_N (by omega) | exact blt_ok (by omega)) ⟨?_, fun k1 hk1 => ⟨(aB (lt_ok (cnt_lt (by omega) hk1).1)), (inR_ok (by first | omega | (have := cnt_lt (by omega) hk1; omega))), (st_bl rfl (by omega) (cnt_lt (by omega) hk1).1), (aI (add_i in_add (in_small (by omega) hk1))), ?_⟩, (aB (lt_no (cnt_end (by omega)))), (aI (inc_i (by omega) (by omega))), ?_⟩)⟩, fun k0 hk0 => ⟨(aB (lt_ok (hn _ hk0))), (inR_ok (by first | omega | (have := cnt_lt (by omega) hk1; omega))), (ld_bl rfl (by omega) (by omega)), ⟨fun hb => ⟨(aI (inc_i (by omega) (by omega))), ?_⟩, fun hb => ⟨(aI (cv_u (by omega))), (app_grow (n := 1) rfl rfl rfl (src_nums (off := 0) (n := 1) (l := [Int.ofNat ((k0 + 1) + 2)]) rfl (Nat.le_refl 1)) (by have := svO_le (k0 + 1); omega)), (aI (mul_i (by omega))), (bifT (by first | exact cnt_N (by omega) | exact blt_ok (by omega)) ⟨?_, fun k1 hk1 => ⟨(aB (lt_ok (cnt_lt (by omega) hk1).1)), (inR_ok (by first | omega | (have := cnt_lt (by omega) hk1; omega))), (st_bl rfl (by omega) (cnt_lt (by omega) hk1).1), (aI (add_i in_add (in_small (by omega) hk1))), ?_⟩, (aB (lt_no (cnt_end (by omega)))), (aI (inc_i (by omega) (by omega))), ?_⟩)⟩⟩⟩⟩, (aB (lt_no (by omega))), ⟨rfl, rfl⟩⟩)⟩⟩
  · rfl
  · rfl
  · rfl
  · rw [show svM 1 = marks (svM 0) (0 + 2) (cnt (0 + 2)) from svM_f rfl, show svO 1 = svO 0 ++ [Int.ofNat (0 + 2)] from svO_f rfl]; rfl
  · rw [svM_t hb, svO_t hb]
  · rw [Nat.zero_mul]; rfl
  · rfl
  · rw [svM_f hb, svO_f hb, List.length_append]; rfl
end Go.Proofs.Ytkeieikhmaeiiaa
