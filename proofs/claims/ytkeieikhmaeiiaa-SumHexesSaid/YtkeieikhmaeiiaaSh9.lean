/- Sums of no part, of one. No condition. -/
import Derived.Test.YtkeieikhmaeiiaaSh8
namespace Go.Proofs.Ytkeieikhmaeiiaa
open Go Go.RowKit
set_option linter.unusedVariables false
set_option linter.unusedSimpArgs false
theorem sl_eq {i a a' b b' c c' e : Nat} {l : Option Nat} (h1 : a = a') (h2 : b = b') (h3 : c = c') : AV.sl i a b c e l = AV.sl i a' b' c' e l := by rw [h1, h2, h3]
/-- How many blocks. -/
def nb64 (n : Nat) : Nat := (n + 1 + zn64 (n + 1) + 8) / 64
theorem nb64_eq (n : Nat) : n + 1 + zn64 (n + 1) + 8 = 64 * nb64 n := by
  have h := zn64_end (n + 1)
  unfold nb64
  omega
theorem nb64_lt {n : Nat} (h : n ≤ 1000001) : nb64 n < 20000 := by
  have h1 := nb64_eq n
  have h2 := zn64_64 (n + 1)
  omega
/-- How many blocks. -/
def nb128 (n : Nat) : Nat := (n + 1 + zn128 (n + 1) + 16) / 128
theorem nb128_eq (n : Nat) : n + 1 + zn128 (n + 1) + 16 = 128 * nb128 n := by
  have h := zn128_end (n + 1)
  unfold nb128
  omega
theorem nb128_lt {n : Nat} (h : n ≤ 1000001) : nb128 n < 20000 := by
  have h1 := nb128_eq n
  have h2 := zn128_128 (n + 1)
  omega
def iv32 : List Int := [1779033703, 3144134277, 1013904242, 2773480762, 1359893119, 2600822924, 528734635, 1541459225]
def sv32_V (B : List Int) : Nat → List Int
  | 0 => iv32
  | k + 1 => mix32 (sv32_V B k) B (64 * k) tl10
theorem mix32_len {v B K : List Int} {o : Nat} (h : v.length = 8) : (mix32 v B o K).length = 8 := by
  unfold mix32; rw [mf32_len, mr32_len _ _ h]
theorem sv32_len (B : List Int) : ∀ k, (sv32_V B k).length = 8
  | 0 => rfl
  | k + 1 => mix32_len (sv32_len B k)
theorem tl10_len : tl10.length = 64 := rfl
def so32_X (V : List Int) : Nat → List Int
  | 0 => List.replicate 32 0
  | k + 1 => (so32_X V k).set (0 + k * 1) (IntKind.u8.wrap (Int.fdiv (V.getD (0 + (k / 4) * 1) 0) (2 ^ (Nat.min (8 * (3 - (k % 4))) 32))))
theorem so32_len (V : List Int) : ∀ k, (so32_X V k).length = 32
  | 0 => by simp only [so32_X, List.length_replicate]
  | k + 1 => by
    show ((so32_X V k).set _ _).length = _
    rw [List.length_set, so32_len V k]
/-- The sum of n bytes. -/
def sum64 (B : List Int) (n : Nat) : List Int := so32_X (sv32_V (pad64 B n) (nb64 n)) 32
def y_s64A  (V : List Int) (oo : Nat) (b : Nat) (l : Nat) (d : Nat) : St := ⟨(.junk :: (.junk :: ((.ptr 0 0) :: ((.sl 1 0 0 64 1 none) :: ((.ptr 2 0) :: (.junk :: (.junk :: ((.sl 3 oo b l 1 none) :: (jk 44 []))))))))), [⟨(.nums .u8 (List.replicate 32 0)), .own, false⟩, ⟨(.nums .u64 tl10), .grow, true⟩, ⟨(.nums .u32 V), .own, true⟩, ⟨(.nums .u8 (pad64 ([] : List Int) 0)), .grow, false⟩]⟩
def z_s64A  (X : List Int) (i : Nat) (d : Bool) : St := ⟨(.junk :: (.junk :: ((.ptr 0 0) :: (.junk :: ((.ptr 1 0) :: (jk 3 ((.ptr 2 0) :: (jk 26 ((.int .i64 (Int.ofNat i)) :: (jk 16 [])))))))))), [⟨(.nums .u8 (List.replicate 32 0)), .own, false⟩, ⟨(.nums .u32 (sv32_V (pad64 ([] : List Int) 0) (nb64 0))), .own, true⟩, ⟨(.nums .u8 X), .own, d⟩]⟩
def h_s64A : Hints := ⟨fun it t => match t with
  | 25 => bif eqIt [] it then some (.val (.sl 4 0 0 (64 * (nb64 0)) 1 none)) else none
  | 28 => (match (bif eqIt [none] it then some (.val (.bool false)) else none : Option VH), it with | some v, _ => some v | none, [some k0] => some (.val (.bool true)) | _, _ => none)
  | 32 => (match it with | [some k0] => some .ask | _ => none)
  | 30 => (match it with | [some k0] => some (.askv (.sl 3 (64 * (k0 + 1)) (64 * ((k0 + 1) - 1)) (64 * ((nb64 0) - (k0 + 1))) 1 none)) | _ => none)
  | 36 => (match it with | [some k0] => some (.val (.bool true)) | _ => none)
  | 40 => (match it with | [some k0] => some (.val (.int .i64 (Int.ofNat (k0 / 4)))) | _ => none)
  | 41 => (match it with | [some k0] => some .ask | _ => none)
  | 42 => (match it with | [some k0] => some .ask | _ => none)
  | 44 => (match it with | [some k0] => some (.val (.int .i64 (Int.ofNat (k0 % 4)))) | _ => none)
  | 45 => (match it with | [some k0] => some (.val (.int .i64 (Int.ofNat (3 - (k0 % 4))))) | _ => none)
  | 46 => (match it with | [some k0] => some (.val (.int .i64 (Int.ofNat (8 * (3 - (k0 % 4)))))) | _ => none)
  | 49 => (match it with | [some k0] => some .ask | _ => none)
  | 100049 => (match it with | [some k0] => some .ask | _ => none)
  | 50 => (match it with | [some k0] => some (.val (.int .i64 (Int.ofNat (k0 + 1)))) | _ => none)
  | 51 => bif eqIt [] it then some .ask else none
  | 100002 => bif eqIt [] it then some .ask else none
  | _ => none, fun it id => match id, it with
  | 1, [] => some ⟨(nb64 0), true, false, fun kk => y_s64A  (sv32_V (pad64 ([] : List Int) 0) kk) (64 * kk) (64 * (kk - 1)) (64 * ((nb64 0) - kk)) 0⟩
  | 2, [] => some ⟨32, true, false, fun kk => z_s64A  (so32_X (sv32_V (pad64 ([] : List Int) 0) (nb64 0)) kk) kk (dj false kk)⟩
  | _, _ => none⟩
def d_s64A : Nat → Option (List Nat) := fun n => match n with
  | 2 => some [0, 1, 3, 5, 6, 7, 9, 10, 11, 12, 13, 14, 15, 16, 17, 18, 19, 20, 21, 22, 23, 24, 25, 26, 27, 28, 29, 30, 31, 32, 33, 34, 36, 37, 38, 39, 40, 41, 42, 43, 44, 45, 46, 47, 48, 49, 50, 51]
  | 1 => some [0, 1, 5, 6, 8, 9, 10, 11, 12, 13, 14, 15, 16, 17, 18, 19, 20, 21, 22, 23, 24, 25, 26, 27, 28, 29, 30, 31, 32, 33, 34, 35, 36, 37, 38, 39, 40, 41, 42, 43, 44, 45, 46, 47, 48, 49, 50, 51]
  | 0 => some [1, 5, 6, 7, 8, 9, 10, 14, 15, 16, 17, 18, 19, 20, 21, 22, 23, 24, 25, 26, 27, 28, 29, 30, 31, 32, 33, 34, 35, 36, 37, 38, 39, 40, 41, 42, 43, 44, 45, 46, 47, 48, 49, 50, 51]
  | _ => none
set_option maxHeartbeats 4000000 in
set_option maxRecDepth 100000 in
theorem run_s64A  : specW Try.prog d_s64A (cH10 Try.prog) (h_s64A) 30000 23 [.nilsl] [] (fun v M => v = (.nums .u8 (sum64 ([] : List Int) 0)) ∧ M = []) =
  ((AV.sl 4 0 0 (0 + 1 + zn64 (0 + 1) + 8) 1 none) = (AV.sl 4 0 0 (64 * (nb64 0)) 1 none) ∧ (bif Nat.blt (nb64 0) 30000 then (y_s64A  [1779033703, 3144134277, 1013904242, 2773480762, 1359893119, 2600822924, 528734635, 1541459225] 0 0 (64 * (nb64 0)) 0 = y_s64A  (sv32_V (pad64 ([] : List Int) 0) 0) (64 * 0) (64 * (0 - 1)) (64 * ((nb64 0) - 0)) 0 ∧ (∀ k0, k0 < (nb64 0) → ((AV.bool (decide ((Int.ofNat (64 * ((nb64 0) - k0))) > 0))) = (AV.bool true) ∧ (1 = 1 ∧ inB (64 : Int) (64 * ((nb64 0) - k0)) = some 64) ∧ (64 = 64 ∧ 64 = 64 ∧ (sv32_V (pad64 ([] : List Int) 0) k0).length = 8 ∧ (64 * k0) + 64 ≤ (pad64 ([] : List Int) 0).length ∧ tl10.length = 64) ∧ (1 = 1 ∧ inB (64 : Int) (64 * ((nb64 0) - k0)) = some 64) ∧ (AV.sl 3 ((64 * k0) + 64 * 1) (bif Nat.beq 64 0 then (64 * (k0 - 1)) else (64 * k0)) ((64 * ((nb64 0) - k0)) - 64) 1 none) = (AV.sl 3 (64 * (k0 + 1)) (64 * ((k0 + 1) - 1)) (64 * ((nb64 0) - (k0 + 1))) 1 none) ∧ y_s64A  (mix32 (sv32_V (pad64 ([] : List Int) 0) k0) (pad64 ([] : List Int) 0) (64 * k0) tl10) (64 * (k0 + 1)) (64 * ((k0 + 1) - 1)) (64 * ((nb64 0) - (k0 + 1))) 0 = y_s64A  (sv32_V (pad64 ([] : List Int) 0) (k0 + 1)) (64 * (k0 + 1)) (64 * ((k0 + 1) - 1)) (64 * ((nb64 0) - (k0 + 1))) 0)) ∧ (AV.bool (decide ((Int.ofNat (64 * ((nb64 0) - (nb64 0)))) > 0))) = (AV.bool false) ∧ z_s64A  (List.replicate 32 0) 0 false = z_s64A  (so32_X (sv32_V (pad64 ([] : List Int) 0) (nb64 0)) 0) 0 (dj false 0) ∧ (∀ k0, k0 < 32 → ((AV.bool (decide ((Int.ofNat k0) < 32))) = (AV.bool true) ∧ (AV.int .i64 (IntKind.i64.wrap (Int.tdiv (Int.ofNat k0) 4))) = (AV.int .i64 (Int.ofNat (k0 / 4))) ∧ (inR (Int.ofNat (k0 / 4)) 8 = some (k0 / 4)) ∧ ((0 + (k0 / 4) * 1) < (sv32_V (pad64 ([] : List Int) 0) (nb64 0)).length) ∧ (AV.int .i64 (Int.tmod (Int.ofNat k0) 4)) = (AV.int .i64 (Int.ofNat (k0 % 4))) ∧ (AV.int .i64 (IntKind.i64.wrap ((3 : Int) - (Int.ofNat (k0 % 4))))) = (AV.int .i64 (Int.ofNat (3 - (k0 % 4)))) ∧ (AV.int .i64 (IntKind.i64.wrap ((8 : Int) * (Int.ofNat (3 - (k0 % 4)))))) = (AV.int .i64 (Int.ofNat (8 * (3 - (k0 % 4))))) ∧ (inR (Int.ofNat k0) 32 = some k0) ∧ (IntKind.u8 = IntKind.u8 ∧ 1 = 1 ∧ (0 + k0 * 1) < (so32_X (sv32_V (pad64 ([] : List Int) 0) (nb64 0)) k0).length) ∧ (AV.int .i64 (IntKind.i64.wrap ((Int.ofNat k0) + (1 : Int)))) = (AV.int .i64 (Int.ofNat (k0 + 1))) ∧ z_s64A  ((so32_X (sv32_V (pad64 ([] : List Int) 0) (nb64 0)) k0).set (0 + k0 * 1) (IntKind.u8.wrap (Int.fdiv ((sv32_V (pad64 ([] : List Int) 0) (nb64 0)).getD (0 + (k0 / 4) * 1) 0) (2 ^ (Nat.min (8 * (3 - (k0 % 4))) 32))))) (k0 + 1) true = z_s64A  (so32_X (sv32_V (pad64 ([] : List Int) 0) (nb64 0)) (k0 + 1)) (k0 + 1) (dj false (k0 + 1)))) ∧ (0 = 0 ∧ (so32_X (sv32_V (pad64 ([] : List Int) 0) (nb64 0)) 32).length = 32) ∧ (IntKind.u8 = IntKind.u8 ∧ 0 = 0 ∧ (so32_X (sv32_V (pad64 ([] : List Int) 0) (nb64 0)) 32).length = 32 ∧ ([0, 0, 0, 0, 0, 0, 0, 0, 0, 0, 0, 0, 0, 0, 0, 0, 0, 0, 0, 0, 0, 0, 0, 0, 0, 0, 0, 0, 0, 0, 0, 0] : List Int).length = 32) ∧ ((AV.nums .u8 (so32_X (sv32_V (pad64 ([] : List Int) 0) (nb64 0)) 32)) = (AV.nums .u8 (sum64 ([] : List Int) 0)) ∧ ([] : Mem) = [])) else False)) := by kernel_rfl
set_option maxHeartbeats 4000000 in
set_option maxRecDepth 100000 in
theorem s64A_ok  : ∃ D H N, specW Try.prog D (cH10 Try.prog) H N 23 [.nilsl] [] fun v M => v = (.nums .u8 (sum64 ([] : List Int) 0)) ∧ M = [] := by
  have hlen : ([] : List Int).length = 0 := rfl
  have hn : 0 ≤ 1000001 := Nat.zero_le _
  exact ⟨d_s64A, _, 30000, Eq.mpr (run_s64A) ⟨(congrArg (fun L => AV.sl 4 0 0 L 1 none) (nb64_eq 0)), (bifT (blt_ok (Nat.lt_trans (nb64_lt hn) (by decide))) ⟨rfl, fun k0 hk0 => ⟨(aB (d_gt (a := (64 * ((nb64 0) - k0))) (b := 0) (by omega))), ⟨rfl, (inB_ok (n := 64) (by omega))⟩, ⟨rfl, rfl, (by first | (simp only [sv32_len, so32_len, tl10_len, pad64_len hlen]; done) | rfl), (by rw [pad64_len hlen, nb64_eq]; omega), (by first | (simp only [sv32_len, so32_len, tl10_len, pad64_len hlen]; done) | rfl)⟩, ⟨rfl, (inB_ok (n := 64) (by omega))⟩, (sl_eq (by omega) rfl (by omega)), rfl⟩, (aB (d_gtn (a := (64 * ((nb64 0) - (nb64 0)))) (b := 0) (by omega))), rfl, fun k0 hk0 => ⟨(aB (d_lt (a := k0) (b := 32) (by omega))), (aI (i_quo (a := k0) (b := 4) (by omega))), (inR_ok (n := (k0 / 4)) (by omega)), (by first | (simp only [sv32_len, so32_len, tl10_len, pad64_len hlen]; omega) | omega), (aI (i_rem (a := k0) (b := 4))), (aI (i_sub (a := 3) (b := (k0 % 4)) (by omega) (by omega))), (aI (i_mul (a := 8) (b := (3 - (k0 % 4))) (by omega))), (inR_ok (n := k0) (by omega)), ⟨rfl, rfl, (by first | (simp only [sv32_len, so32_len, tl10_len, pad64_len hlen]; omega) | omega)⟩, (aI (i_add (a := k0) (b := 1) (c := (k0 + 1)) (by omega) (by omega))), rfl⟩, ⟨rfl, (by first | (simp only [sv32_len, so32_len, tl10_len, pad64_len hlen]; done) | rfl)⟩, ⟨rfl, rfl, (by first | (simp only [sv32_len, so32_len, tl10_len, pad64_len hlen]; done) | rfl), (by first | (simp only [sv32_len, so32_len, tl10_len, pad64_len hlen]; done) | rfl)⟩, ⟨rfl, rfl⟩⟩)⟩⟩
def y_s64B  (V : List Int) (oo : Nat) (b : Nat) (l : Nat) (d : Nat) : St := ⟨(.junk :: (.junk :: ((.ptr 1 0) :: ((.sl 2 0 0 64 1 none) :: ((.ptr 3 0) :: (.junk :: (.junk :: ((.sl 4 oo b l 1 none) :: (jk 44 []))))))))), [⟨(.agg [.nilsl]), .own, false⟩, ⟨(.nums .u8 (List.replicate 32 0)), .own, false⟩, ⟨(.nums .u64 tl10), .grow, true⟩, ⟨(.nums .u32 V), .own, true⟩, ⟨(.nums .u8 (pad64 ([] : List Int) 0)), .grow, false⟩]⟩
def z_s64B  (X : List Int) (i : Nat) (d : Bool) : St := ⟨(.junk :: (.junk :: ((.ptr 1 0) :: (.junk :: ((.ptr 2 0) :: (jk 3 ((.ptr 3 0) :: (jk 26 ((.int .i64 (Int.ofNat i)) :: (jk 16 [])))))))))), [⟨(.agg [.nilsl]), .own, false⟩, ⟨(.nums .u8 (List.replicate 32 0)), .own, false⟩, ⟨(.nums .u32 (sv32_V (pad64 ([] : List Int) 0) (nb64 0))), .own, true⟩, ⟨(.nums .u8 X), .own, d⟩]⟩
def h_s64B : Hints := ⟨fun it t => match t with
  | 25 => bif eqIt [] it then some (.val (.sl 5 0 0 (64 * (nb64 0)) 1 none)) else none
  | 28 => (match (bif eqIt [none] it then some (.val (.bool false)) else none : Option VH), it with | some v, _ => some v | none, [some k0] => some (.val (.bool true)) | _, _ => none)
  | 32 => (match it with | [some k0] => some .ask | _ => none)
  | 30 => (match it with | [some k0] => some (.askv (.sl 4 (64 * (k0 + 1)) (64 * ((k0 + 1) - 1)) (64 * ((nb64 0) - (k0 + 1))) 1 none)) | _ => none)
  | 36 => (match it with | [some k0] => some (.val (.bool true)) | _ => none)
  | 40 => (match it with | [some k0] => some (.val (.int .i64 (Int.ofNat (k0 / 4)))) | _ => none)
  | 41 => (match it with | [some k0] => some .ask | _ => none)
  | 42 => (match it with | [some k0] => some .ask | _ => none)
  | 44 => (match it with | [some k0] => some (.val (.int .i64 (Int.ofNat (k0 % 4)))) | _ => none)
  | 45 => (match it with | [some k0] => some (.val (.int .i64 (Int.ofNat (3 - (k0 % 4))))) | _ => none)
  | 46 => (match it with | [some k0] => some (.val (.int .i64 (Int.ofNat (8 * (3 - (k0 % 4)))))) | _ => none)
  | 49 => (match it with | [some k0] => some .ask | _ => none)
  | 100049 => (match it with | [some k0] => some .ask | _ => none)
  | 50 => (match it with | [some k0] => some (.val (.int .i64 (Int.ofNat (k0 + 1)))) | _ => none)
  | 51 => bif eqIt [] it then some .ask else none
  | 100002 => bif eqIt [] it then some .ask else none
  | _ => none, fun it id => match id, it with
  | 1, [] => some ⟨(nb64 0), true, false, fun kk => y_s64B  (sv32_V (pad64 ([] : List Int) 0) kk) (64 * kk) (64 * (kk - 1)) (64 * ((nb64 0) - kk)) 0⟩
  | 2, [] => some ⟨32, true, false, fun kk => z_s64B  (so32_X (sv32_V (pad64 ([] : List Int) 0) (nb64 0)) kk) kk (dj false kk)⟩
  | _, _ => none⟩
set_option maxHeartbeats 4000000 in
set_option maxRecDepth 100000 in
theorem run_s64B  : specW Try.prog d_s64A (cH10 Try.prog) (h_s64B) 30000 23 [(.sl 0 0 0 1 1 none)] [(⟨(.agg [.nilsl]), .own, false⟩ : Blk)] (fun v M => v = (.nums .u8 (sum64 ([] : List Int) 0)) ∧ M = [(⟨(.agg [.nilsl]), .own, false⟩ : Blk)]) =
  ((AV.sl 5 0 0 (0 + 1 + zn64 (0 + 1) + 8) 1 none) = (AV.sl 5 0 0 (64 * (nb64 0)) 1 none) ∧ (bif Nat.blt (nb64 0) 30000 then (y_s64B  [1779033703, 3144134277, 1013904242, 2773480762, 1359893119, 2600822924, 528734635, 1541459225] 0 0 (64 * (nb64 0)) 0 = y_s64B  (sv32_V (pad64 ([] : List Int) 0) 0) (64 * 0) (64 * (0 - 1)) (64 * ((nb64 0) - 0)) 0 ∧ (∀ k0, k0 < (nb64 0) → ((AV.bool (decide ((Int.ofNat (64 * ((nb64 0) - k0))) > 0))) = (AV.bool true) ∧ (1 = 1 ∧ inB (64 : Int) (64 * ((nb64 0) - k0)) = some 64) ∧ (64 = 64 ∧ 64 = 64 ∧ (sv32_V (pad64 ([] : List Int) 0) k0).length = 8 ∧ (64 * k0) + 64 ≤ (pad64 ([] : List Int) 0).length ∧ tl10.length = 64) ∧ (1 = 1 ∧ inB (64 : Int) (64 * ((nb64 0) - k0)) = some 64) ∧ (AV.sl 4 ((64 * k0) + 64 * 1) (bif Nat.beq 64 0 then (64 * (k0 - 1)) else (64 * k0)) ((64 * ((nb64 0) - k0)) - 64) 1 none) = (AV.sl 4 (64 * (k0 + 1)) (64 * ((k0 + 1) - 1)) (64 * ((nb64 0) - (k0 + 1))) 1 none) ∧ y_s64B  (mix32 (sv32_V (pad64 ([] : List Int) 0) k0) (pad64 ([] : List Int) 0) (64 * k0) tl10) (64 * (k0 + 1)) (64 * ((k0 + 1) - 1)) (64 * ((nb64 0) - (k0 + 1))) 0 = y_s64B  (sv32_V (pad64 ([] : List Int) 0) (k0 + 1)) (64 * (k0 + 1)) (64 * ((k0 + 1) - 1)) (64 * ((nb64 0) - (k0 + 1))) 0)) ∧ (AV.bool (decide ((Int.ofNat (64 * ((nb64 0) - (nb64 0)))) > 0))) = (AV.bool false) ∧ z_s64B  (List.replicate 32 0) 0 false = z_s64B  (so32_X (sv32_V (pad64 ([] : List Int) 0) (nb64 0)) 0) 0 (dj false 0) ∧ (∀ k0, k0 < 32 → ((AV.bool (decide ((Int.ofNat k0) < 32))) = (AV.bool true) ∧ (AV.int .i64 (IntKind.i64.wrap (Int.tdiv (Int.ofNat k0) 4))) = (AV.int .i64 (Int.ofNat (k0 / 4))) ∧ (inR (Int.ofNat (k0 / 4)) 8 = some (k0 / 4)) ∧ ((0 + (k0 / 4) * 1) < (sv32_V (pad64 ([] : List Int) 0) (nb64 0)).length) ∧ (AV.int .i64 (Int.tmod (Int.ofNat k0) 4)) = (AV.int .i64 (Int.ofNat (k0 % 4))) ∧ (AV.int .i64 (IntKind.i64.wrap ((3 : Int) - (Int.ofNat (k0 % 4))))) = (AV.int .i64 (Int.ofNat (3 - (k0 % 4)))) ∧ (AV.int .i64 (IntKind.i64.wrap ((8 : Int) * (Int.ofNat (3 - (k0 % 4)))))) = (AV.int .i64 (Int.ofNat (8 * (3 - (k0 % 4))))) ∧ (inR (Int.ofNat k0) 32 = some k0) ∧ (IntKind.u8 = IntKind.u8 ∧ 1 = 1 ∧ (0 + k0 * 1) < (so32_X (sv32_V (pad64 ([] : List Int) 0) (nb64 0)) k0).length) ∧ (AV.int .i64 (IntKind.i64.wrap ((Int.ofNat k0) + (1 : Int)))) = (AV.int .i64 (Int.ofNat (k0 + 1))) ∧ z_s64B  ((so32_X (sv32_V (pad64 ([] : List Int) 0) (nb64 0)) k0).set (0 + k0 * 1) (IntKind.u8.wrap (Int.fdiv ((sv32_V (pad64 ([] : List Int) 0) (nb64 0)).getD (0 + (k0 / 4) * 1) 0) (2 ^ (Nat.min (8 * (3 - (k0 % 4))) 32))))) (k0 + 1) true = z_s64B  (so32_X (sv32_V (pad64 ([] : List Int) 0) (nb64 0)) (k0 + 1)) (k0 + 1) (dj false (k0 + 1)))) ∧ (0 = 0 ∧ (so32_X (sv32_V (pad64 ([] : List Int) 0) (nb64 0)) 32).length = 32) ∧ (IntKind.u8 = IntKind.u8 ∧ 0 = 0 ∧ (so32_X (sv32_V (pad64 ([] : List Int) 0) (nb64 0)) 32).length = 32 ∧ ([0, 0, 0, 0, 0, 0, 0, 0, 0, 0, 0, 0, 0, 0, 0, 0, 0, 0, 0, 0, 0, 0, 0, 0, 0, 0, 0, 0, 0, 0, 0, 0] : List Int).length = 32) ∧ ((AV.nums .u8 (so32_X (sv32_V (pad64 ([] : List Int) 0) (nb64 0)) 32)) = (AV.nums .u8 (sum64 ([] : List Int) 0)) ∧ ([(⟨(.agg [.nilsl]), .own, false⟩ : Blk)] : Mem) = [(⟨(.agg [.nilsl]), .own, false⟩ : Blk)])) else False)) := by kernel_rfl
set_option maxHeartbeats 4000000 in
set_option maxRecDepth 100000 in
theorem s64B_ok  : ∃ D H N, specW Try.prog D (cH10 Try.prog) H N 23 [(.sl 0 0 0 1 1 none)] [(⟨(.agg [.nilsl]), .own, false⟩ : Blk)] fun v M => v = (.nums .u8 (sum64 ([] : List Int) 0)) ∧ M = [(⟨(.agg [.nilsl]), .own, false⟩ : Blk)] := by
  have hlen : ([] : List Int).length = 0 := rfl
  have hn : 0 ≤ 1000001 := Nat.zero_le _
  exact ⟨d_s64A, _, 30000, Eq.mpr (run_s64B) ⟨(congrArg (fun L => AV.sl 5 0 0 L 1 none) (nb64_eq 0)), (bifT (blt_ok (Nat.lt_trans (nb64_lt hn) (by decide))) ⟨rfl, fun k0 hk0 => ⟨(aB (d_gt (a := (64 * ((nb64 0) - k0))) (b := 0) (by omega))), ⟨rfl, (inB_ok (n := 64) (by omega))⟩, ⟨rfl, rfl, (by first | (simp only [sv32_len, so32_len, tl10_len, pad64_len hlen]; done) | rfl), (by rw [pad64_len hlen, nb64_eq]; omega), (by first | (simp only [sv32_len, so32_len, tl10_len, pad64_len hlen]; done) | rfl)⟩, ⟨rfl, (inB_ok (n := 64) (by omega))⟩, (sl_eq (by omega) rfl (by omega)), rfl⟩, (aB (d_gtn (a := (64 * ((nb64 0) - (nb64 0)))) (b := 0) (by omega))), rfl, fun k0 hk0 => ⟨(aB (d_lt (a := k0) (b := 32) (by omega))), (aI (i_quo (a := k0) (b := 4) (by omega))), (inR_ok (n := (k0 / 4)) (by omega)), (by first | (simp only [sv32_len, so32_len, tl10_len, pad64_len hlen]; omega) | omega), (aI (i_rem (a := k0) (b := 4))), (aI (i_sub (a := 3) (b := (k0 % 4)) (by omega) (by omega))), (aI (i_mul (a := 8) (b := (3 - (k0 % 4))) (by omega))), (inR_ok (n := k0) (by omega)), ⟨rfl, rfl, (by first | (simp only [sv32_len, so32_len, tl10_len, pad64_len hlen]; omega) | omega)⟩, (aI (i_add (a := k0) (b := 1) (c := (k0 + 1)) (by omega) (by omega))), rfl⟩, ⟨rfl, (by first | (simp only [sv32_len, so32_len, tl10_len, pad64_len hlen]; done) | rfl)⟩, ⟨rfl, rfl, (by first | (simp only [sv32_len, so32_len, tl10_len, pad64_len hlen]; done) | rfl), (by first | (simp only [sv32_len, so32_len, tl10_len, pad64_len hlen]; done) | rfl)⟩, ⟨rfl, rfl⟩⟩)⟩⟩
def y_s64r (off bs n o : Nat) (lm : Option Nat) (B : List Int) (V : List Int) (oo : Nat) (b : Nat) (l : Nat) (d : Nat) : St := ⟨(.junk :: (.junk :: ((.ptr 2 0) :: ((.sl 3 0 0 64 1 none) :: ((.ptr 4 0) :: (.junk :: (.junk :: ((.sl 5 oo b l 1 none) :: (jk 44 []))))))))), [⟨(.agg [(.sl 1 off bs n 1 lm)]), .own, false⟩, ⟨(.at o (.nums .u8 B)), .ro, false⟩, ⟨(.nums .u8 (List.replicate 32 0)), .own, false⟩, ⟨(.nums .u64 tl10), .grow, true⟩, ⟨(.nums .u32 V), .own, true⟩, ⟨(.nums .u8 (pad64 (seg B (off - o) n) n)), .grow, false⟩]⟩
def z_s64r (off bs n o : Nat) (lm : Option Nat) (B : List Int) (X : List Int) (i : Nat) (d : Bool) : St := ⟨(.junk :: (.junk :: ((.ptr 2 0) :: (.junk :: ((.ptr 3 0) :: (jk 3 ((.ptr 4 0) :: (jk 26 ((.int .i64 (Int.ofNat i)) :: (jk 16 [])))))))))), [⟨(.agg [(.sl 1 off bs n 1 lm)]), .own, false⟩, ⟨(.at o (.nums .u8 B)), .ro, false⟩, ⟨(.nums .u8 (List.replicate 32 0)), .own, false⟩, ⟨(.nums .u32 (sv32_V (pad64 (seg B (off - o) n) n) (nb64 n))), .own, true⟩, ⟨(.nums .u8 X), .own, d⟩]⟩
def h_s64r (off bs n o : Nat) (lm : Option Nat) (B : List Int) : Hints := ⟨fun it t => match t with
  | 25 => bif eqIt [] it then some (.val (.sl 6 0 0 (64 * (nb64 n)) 1 none)) else none
  | 28 => (match (bif eqIt [none] it then some (.val (.bool false)) else none : Option VH), it with | some v, _ => some v | none, [some k0] => some (.val (.bool true)) | _, _ => none)
  | 32 => (match it with | [some k0] => some .ask | _ => none)
  | 30 => (match it with | [some k0] => some (.askv (.sl 5 (64 * (k0 + 1)) (64 * ((k0 + 1) - 1)) (64 * ((nb64 n) - (k0 + 1))) 1 none)) | _ => none)
  | 36 => (match it with | [some k0] => some (.val (.bool true)) | _ => none)
  | 40 => (match it with | [some k0] => some (.val (.int .i64 (Int.ofNat (k0 / 4)))) | _ => none)
  | 41 => (match it with | [some k0] => some .ask | _ => none)
  | 42 => (match it with | [some k0] => some .ask | _ => none)
  | 44 => (match it with | [some k0] => some (.val (.int .i64 (Int.ofNat (k0 % 4)))) | _ => none)
  | 45 => (match it with | [some k0] => some (.val (.int .i64 (Int.ofNat (3 - (k0 % 4))))) | _ => none)
  | 46 => (match it with | [some k0] => some (.val (.int .i64 (Int.ofNat (8 * (3 - (k0 % 4)))))) | _ => none)
  | 49 => (match it with | [some k0] => some .ask | _ => none)
  | 100049 => (match it with | [some k0] => some .ask | _ => none)
  | 50 => (match it with | [some k0] => some (.val (.int .i64 (Int.ofNat (k0 + 1)))) | _ => none)
  | 51 => bif eqIt [] it then some .ask else none
  | 100002 => bif eqIt [] it then some .ask else none
  | _ => none, fun it id => match id, it with
  | 1, [] => some ⟨(nb64 n), true, false, fun kk => y_s64r off bs n o lm B (sv32_V (pad64 (seg B (off - o) n) n) kk) (64 * kk) (64 * (kk - 1)) (64 * ((nb64 n) - kk)) 0⟩
  | 2, [] => some ⟨32, true, false, fun kk => z_s64r off bs n o lm B (so32_X (sv32_V (pad64 (seg B (off - o) n) n) (nb64 n)) kk) kk (dj false kk)⟩
  | _, _ => none⟩
set_option maxHeartbeats 4000000 in
set_option maxRecDepth 100000 in
theorem run_s64r (off bs n o : Nat) (lm : Option Nat) (B : List Int) : specW Try.prog d_s64A (cH10 Try.prog) (h_s64r off bs n o lm B) 30000 23 [(.sl 0 0 0 1 1 none)] [(⟨(.agg [(.sl 1 off bs n 1 lm)]), .own, false⟩ : Blk), ⟨(.at o (.nums .u8 B)), .ro, false⟩] (fun v M => v = (.nums .u8 (sum64 (seg B (off - o) n) n)) ∧ M = [(⟨(.agg [(.sl 1 off bs n 1 lm)]), .own, false⟩ : Blk), ⟨(.at o (.nums .u8 B)), .ro, false⟩]) =
  ((o ≤ off ∧ off - o + n ≤ B.length ∧ n < 1000001) ∧ (AV.sl 6 0 0 (n + 1 + zn64 (n + 1) + 8) 1 none) = (AV.sl 6 0 0 (64 * (nb64 n)) 1 none) ∧ (bif Nat.blt (nb64 n) 30000 then (y_s64r off bs n o lm B [1779033703, 3144134277, 1013904242, 2773480762, 1359893119, 2600822924, 528734635, 1541459225] 0 0 (64 * (nb64 n)) 0 = y_s64r off bs n o lm B (sv32_V (pad64 (seg B (off - o) n) n) 0) (64 * 0) (64 * (0 - 1)) (64 * ((nb64 n) - 0)) 0 ∧ (∀ k0, k0 < (nb64 n) → ((AV.bool (decide ((Int.ofNat (64 * ((nb64 n) - k0))) > 0))) = (AV.bool true) ∧ (1 = 1 ∧ inB (64 : Int) (64 * ((nb64 n) - k0)) = some 64) ∧ (64 = 64 ∧ 64 = 64 ∧ (sv32_V (pad64 (seg B (off - o) n) n) k0).length = 8 ∧ (64 * k0) + 64 ≤ (pad64 (seg B (off - o) n) n).length ∧ tl10.length = 64) ∧ (1 = 1 ∧ inB (64 : Int) (64 * ((nb64 n) - k0)) = some 64) ∧ (AV.sl 5 ((64 * k0) + 64 * 1) (bif Nat.beq 64 0 then (64 * (k0 - 1)) else (64 * k0)) ((64 * ((nb64 n) - k0)) - 64) 1 none) = (AV.sl 5 (64 * (k0 + 1)) (64 * ((k0 + 1) - 1)) (64 * ((nb64 n) - (k0 + 1))) 1 none) ∧ y_s64r off bs n o lm B (mix32 (sv32_V (pad64 (seg B (off - o) n) n) k0) (pad64 (seg B (off - o) n) n) (64 * k0) tl10) (64 * (k0 + 1)) (64 * ((k0 + 1) - 1)) (64 * ((nb64 n) - (k0 + 1))) 0 = y_s64r off bs n o lm B (sv32_V (pad64 (seg B (off - o) n) n) (k0 + 1)) (64 * (k0 + 1)) (64 * ((k0 + 1) - 1)) (64 * ((nb64 n) - (k0 + 1))) 0)) ∧ (AV.bool (decide ((Int.ofNat (64 * ((nb64 n) - (nb64 n)))) > 0))) = (AV.bool false) ∧ z_s64r off bs n o lm B (List.replicate 32 0) 0 false = z_s64r off bs n o lm B (so32_X (sv32_V (pad64 (seg B (off - o) n) n) (nb64 n)) 0) 0 (dj false 0) ∧ (∀ k0, k0 < 32 → ((AV.bool (decide ((Int.ofNat k0) < 32))) = (AV.bool true) ∧ (AV.int .i64 (IntKind.i64.wrap (Int.tdiv (Int.ofNat k0) 4))) = (AV.int .i64 (Int.ofNat (k0 / 4))) ∧ (inR (Int.ofNat (k0 / 4)) 8 = some (k0 / 4)) ∧ ((0 + (k0 / 4) * 1) < (sv32_V (pad64 (seg B (off - o) n) n) (nb64 n)).length) ∧ (AV.int .i64 (Int.tmod (Int.ofNat k0) 4)) = (AV.int .i64 (Int.ofNat (k0 % 4))) ∧ (AV.int .i64 (IntKind.i64.wrap ((3 : Int) - (Int.ofNat (k0 % 4))))) = (AV.int .i64 (Int.ofNat (3 - (k0 % 4)))) ∧ (AV.int .i64 (IntKind.i64.wrap ((8 : Int) * (Int.ofNat (3 - (k0 % 4)))))) = (AV.int .i64 (Int.ofNat (8 * (3 - (k0 % 4))))) ∧ (inR (Int.ofNat k0) 32 = some k0) ∧ (IntKind.u8 = IntKind.u8 ∧ 1 = 1 ∧ (0 + k0 * 1) < (so32_X (sv32_V (pad64 (seg B (off - o) n) n) (nb64 n)) k0).length) ∧ (AV.int .i64 (IntKind.i64.wrap ((Int.ofNat k0) + (1 : Int)))) = (AV.int .i64 (Int.ofNat (k0 + 1))) ∧ z_s64r off bs n o lm B ((so32_X (sv32_V (pad64 (seg B (off - o) n) n) (nb64 n)) k0).set (0 + k0 * 1) (IntKind.u8.wrap (Int.fdiv ((sv32_V (pad64 (seg B (off - o) n) n) (nb64 n)).getD (0 + (k0 / 4) * 1) 0) (2 ^ (Nat.min (8 * (3 - (k0 % 4))) 32))))) (k0 + 1) true = z_s64r off bs n o lm B (so32_X (sv32_V (pad64 (seg B (off - o) n) n) (nb64 n)) (k0 + 1)) (k0 + 1) (dj false (k0 + 1)))) ∧ (0 = 0 ∧ (so32_X (sv32_V (pad64 (seg B (off - o) n) n) (nb64 n)) 32).length = 32) ∧ (IntKind.u8 = IntKind.u8 ∧ 0 = 0 ∧ (so32_X (sv32_V (pad64 (seg B (off - o) n) n) (nb64 n)) 32).length = 32 ∧ ([0, 0, 0, 0, 0, 0, 0, 0, 0, 0, 0, 0, 0, 0, 0, 0, 0, 0, 0, 0, 0, 0, 0, 0, 0, 0, 0, 0, 0, 0, 0, 0] : List Int).length = 32) ∧ ((AV.nums .u8 (so32_X (sv32_V (pad64 (seg B (off - o) n) n) (nb64 n)) 32)) = (AV.nums .u8 (sum64 (seg B (off - o) n) n)) ∧ ([(⟨(.agg [(.sl 1 off bs n 1 lm)]), .own, false⟩ : Blk), ⟨(.at o (.nums .u8 B)), .ro, false⟩] : Mem) = [(⟨(.agg [(.sl 1 off bs n 1 lm)]), .own, false⟩ : Blk), ⟨(.at o (.nums .u8 B)), .ro, false⟩])) else False)) := by kernel_rfl
set_option maxHeartbeats 4000000 in
set_option maxRecDepth 100000 in
theorem s64r_ok {off bs n o : Nat} {lm : Option Nat} {B : List Int} (hyp : o ≤ off ∧ off - o + n ≤ B.length ∧ n < 1000001) : ∃ D H N, specW Try.prog D (cH10 Try.prog) H N 23 [(.sl 0 0 0 1 1 none)] [(⟨(.agg [(.sl 1 off bs n 1 lm)]), .own, false⟩ : Blk), ⟨(.at o (.nums .u8 B)), .ro, false⟩] fun v M => v = (.nums .u8 (sum64 (seg B (off - o) n) n)) ∧ M = [(⟨(.agg [(.sl 1 off bs n 1 lm)]), .own, false⟩ : Blk), ⟨(.at o (.nums .u8 B)), .ro, false⟩] := by
  have hlen : (seg B (off - o) n).length = n := seg_len (by omega)
  have hn : n ≤ 1000001 := by omega
  exact ⟨d_s64A, _, 30000, Eq.mpr (run_s64r off bs n o lm B) ⟨⟨hyp.1, hyp.2.1, hyp.2.2⟩, (congrArg (fun L => AV.sl 6 0 0 L 1 none) (nb64_eq n)), (bifT (blt_ok (Nat.lt_trans (nb64_lt hn) (by decide))) ⟨rfl, fun k0 hk0 => ⟨(aB (d_gt (a := (64 * ((nb64 n) - k0))) (b := 0) (by omega))), ⟨rfl, (inB_ok (n := 64) (by omega))⟩, ⟨rfl, rfl, (by first | (simp only [sv32_len, so32_len, tl10_len, pad64_len hlen]; done) | rfl), (by rw [pad64_len hlen, nb64_eq]; omega), (by first | (simp only [sv32_len, so32_len, tl10_len, pad64_len hlen]; done) | rfl)⟩, ⟨rfl, (inB_ok (n := 64) (by omega))⟩, (sl_eq (by omega) rfl (by omega)), rfl⟩, (aB (d_gtn (a := (64 * ((nb64 n) - (nb64 n)))) (b := 0) (by omega))), rfl, fun k0 hk0 => ⟨(aB (d_lt (a := k0) (b := 32) (by omega))), (aI (i_quo (a := k0) (b := 4) (by omega))), (inR_ok (n := (k0 / 4)) (by omega)), (by first | (simp only [sv32_len, so32_len, tl10_len, pad64_len hlen]; omega) | omega), (aI (i_rem (a := k0) (b := 4))), (aI (i_sub (a := 3) (b := (k0 % 4)) (by omega) (by omega))), (aI (i_mul (a := 8) (b := (3 - (k0 % 4))) (by omega))), (inR_ok (n := k0) (by omega)), ⟨rfl, rfl, (by first | (simp only [sv32_len, so32_len, tl10_len, pad64_len hlen]; omega) | omega)⟩, (aI (i_add (a := k0) (b := 1) (c := (k0 + 1)) (by omega) (by omega))), rfl⟩, ⟨rfl, (by first | (simp only [sv32_len, so32_len, tl10_len, pad64_len hlen]; done) | rfl)⟩, ⟨rfl, rfl, (by first | (simp only [sv32_len, so32_len, tl10_len, pad64_len hlen]; done) | rfl), (by first | (simp only [sv32_len, so32_len, tl10_len, pad64_len hlen]; done) | rfl)⟩, ⟨rfl, rfl⟩⟩)⟩⟩
def s_sum64 : Spec := fun a M => match a, M with
  | [.nilsl], [] => some (none, (.nums .u8 (sum64 ([] : List Int) 0)), [])
  | [(.sl 0 0 0 1 1 none)], [⟨(.agg [.nilsl]), .own, false⟩] => some (none, (.nums .u8 (sum64 ([] : List Int) 0)), [(⟨(.agg [.nilsl]), .own, false⟩ : Blk)])
  | [(.sl 0 0 0 1 1 none)], [⟨(.agg [(.sl 1 off bs n 1 lm)]), .own, false⟩, ⟨(.at o (.nums .u8 B)), .ro, false⟩] => some (some (o ≤ off ∧ off - o + n ≤ B.length ∧ n < 1000001), (.nums .u8 (sum64 (seg B (off - o) n) n)), [(⟨(.agg [(.sl 1 off bs n 1 lm)]), .own, false⟩ : Blk), ⟨(.at o (.nums .u8 B)), .ro, false⟩])
  | _, _ => none
def iv64 : List Int := [7640891576956012808, 13503953896175478587, 4354685564936845355, 11912009170470909681, 5840696475078001361, 11170449401992604703, 2270897969802886507, 6620516959819538809]
def sv64_V (B : List Int) : Nat → List Int
  | 0 => iv64
  | k + 1 => mix64 (sv64_V B k) B (128 * k) tl11
theorem mix64_len {v B K : List Int} {o : Nat} (h : v.length = 8) : (mix64 v B o K).length = 8 := by
  unfold mix64; rw [mf64_len, mr64_len _ _ h]
theorem sv64_len (B : List Int) : ∀ k, (sv64_V B k).length = 8
  | 0 => rfl
  | k + 1 => mix64_len (sv64_len B k)
theorem tl11_len : tl11.length = 80 := rfl
def so64_X (V : List Int) : Nat → List Int
  | 0 => List.replicate 64 0
  | k + 1 => (so64_X V k).set (0 + k * 1) (IntKind.u8.wrap (Int.fdiv (V.getD (0 + (k / 8) * 1) 0) (2 ^ (Nat.min (8 * (7 - (k % 8))) 64))))
theorem so64_len (V : List Int) : ∀ k, (so64_X V k).length = 64
  | 0 => by simp only [so64_X, List.length_replicate]
  | k + 1 => by
    show ((so64_X V k).set _ _).length = _
    rw [List.length_set, so64_len V k]
/-- The sum of n bytes. -/
def sum128 (B : List Int) (n : Nat) : List Int := so64_X (sv64_V (pad128 B n) (nb128 n)) 64
def y_s128A  (V : List Int) (oo : Nat) (b : Nat) (l : Nat) (d : Nat) : St := ⟨(.junk :: (.junk :: ((.ptr 0 0) :: ((.sl 1 0 0 80 1 none) :: ((.ptr 2 0) :: ((.sl 3 oo b l 1 none) :: (jk 34 []))))))), [⟨(.nums .u8 (List.replicate 64 0)), .own, false⟩, ⟨(.nums .u64 tl11), .grow, true⟩, ⟨(.nums .u64 V), .own, true⟩, ⟨(.nums .u8 (pad128 ([] : List Int) 0)), .grow, false⟩]⟩
def z_s128A  (X : List Int) (i : Nat) (d : Bool) : St := ⟨(.junk :: (.junk :: ((.ptr 0 0) :: (.junk :: ((.ptr 1 0) :: (.junk :: ((.ptr 2 0) :: (jk 16 ((.int .i64 (Int.ofNat i)) :: (jk 16 [])))))))))), [⟨(.nums .u8 (List.replicate 64 0)), .own, false⟩, ⟨(.nums .u64 (sv64_V (pad128 ([] : List Int) 0) (nb128 0))), .own, true⟩, ⟨(.nums .u8 X), .own, d⟩]⟩
def h_s128A : Hints := ⟨fun it t => match t with
  | 13 => bif eqIt [] it then some (.val (.sl 4 0 0 (128 * (nb128 0)) 1 none)) else none
  | 16 => (match (bif eqIt [none] it then some (.val (.bool false)) else none : Option VH), it with | some v, _ => some v | none, [some k0] => some (.val (.bool true)) | _, _ => none)
  | 20 => (match it with | [some k0] => some .ask | _ => none)
  | 18 => (match it with | [some k0] => some (.askv (.sl 3 (128 * (k0 + 1)) (128 * ((k0 + 1) - 1)) (128 * ((nb128 0) - (k0 + 1))) 1 none)) | _ => none)
  | 24 => (match it with | [some k0] => some (.val (.bool true)) | _ => none)
  | 28 => (match it with | [some k0] => some (.val (.int .i64 (Int.ofNat (k0 / 8)))) | _ => none)
  | 29 => (match it with | [some k0] => some .ask | _ => none)
  | 30 => (match it with | [some k0] => some .ask | _ => none)
  | 32 => (match it with | [some k0] => some (.val (.int .i64 (Int.ofNat (k0 % 8)))) | _ => none)
  | 33 => (match it with | [some k0] => some (.val (.int .i64 (Int.ofNat (7 - (k0 % 8))))) | _ => none)
  | 34 => (match it with | [some k0] => some (.val (.int .i64 (Int.ofNat (8 * (7 - (k0 % 8)))))) | _ => none)
  | 37 => (match it with | [some k0] => some .ask | _ => none)
  | 100037 => (match it with | [some k0] => some .ask | _ => none)
  | 38 => (match it with | [some k0] => some (.val (.int .i64 (Int.ofNat (k0 + 1)))) | _ => none)
  | 39 => bif eqIt [] it then some .ask else none
  | 100002 => bif eqIt [] it then some .ask else none
  | _ => none, fun it id => match id, it with
  | 0, [] => some ⟨(nb128 0), true, false, fun kk => y_s128A  (sv64_V (pad128 ([] : List Int) 0) kk) (128 * kk) (128 * (kk - 1)) (128 * ((nb128 0) - kk)) 0⟩
  | 1, [] => some ⟨64, true, false, fun kk => z_s128A  (so64_X (sv64_V (pad128 ([] : List Int) 0) (nb128 0)) kk) kk (dj false kk)⟩
  | _, _ => none⟩
def d_s128A : Nat → Option (List Nat) := fun n => match n with
  | 1 => some [0, 1, 3, 5, 7, 8, 9, 10, 11, 12, 13, 14, 15, 16, 17, 18, 19, 20, 21, 22, 24, 25, 26, 27, 28, 29, 30, 31, 32, 33, 34, 35, 36, 37, 38, 39]
  | 0 => some [0, 1, 6, 7, 8, 9, 10, 11, 12, 13, 14, 15, 16, 17, 18, 19, 20, 21, 22, 23, 24, 25, 26, 27, 28, 29, 30, 31, 32, 33, 34, 35, 36, 37, 38, 39]
  | _ => none
set_option maxHeartbeats 4000000 in
set_option maxRecDepth 100000 in
theorem run_s128A  : specW Try.prog d_s128A (cH10 Try.prog) (h_s128A) 30000 24 [.nilsl] [] (fun v M => v = (.nums .u8 (sum128 ([] : List Int) 0)) ∧ M = []) =
  ((AV.sl 4 0 0 (0 + 1 + zn128 (0 + 1) + 16) 1 none) = (AV.sl 4 0 0 (128 * (nb128 0)) 1 none) ∧ (bif Nat.blt (nb128 0) 30000 then (y_s128A  tl01 0 0 (128 * (nb128 0)) 0 = y_s128A  (sv64_V (pad128 ([] : List Int) 0) 0) (128 * 0) (128 * (0 - 1)) (128 * ((nb128 0) - 0)) 0 ∧ (∀ k0, k0 < (nb128 0) → ((AV.bool (decide ((Int.ofNat (128 * ((nb128 0) - k0))) > 0))) = (AV.bool true) ∧ (1 = 1 ∧ inB (128 : Int) (128 * ((nb128 0) - k0)) = some 128) ∧ (128 = 128 ∧ 80 = 80 ∧ (sv64_V (pad128 ([] : List Int) 0) k0).length = 8 ∧ (128 * k0) + 128 ≤ (pad128 ([] : List Int) 0).length ∧ tl11.length = 80) ∧ (1 = 1 ∧ inB (128 : Int) (128 * ((nb128 0) - k0)) = some 128) ∧ (AV.sl 3 ((128 * k0) + 128 * 1) (bif Nat.beq 128 0 then (128 * (k0 - 1)) else (128 * k0)) ((128 * ((nb128 0) - k0)) - 128) 1 none) = (AV.sl 3 (128 * (k0 + 1)) (128 * ((k0 + 1) - 1)) (128 * ((nb128 0) - (k0 + 1))) 1 none) ∧ y_s128A  (mix64 (sv64_V (pad128 ([] : List Int) 0) k0) (pad128 ([] : List Int) 0) (128 * k0) tl11) (128 * (k0 + 1)) (128 * ((k0 + 1) - 1)) (128 * ((nb128 0) - (k0 + 1))) 0 = y_s128A  (sv64_V (pad128 ([] : List Int) 0) (k0 + 1)) (128 * (k0 + 1)) (128 * ((k0 + 1) - 1)) (128 * ((nb128 0) - (k0 + 1))) 0)) ∧ (AV.bool (decide ((Int.ofNat (128 * ((nb128 0) - (nb128 0)))) > 0))) = (AV.bool false) ∧ z_s128A  (List.replicate 64 0) 0 false = z_s128A  (so64_X (sv64_V (pad128 ([] : List Int) 0) (nb128 0)) 0) 0 (dj false 0) ∧ (∀ k0, k0 < 64 → ((AV.bool (decide ((Int.ofNat k0) < 64))) = (AV.bool true) ∧ (AV.int .i64 (IntKind.i64.wrap (Int.tdiv (Int.ofNat k0) 8))) = (AV.int .i64 (Int.ofNat (k0 / 8))) ∧ (inR (Int.ofNat (k0 / 8)) 8 = some (k0 / 8)) ∧ ((0 + (k0 / 8) * 1) < (sv64_V (pad128 ([] : List Int) 0) (nb128 0)).length) ∧ (AV.int .i64 (Int.tmod (Int.ofNat k0) 8)) = (AV.int .i64 (Int.ofNat (k0 % 8))) ∧ (AV.int .i64 (IntKind.i64.wrap ((7 : Int) - (Int.ofNat (k0 % 8))))) = (AV.int .i64 (Int.ofNat (7 - (k0 % 8)))) ∧ (AV.int .i64 (IntKind.i64.wrap ((8 : Int) * (Int.ofNat (7 - (k0 % 8)))))) = (AV.int .i64 (Int.ofNat (8 * (7 - (k0 % 8))))) ∧ (inR (Int.ofNat k0) 64 = some k0) ∧ (IntKind.u8 = IntKind.u8 ∧ 1 = 1 ∧ (0 + k0 * 1) < (so64_X (sv64_V (pad128 ([] : List Int) 0) (nb128 0)) k0).length) ∧ (AV.int .i64 (IntKind.i64.wrap ((Int.ofNat k0) + (1 : Int)))) = (AV.int .i64 (Int.ofNat (k0 + 1))) ∧ z_s128A  ((so64_X (sv64_V (pad128 ([] : List Int) 0) (nb128 0)) k0).set (0 + k0 * 1) (IntKind.u8.wrap (Int.fdiv ((sv64_V (pad128 ([] : List Int) 0) (nb128 0)).getD (0 + (k0 / 8) * 1) 0) (2 ^ (Nat.min (8 * (7 - (k0 % 8))) 64))))) (k0 + 1) true = z_s128A  (so64_X (sv64_V (pad128 ([] : List Int) 0) (nb128 0)) (k0 + 1)) (k0 + 1) (dj false (k0 + 1)))) ∧ (0 = 0 ∧ (so64_X (sv64_V (pad128 ([] : List Int) 0) (nb128 0)) 64).length = 64) ∧ (IntKind.u8 = IntKind.u8 ∧ 0 = 0 ∧ (so64_X (sv64_V (pad128 ([] : List Int) 0) (nb128 0)) 64).length = 64 ∧ ([0, 0, 0, 0, 0, 0, 0, 0, 0, 0, 0, 0, 0, 0, 0, 0, 0, 0, 0, 0, 0, 0, 0, 0, 0, 0, 0, 0, 0, 0, 0, 0, 0, 0, 0, 0, 0, 0, 0, 0, 0, 0, 0, 0, 0, 0, 0, 0, 0, 0, 0, 0, 0, 0, 0, 0, 0, 0, 0, 0, 0, 0, 0, 0] : List Int).length = 64) ∧ ((AV.nums .u8 (so64_X (sv64_V (pad128 ([] : List Int) 0) (nb128 0)) 64)) = (AV.nums .u8 (sum128 ([] : List Int) 0)) ∧ ([] : Mem) = [])) else False)) := by kernel_rfl
set_option maxHeartbeats 4000000 in
set_option maxRecDepth 100000 in
theorem s128A_ok  : ∃ D H N, specW Try.prog D (cH10 Try.prog) H N 24 [.nilsl] [] fun v M => v = (.nums .u8 (sum128 ([] : List Int) 0)) ∧ M = [] := by
  have hlen : ([] : List Int).length = 0 := rfl
  have hn : 0 ≤ 1000001 := Nat.zero_le _
  exact ⟨d_s128A, _, 30000, Eq.mpr (run_s128A) ⟨(congrArg (fun L => AV.sl 4 0 0 L 1 none) (nb128_eq 0)), (bifT (blt_ok (Nat.lt_trans (nb128_lt hn) (by decide))) ⟨rfl, fun k0 hk0 => ⟨(aB (d_gt (a := (128 * ((nb128 0) - k0))) (b := 0) (by omega))), ⟨rfl, (inB_ok (n := 128) (by omega))⟩, ⟨rfl, rfl, (by first | (simp only [sv64_len, so64_len, tl11_len, pad128_len hlen]; done) | rfl), (by rw [pad128_len hlen, nb128_eq]; omega), (by first | (simp only [sv64_len, so64_len, tl11_len, pad128_len hlen]; done) | rfl)⟩, ⟨rfl, (inB_ok (n := 128) (by omega))⟩, (sl_eq (by omega) rfl (by omega)), rfl⟩, (aB (d_gtn (a := (128 * ((nb128 0) - (nb128 0)))) (b := 0) (by omega))), rfl, fun k0 hk0 => ⟨(aB (d_lt (a := k0) (b := 64) (by omega))), (aI (i_quo (a := k0) (b := 8) (by omega))), (inR_ok (n := (k0 / 8)) (by omega)), (by first | (simp only [sv64_len, so64_len, tl11_len, pad128_len hlen]; omega) | omega), (aI (i_rem (a := k0) (b := 8))), (aI (i_sub (a := 7) (b := (k0 % 8)) (by omega) (by omega))), (aI (i_mul (a := 8) (b := (7 - (k0 % 8))) (by omega))), (inR_ok (n := k0) (by omega)), ⟨rfl, rfl, (by first | (simp only [sv64_len, so64_len, tl11_len, pad128_len hlen]; omega) | omega)⟩, (aI (i_add (a := k0) (b := 1) (c := (k0 + 1)) (by omega) (by omega))), rfl⟩, ⟨rfl, (by first | (simp only [sv64_len, so64_len, tl11_len, pad128_len hlen]; done) | rfl)⟩, ⟨rfl, rfl, (by first | (simp only [sv64_len, so64_len, tl11_len, pad128_len hlen]; done) | rfl), (by first | (simp only [sv64_len, so64_len, tl11_len, pad128_len hlen]; done) | rfl)⟩, ⟨rfl, rfl⟩⟩)⟩⟩
def y_s128B  (V : List Int) (oo : Nat) (b : Nat) (l : Nat) (d : Nat) : St := ⟨(.junk :: (.junk :: ((.ptr 1 0) :: ((.sl 2 0 0 80 1 none) :: ((.ptr 3 0) :: ((.sl 4 oo b l 1 none) :: (jk 34 []))))))), [⟨(.agg [.nilsl]), .own, false⟩, ⟨(.nums .u8 (List.replicate 64 0)), .own, false⟩, ⟨(.nums .u64 tl11), .grow, true⟩, ⟨(.nums .u64 V), .own, true⟩, ⟨(.nums .u8 (pad128 ([] : List Int) 0)), .grow, false⟩]⟩
def z_s128B  (X : List Int) (i : Nat) (d : Bool) : St := ⟨(.junk :: (.junk :: ((.ptr 1 0) :: (.junk :: ((.ptr 2 0) :: (.junk :: ((.ptr 3 0) :: (jk 16 ((.int .i64 (Int.ofNat i)) :: (jk 16 [])))))))))), [⟨(.agg [.nilsl]), .own, false⟩, ⟨(.nums .u8 (List.replicate 64 0)), .own, false⟩, ⟨(.nums .u64 (sv64_V (pad128 ([] : List Int) 0) (nb128 0))), .own, true⟩, ⟨(.nums .u8 X), .own, d⟩]⟩
def h_s128B : Hints := ⟨fun it t => match t with
  | 13 => bif eqIt [] it then some (.val (.sl 5 0 0 (128 * (nb128 0)) 1 none)) else none
  | 16 => (match (bif eqIt [none] it then some (.val (.bool false)) else none : Option VH), it with | some v, _ => some v | none, [some k0] => some (.val (.bool true)) | _, _ => none)
  | 20 => (match it with | [some k0] => some .ask | _ => none)
  | 18 => (match it with | [some k0] => some (.askv (.sl 4 (128 * (k0 + 1)) (128 * ((k0 + 1) - 1)) (128 * ((nb128 0) - (k0 + 1))) 1 none)) | _ => none)
  | 24 => (match it with | [some k0] => some (.val (.bool true)) | _ => none)
  | 28 => (match it with | [some k0] => some (.val (.int .i64 (Int.ofNat (k0 / 8)))) | _ => none)
  | 29 => (match it with | [some k0] => some .ask | _ => none)
  | 30 => (match it with | [some k0] => some .ask | _ => none)
  | 32 => (match it with | [some k0] => some (.val (.int .i64 (Int.ofNat (k0 % 8)))) | _ => none)
  | 33 => (match it with | [some k0] => some (.val (.int .i64 (Int.ofNat (7 - (k0 % 8))))) | _ => none)
  | 34 => (match it with | [some k0] => some (.val (.int .i64 (Int.ofNat (8 * (7 - (k0 % 8)))))) | _ => none)
  | 37 => (match it with | [some k0] => some .ask | _ => none)
  | 100037 => (match it with | [some k0] => some .ask | _ => none)
  | 38 => (match it with | [some k0] => some (.val (.int .i64 (Int.ofNat (k0 + 1)))) | _ => none)
  | 39 => bif eqIt [] it then some .ask else none
  | 100002 => bif eqIt [] it then some .ask else none
  | _ => none, fun it id => match id, it with
  | 0, [] => some ⟨(nb128 0), true, false, fun kk => y_s128B  (sv64_V (pad128 ([] : List Int) 0) kk) (128 * kk) (128 * (kk - 1)) (128 * ((nb128 0) - kk)) 0⟩
  | 1, [] => some ⟨64, true, false, fun kk => z_s128B  (so64_X (sv64_V (pad128 ([] : List Int) 0) (nb128 0)) kk) kk (dj false kk)⟩
  | _, _ => none⟩
set_option maxHeartbeats 4000000 in
set_option maxRecDepth 100000 in
theorem run_s128B  : specW Try.prog d_s128A (cH10 Try.prog) (h_s128B) 30000 24 [(.sl 0 0 0 1 1 none)] [(⟨(.agg [.nilsl]), .own, false⟩ : Blk)] (fun v M => v = (.nums .u8 (sum128 ([] : List Int) 0)) ∧ M = [(⟨(.agg [.nilsl]), .own, false⟩ : Blk)]) =
  ((AV.sl 5 0 0 (0 + 1 + zn128 (0 + 1) + 16) 1 none) = (AV.sl 5 0 0 (128 * (nb128 0)) 1 none) ∧ (bif Nat.blt (nb128 0) 30000 then (y_s128B  tl01 0 0 (128 * (nb128 0)) 0 = y_s128B  (sv64_V (pad128 ([] : List Int) 0) 0) (128 * 0) (128 * (0 - 1)) (128 * ((nb128 0) - 0)) 0 ∧ (∀ k0, k0 < (nb128 0) → ((AV.bool (decide ((Int.ofNat (128 * ((nb128 0) - k0))) > 0))) = (AV.bool true) ∧ (1 = 1 ∧ inB (128 : Int) (128 * ((nb128 0) - k0)) = some 128) ∧ (128 = 128 ∧ 80 = 80 ∧ (sv64_V (pad128 ([] : List Int) 0) k0).length = 8 ∧ (128 * k0) + 128 ≤ (pad128 ([] : List Int) 0).length ∧ tl11.length = 80) ∧ (1 = 1 ∧ inB (128 : Int) (128 * ((nb128 0) - k0)) = some 128) ∧ (AV.sl 4 ((128 * k0) + 128 * 1) (bif Nat.beq 128 0 then (128 * (k0 - 1)) else (128 * k0)) ((128 * ((nb128 0) - k0)) - 128) 1 none) = (AV.sl 4 (128 * (k0 + 1)) (128 * ((k0 + 1) - 1)) (128 * ((nb128 0) - (k0 + 1))) 1 none) ∧ y_s128B  (mix64 (sv64_V (pad128 ([] : List Int) 0) k0) (pad128 ([] : List Int) 0) (128 * k0) tl11) (128 * (k0 + 1)) (128 * ((k0 + 1) - 1)) (128 * ((nb128 0) - (k0 + 1))) 0 = y_s128B  (sv64_V (pad128 ([] : List Int) 0) (k0 + 1)) (128 * (k0 + 1)) (128 * ((k0 + 1) - 1)) (128 * ((nb128 0) - (k0 + 1))) 0)) ∧ (AV.bool (decide ((Int.ofNat (128 * ((nb128 0) - (nb128 0)))) > 0))) = (AV.bool false) ∧ z_s128B  (List.replicate 64 0) 0 false = z_s128B  (so64_X (sv64_V (pad128 ([] : List Int) 0) (nb128 0)) 0) 0 (dj false 0) ∧ (∀ k0, k0 < 64 → ((AV.bool (decide ((Int.ofNat k0) < 64))) = (AV.bool true) ∧ (AV.int .i64 (IntKind.i64.wrap (Int.tdiv (Int.ofNat k0) 8))) = (AV.int .i64 (Int.ofNat (k0 / 8))) ∧ (inR (Int.ofNat (k0 / 8)) 8 = some (k0 / 8)) ∧ ((0 + (k0 / 8) * 1) < (sv64_V (pad128 ([] : List Int) 0) (nb128 0)).length) ∧ (AV.int .i64 (Int.tmod (Int.ofNat k0) 8)) = (AV.int .i64 (Int.ofNat (k0 % 8))) ∧ (AV.int .i64 (IntKind.i64.wrap ((7 : Int) - (Int.ofNat (k0 % 8))))) = (AV.int .i64 (Int.ofNat (7 - (k0 % 8)))) ∧ (AV.int .i64 (IntKind.i64.wrap ((8 : Int) * (Int.ofNat (7 - (k0 % 8)))))) = (AV.int .i64 (Int.ofNat (8 * (7 - (k0 % 8))))) ∧ (inR (Int.ofNat k0) 64 = some k0) ∧ (IntKind.u8 = IntKind.u8 ∧ 1 = 1 ∧ (0 + k0 * 1) < (so64_X (sv64_V (pad128 ([] : List Int) 0) (nb128 0)) k0).length) ∧ (AV.int .i64 (IntKind.i64.wrap ((Int.ofNat k0) + (1 : Int)))) = (AV.int .i64 (Int.ofNat (k0 + 1))) ∧ z_s128B  ((so64_X (sv64_V (pad128 ([] : List Int) 0) (nb128 0)) k0).set (0 + k0 * 1) (IntKind.u8.wrap (Int.fdiv ((sv64_V (pad128 ([] : List Int) 0) (nb128 0)).getD (0 + (k0 / 8) * 1) 0) (2 ^ (Nat.min (8 * (7 - (k0 % 8))) 64))))) (k0 + 1) true = z_s128B  (so64_X (sv64_V (pad128 ([] : List Int) 0) (nb128 0)) (k0 + 1)) (k0 + 1) (dj false (k0 + 1)))) ∧ (0 = 0 ∧ (so64_X (sv64_V (pad128 ([] : List Int) 0) (nb128 0)) 64).length = 64) ∧ (IntKind.u8 = IntKind.u8 ∧ 0 = 0 ∧ (so64_X (sv64_V (pad128 ([] : List Int) 0) (nb128 0)) 64).length = 64 ∧ ([0, 0, 0, 0, 0, 0, 0, 0, 0, 0, 0, 0, 0, 0, 0, 0, 0, 0, 0, 0, 0, 0, 0, 0, 0, 0, 0, 0, 0, 0, 0, 0, 0, 0, 0, 0, 0, 0, 0, 0, 0, 0, 0, 0, 0, 0, 0, 0, 0, 0, 0, 0, 0, 0, 0, 0, 0, 0, 0, 0, 0, 0, 0, 0] : List Int).length = 64) ∧ ((AV.nums .u8 (so64_X (sv64_V (pad128 ([] : List Int) 0) (nb128 0)) 64)) = (AV.nums .u8 (sum128 ([] : List Int) 0)) ∧ ([(⟨(.agg [.nilsl]), .own, false⟩ : Blk)] : Mem) = [(⟨(.agg [.nilsl]), .own, false⟩ : Blk)])) else False)) := by kernel_rfl
set_option maxHeartbeats 4000000 in
set_option maxRecDepth 100000 in
theorem s128B_ok  : ∃ D H N, specW Try.prog D (cH10 Try.prog) H N 24 [(.sl 0 0 0 1 1 none)] [(⟨(.agg [.nilsl]), .own, false⟩ : Blk)] fun v M => v = (.nums .u8 (sum128 ([] : List Int) 0)) ∧ M = [(⟨(.agg [.nilsl]), .own, false⟩ : Blk)] := by
  have hlen : ([] : List Int).length = 0 := rfl
  have hn : 0 ≤ 1000001 := Nat.zero_le _
  exact ⟨d_s128A, _, 30000, Eq.mpr (run_s128B) ⟨(congrArg (fun L => AV.sl 5 0 0 L 1 none) (nb128_eq 0)), (bifT (blt_ok (Nat.lt_trans (nb128_lt hn) (by decide))) ⟨rfl, fun k0 hk0 => ⟨(aB (d_gt (a := (128 * ((nb128 0) - k0))) (b := 0) (by omega))), ⟨rfl, (inB_ok (n := 128) (by omega))⟩, ⟨rfl, rfl, (by first | (simp only [sv64_len, so64_len, tl11_len, pad128_len hlen]; done) | rfl), (by rw [pad128_len hlen, nb128_eq]; omega), (by first | (simp only [sv64_len, so64_len, tl11_len, pad128_len hlen]; done) | rfl)⟩, ⟨rfl, (inB_ok (n := 128) (by omega))⟩, (sl_eq (by omega) rfl (by omega)), rfl⟩, (aB (d_gtn (a := (128 * ((nb128 0) - (nb128 0)))) (b := 0) (by omega))), rfl, fun k0 hk0 => ⟨(aB (d_lt (a := k0) (b := 64) (by omega))), (aI (i_quo (a := k0) (b := 8) (by omega))), (inR_ok (n := (k0 / 8)) (by omega)), (by first | (simp only [sv64_len, so64_len, tl11_len, pad128_len hlen]; omega) | omega), (aI (i_rem (a := k0) (b := 8))), (aI (i_sub (a := 7) (b := (k0 % 8)) (by omega) (by omega))), (aI (i_mul (a := 8) (b := (7 - (k0 % 8))) (by omega))), (inR_ok (n := k0) (by omega)), ⟨rfl, rfl, (by first | (simp only [sv64_len, so64_len, tl11_len, pad128_len hlen]; omega) | omega)⟩, (aI (i_add (a := k0) (b := 1) (c := (k0 + 1)) (by omega) (by omega))), rfl⟩, ⟨rfl, (by first | (simp only [sv64_len, so64_len, tl11_len, pad128_len hlen]; done) | rfl)⟩, ⟨rfl, rfl, (by first | (simp only [sv64_len, so64_len, tl11_len, pad128_len hlen]; done) | rfl), (by first | (simp only [sv64_len, so64_len, tl11_len, pad128_len hlen]; done) | rfl)⟩, ⟨rfl, rfl⟩⟩)⟩⟩
def y_s128r (off bs n o : Nat) (lm : Option Nat) (B : List Int) (V : List Int) (oo : Nat) (b : Nat) (l : Nat) (d : Nat) : St := ⟨(.junk :: (.junk :: ((.ptr 2 0) :: ((.sl 3 0 0 80 1 none) :: ((.ptr 4 0) :: ((.sl 5 oo b l 1 none) :: (jk 34 []))))))), [⟨(.agg [(.sl 1 off bs n 1 lm)]), .own, false⟩, ⟨(.at o (.nums .u8 B)), .ro, false⟩, ⟨(.nums .u8 (List.replicate 64 0)), .own, false⟩, ⟨(.nums .u64 tl11), .grow, true⟩, ⟨(.nums .u64 V), .own, true⟩, ⟨(.nums .u8 (pad128 (seg B (off - o) n) n)), .grow, false⟩]⟩
def z_s128r (off bs n o : Nat) (lm : Option Nat) (B : List Int) (X : List Int) (i : Nat) (d : Bool) : St := ⟨(.junk :: (.junk :: ((.ptr 2 0) :: (.junk :: ((.ptr 3 0) :: (.junk :: ((.ptr 4 0) :: (jk 16 ((.int .i64 (Int.ofNat i)) :: (jk 16 [])))))))))), [⟨(.agg [(.sl 1 off bs n 1 lm)]), .own, false⟩, ⟨(.at o (.nums .u8 B)), .ro, false⟩, ⟨(.nums .u8 (List.replicate 64 0)), .own, false⟩, ⟨(.nums .u64 (sv64_V (pad128 (seg B (off - o) n) n) (nb128 n))), .own, true⟩, ⟨(.nums .u8 X), .own, d⟩]⟩
def h_s128r (off bs n o : Nat) (lm : Option Nat) (B : List Int) : Hints := ⟨fun it t => match t with
  | 13 => bif eqIt [] it then some (.val (.sl 6 0 0 (128 * (nb128 n)) 1 none)) else none
  | 16 => (match (bif eqIt [none] it then some (.val (.bool false)) else none : Option VH), it with | some v, _ => some v | none, [some k0] => some (.val (.bool true)) | _, _ => none)
  | 20 => (match it with | [some k0] => some .ask | _ => none)
  | 18 => (match it with | [some k0] => some (.askv (.sl 5 (128 * (k0 + 1)) (128 * ((k0 + 1) - 1)) (128 * ((nb128 n) - (k0 + 1))) 1 none)) | _ => none)
  | 24 => (match it with | [some k0] => some (.val (.bool true)) | _ => none)
  | 28 => (match it with | [some k0] => some (.val (.int .i64 (Int.ofNat (k0 / 8)))) | _ => none)
  | 29 => (match it with | [some k0] => some .ask | _ => none)
  | 30 => (match it with | [some k0] => some .ask | _ => none)
  | 32 => (match it with | [some k0] => some (.val (.int .i64 (Int.ofNat (k0 % 8)))) | _ => none)
  | 33 => (match it with | [some k0] => some (.val (.int .i64 (Int.ofNat (7 - (k0 % 8))))) | _ => none)
  | 34 => (match it with | [some k0] => some (.val (.int .i64 (Int.ofNat (8 * (7 - (k0 % 8)))))) | _ => none)
  | 37 => (match it with | [some k0] => some .ask | _ => none)
  | 100037 => (match it with | [some k0] => some .ask | _ => none)
  | 38 => (match it with | [some k0] => some (.val (.int .i64 (Int.ofNat (k0 + 1)))) | _ => none)
  | 39 => bif eqIt [] it then some .ask else none
  | 100002 => bif eqIt [] it then some .ask else none
  | _ => none, fun it id => match id, it with
  | 0, [] => some ⟨(nb128 n), true, false, fun kk => y_s128r off bs n o lm B (sv64_V (pad128 (seg B (off - o) n) n) kk) (128 * kk) (128 * (kk - 1)) (128 * ((nb128 n) - kk)) 0⟩
  | 1, [] => some ⟨64, true, false, fun kk => z_s128r off bs n o lm B (so64_X (sv64_V (pad128 (seg B (off - o) n) n) (nb128 n)) kk) kk (dj false kk)⟩
  | _, _ => none⟩
set_option maxHeartbeats 4000000 in
set_option maxRecDepth 100000 in
theorem run_s128r (off bs n o : Nat) (lm : Option Nat) (B : List Int) : specW Try.prog d_s128A (cH10 Try.prog) (h_s128r off bs n o lm B) 30000 24 [(.sl 0 0 0 1 1 none)] [(⟨(.agg [(.sl 1 off bs n 1 lm)]), .own, false⟩ : Blk), ⟨(.at o (.nums .u8 B)), .ro, false⟩] (fun v M => v = (.nums .u8 (sum128 (seg B (off - o) n) n)) ∧ M = [(⟨(.agg [(.sl 1 off bs n 1 lm)]), .own, false⟩ : Blk), ⟨(.at o (.nums .u8 B)), .ro, false⟩]) =
  ((o ≤ off ∧ off - o + n ≤ B.length ∧ n < 1000001) ∧ (AV.sl 6 0 0 (n + 1 + zn128 (n + 1) + 16) 1 none) = (AV.sl 6 0 0 (128 * (nb128 n)) 1 none) ∧ (bif Nat.blt (nb128 n) 30000 then (y_s128r off bs n o lm B tl01 0 0 (128 * (nb128 n)) 0 = y_s128r off bs n o lm B (sv64_V (pad128 (seg B (off - o) n) n) 0) (128 * 0) (128 * (0 - 1)) (128 * ((nb128 n) - 0)) 0 ∧ (∀ k0, k0 < (nb128 n) → ((AV.bool (decide ((Int.ofNat (128 * ((nb128 n) - k0))) > 0))) = (AV.bool true) ∧ (1 = 1 ∧ inB (128 : Int) (128 * ((nb128 n) - k0)) = some 128) ∧ (128 = 128 ∧ 80 = 80 ∧ (sv64_V (pad128 (seg B (off - o) n) n) k0).length = 8 ∧ (128 * k0) + 128 ≤ (pad128 (seg B (off - o) n) n).length ∧ tl11.length = 80) ∧ (1 = 1 ∧ inB (128 : Int) (128 * ((nb128 n) - k0)) = some 128) ∧ (AV.sl 5 ((128 * k0) + 128 * 1) (bif Nat.beq 128 0 then (128 * (k0 - 1)) else (128 * k0)) ((128 * ((nb128 n) - k0)) - 128) 1 none) = (AV.sl 5 (128 * (k0 + 1)) (128 * ((k0 + 1) - 1)) (128 * ((nb128 n) - (k0 + 1))) 1 none) ∧ y_s128r off bs n o lm B (mix64 (sv64_V (pad128 (seg B (off - o) n) n) k0) (pad128 (seg B (off - o) n) n) (128 * k0) tl11) (128 * (k0 + 1)) (128 * ((k0 + 1) - 1)) (128 * ((nb128 n) - (k0 + 1))) 0 = y_s128r off bs n o lm B (sv64_V (pad128 (seg B (off - o) n) n) (k0 + 1)) (128 * (k0 + 1)) (128 * ((k0 + 1) - 1)) (128 * ((nb128 n) - (k0 + 1))) 0)) ∧ (AV.bool (decide ((Int.ofNat (128 * ((nb128 n) - (nb128 n)))) > 0))) = (AV.bool false) ∧ z_s128r off bs n o lm B (List.replicate 64 0) 0 false = z_s128r off bs n o lm B (so64_X (sv64_V (pad128 (seg B (off - o) n) n) (nb128 n)) 0) 0 (dj false 0) ∧ (∀ k0, k0 < 64 → ((AV.bool (decide ((Int.ofNat k0) < 64))) = (AV.bool true) ∧ (AV.int .i64 (IntKind.i64.wrap (Int.tdiv (Int.ofNat k0) 8))) = (AV.int .i64 (Int.ofNat (k0 / 8))) ∧ (inR (Int.ofNat (k0 / 8)) 8 = some (k0 / 8)) ∧ ((0 + (k0 / 8) * 1) < (sv64_V (pad128 (seg B (off - o) n) n) (nb128 n)).length) ∧ (AV.int .i64 (Int.tmod (Int.ofNat k0) 8)) = (AV.int .i64 (Int.ofNat (k0 % 8))) ∧ (AV.int .i64 (IntKind.i64.wrap ((7 : Int) - (Int.ofNat (k0 % 8))))) = (AV.int .i64 (Int.ofNat (7 - (k0 % 8)))) ∧ (AV.int .i64 (IntKind.i64.wrap ((8 : Int) * (Int.ofNat (7 - (k0 % 8)))))) = (AV.int .i64 (Int.ofNat (8 * (7 - (k0 % 8))))) ∧ (inR (Int.ofNat k0) 64 = some k0) ∧ (IntKind.u8 = IntKind.u8 ∧ 1 = 1 ∧ (0 + k0 * 1) < (so64_X (sv64_V (pad128 (seg B (off - o) n) n) (nb128 n)) k0).length) ∧ (AV.int .i64 (IntKind.i64.wrap ((Int.ofNat k0) + (1 : Int)))) = (AV.int .i64 (Int.ofNat (k0 + 1))) ∧ z_s128r off bs n o lm B ((so64_X (sv64_V (pad128 (seg B (off - o) n) n) (nb128 n)) k0).set (0 + k0 * 1) (IntKind.u8.wrap (Int.fdiv ((sv64_V (pad128 (seg B (off - o) n) n) (nb128 n)).getD (0 + (k0 / 8) * 1) 0) (2 ^ (Nat.min (8 * (7 - (k0 % 8))) 64))))) (k0 + 1) true = z_s128r off bs n o lm B (so64_X (sv64_V (pad128 (seg B (off - o) n) n) (nb128 n)) (k0 + 1)) (k0 + 1) (dj false (k0 + 1)))) ∧ (0 = 0 ∧ (so64_X (sv64_V (pad128 (seg B (off - o) n) n) (nb128 n)) 64).length = 64) ∧ (IntKind.u8 = IntKind.u8 ∧ 0 = 0 ∧ (so64_X (sv64_V (pad128 (seg B (off - o) n) n) (nb128 n)) 64).length = 64 ∧ ([0, 0, 0, 0, 0, 0, 0, 0, 0, 0, 0, 0, 0, 0, 0, 0, 0, 0, 0, 0, 0, 0, 0, 0, 0, 0, 0, 0, 0, 0, 0, 0, 0, 0, 0, 0, 0, 0, 0, 0, 0, 0, 0, 0, 0, 0, 0, 0, 0, 0, 0, 0, 0, 0, 0, 0, 0, 0, 0, 0, 0, 0, 0, 0] : List Int).length = 64) ∧ ((AV.nums .u8 (so64_X (sv64_V (pad128 (seg B (off - o) n) n) (nb128 n)) 64)) = (AV.nums .u8 (sum128 (seg B (off - o) n) n)) ∧ ([(⟨(.agg [(.sl 1 off bs n 1 lm)]), .own, false⟩ : Blk), ⟨(.at o (.nums .u8 B)), .ro, false⟩] : Mem) = [(⟨(.agg [(.sl 1 off bs n 1 lm)]), .own, false⟩ : Blk), ⟨(.at o (.nums .u8 B)), .ro, false⟩])) else False)) := by kernel_rfl
set_option maxHeartbeats 4000000 in
set_option maxRecDepth 100000 in
theorem s128r_ok {off bs n o : Nat} {lm : Option Nat} {B : List Int} (hyp : o ≤ off ∧ off - o + n ≤ B.length ∧ n < 1000001) : ∃ D H N, specW Try.prog D (cH10 Try.prog) H N 24 [(.sl 0 0 0 1 1 none)] [(⟨(.agg [(.sl 1 off bs n 1 lm)]), .own, false⟩ : Blk), ⟨(.at o (.nums .u8 B)), .ro, false⟩] fun v M => v = (.nums .u8 (sum128 (seg B (off - o) n) n)) ∧ M = [(⟨(.agg [(.sl 1 off bs n 1 lm)]), .own, false⟩ : Blk), ⟨(.at o (.nums .u8 B)), .ro, false⟩] := by
  have hlen : (seg B (off - o) n).length = n := seg_len (by omega)
  have hn : n ≤ 1000001 := by omega
  exact ⟨d_s128A, _, 30000, Eq.mpr (run_s128r off bs n o lm B) ⟨⟨hyp.1, hyp.2.1, hyp.2.2⟩, (congrArg (fun L => AV.sl 6 0 0 L 1 none) (nb128_eq n)), (bifT (blt_ok (Nat.lt_trans (nb128_lt hn) (by decide))) ⟨rfl, fun k0 hk0 => ⟨(aB (d_gt (a := (128 * ((nb128 n) - k0))) (b := 0) (by omega))), ⟨rfl, (inB_ok (n := 128) (by omega))⟩, ⟨rfl, rfl, (by first | (simp only [sv64_len, so64_len, tl11_len, pad128_len hlen]; done) | rfl), (by rw [pad128_len hlen, nb128_eq]; omega), (by first | (simp only [sv64_len, so64_len, tl11_len, pad128_len hlen]; done) | rfl)⟩, ⟨rfl, (inB_ok (n := 128) (by omega))⟩, (sl_eq (by omega) rfl (by omega)), rfl⟩, (aB (d_gtn (a := (128 * ((nb128 n) - (nb128 n)))) (b := 0) (by omega))), rfl, fun k0 hk0 => ⟨(aB (d_lt (a := k0) (b := 64) (by omega))), (aI (i_quo (a := k0) (b := 8) (by omega))), (inR_ok (n := (k0 / 8)) (by omega)), (by first | (simp only [sv64_len, so64_len, tl11_len, pad128_len hlen]; omega) | omega), (aI (i_rem (a := k0) (b := 8))), (aI (i_sub (a := 7) (b := (k0 % 8)) (by omega) (by omega))), (aI (i_mul (a := 8) (b := (7 - (k0 % 8))) (by omega))), (inR_ok (n := k0) (by omega)), ⟨rfl, rfl, (by first | (simp only [sv64_len, so64_len, tl11_len, pad128_len hlen]; omega) | omega)⟩, (aI (i_add (a := k0) (b := 1) (c := (k0 + 1)) (by omega) (by omega))), rfl⟩, ⟨rfl, (by first | (simp only [sv64_len, so64_len, tl11_len, pad128_len hlen]; done) | rfl)⟩, ⟨rfl, rfl, (by first | (simp only [sv64_len, so64_len, tl11_len, pad128_len hlen]; done) | rfl), (by first | (simp only [sv64_len, so64_len, tl11_len, pad128_len hlen]; done) | rfl)⟩, ⟨rfl, rfl⟩⟩)⟩⟩
def s_sum128 : Spec := fun a M => match a, M with
  | [.nilsl], [] => some (none, (.nums .u8 (sum128 ([] : List Int) 0)), [])
  | [(.sl 0 0 0 1 1 none)], [⟨(.agg [.nilsl]), .own, false⟩] => some (none, (.nums .u8 (sum128 ([] : List Int) 0)), [(⟨(.agg [.nilsl]), .own, false⟩ : Blk)])
  | [(.sl 0 0 0 1 1 none)], [⟨(.agg [(.sl 1 off bs n 1 lm)]), .own, false⟩, ⟨(.at o (.nums .u8 B)), .ro, false⟩] => some (some (o ≤ off ∧ off - o + n ≤ B.length ∧ n < 1000001), (.nums .u8 (sum128 (seg B (off - o) n) n)), [(⟨(.agg [(.sl 1 off bs n 1 lm)]), .own, false⟩ : Blk), ⟨(.at o (.nums .u8 B)), .ro, false⟩])
  | _, _ => none
theorem s_sum64_keep : ∀ a M q v M', s_sum64 a M = some (q, v, M') → M' = M ++ M'.drop M.length := by
  intro a M q v M' h
  unfold s_sum64 at h
  split at h
  · simp only [Option.some.injEq, Prod.mk.injEq] at h
    obtain ⟨rfl, rfl, rfl⟩ := h
    rfl
  · simp only [Option.some.injEq, Prod.mk.injEq] at h
    obtain ⟨rfl, rfl, rfl⟩ := h
    rfl
  · simp only [Option.some.injEq, Prod.mk.injEq] at h
    obtain ⟨rfl, rfl, rfl⟩ := h
    rfl
  · cases h
theorem s_sum128_keep : ∀ a M q v M', s_sum128 a M = some (q, v, M') → M' = M ++ M'.drop M.length := by
  intro a M q v M' h
  unfold s_sum128 at h
  split at h
  · simp only [Option.some.injEq, Prod.mk.injEq] at h
    obtain ⟨rfl, rfl, rfl⟩ := h
    rfl
  · simp only [Option.some.injEq, Prod.mk.injEq] at h
    obtain ⟨rfl, rfl, rfl⟩ := h
    rfl
  · simp only [Option.some.injEq, Prod.mk.injEq] at h
    obtain ⟨rfl, rfl, rfl⟩ := h
    rfl
  · cases h
def cH11 (P : Program) : OrcP := addS (addS (cH10 P) 23 (weakS s_sum64)) 24 (weakS s_sum128)
theorem cH11_ok : OrcPOK Try.prog (cH11 Try.prog) := by
  unfold cH11
  refine (addS_weak mixed (addS_weak mixed cH10_ok cH10_ok s_sum64_keep ?_) cH10_ok s_sum128_keep ?_)
  · intro a M q v M' h hq
    unfold s_sum64 at h
    split at h
    · simp only [Option.some.injEq, Prod.mk.injEq] at h
      obtain ⟨rfl, rfl, rfl⟩ := h
      exact s64A_ok 
    · simp only [Option.some.injEq, Prod.mk.injEq] at h
      obtain ⟨rfl, rfl, rfl⟩ := h
      exact s64B_ok 
    · simp only [Option.some.injEq, Prod.mk.injEq] at h
      obtain ⟨rfl, rfl, rfl⟩ := h
      exact s64r_ok hq
    · cases h
  · intro a M q v M' h hq
    unfold s_sum128 at h
    split at h
    · simp only [Option.some.injEq, Prod.mk.injEq] at h
      obtain ⟨rfl, rfl, rfl⟩ := h
      exact s128A_ok 
    · simp only [Option.some.injEq, Prod.mk.injEq] at h
      obtain ⟨rfl, rfl, rfl⟩ := h
      exact s128B_ok 
    · simp only [Option.some.injEq, Prod.mk.injEq] at h
      obtain ⟨rfl, rfl, rfl⟩ := h
      exact s128r_ok hq
    · cases h
end Go.Proofs.Ytkeieikhmaeiiaa
