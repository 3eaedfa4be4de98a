/- The law of lengths. No condition. -/
import Derived.Test.YtkeieikhmaeiiaaSh15
namespace Go.Proofs.Ytkeieikhmaeiiaa
open Go Go.RowKit
set_option linter.unusedVariables false
set_option linter.unusedSimpArgs false
def ln6_X (c : Int) (m : Nat) : Nat → List Int
  | 0 => List.replicate m 0
  | k + 1 => (ln6_X c m k).set (0 + k * 1) c
theorem ln6_len (c : Int) (m : Nat) : ∀ k, (ln6_X c m k).length = m
  | 0 => by simp only [ln6_X, List.length_replicate]
  | k + 1 => by
    show ((ln6_X c m k).set _ _).length = _
    rw [List.length_set, ln6_len c m k]
theorem ln6_by {c : Int} (hc : 0 ≤ c ∧ c < 256) (m : Nat) : ∀ k, Bys (ln6_X c m k)
  | 0 => fun x hx => by
    have := List.eq_of_mem_replicate hx
    omega
  | k + 1 => fun x hx => by
    rcases List.mem_or_eq_of_mem_set hx with h | h
    · exact ln6_by hc m k x h
    · omega
def x_ln6 (nv c : Int) (X : List Int) (k : Nat) (d : Bool) : St := ⟨(.junk :: ((.int .u8 c) :: (jk 3 ((.sl 0 0 0 (mm nv) 1 none) :: ((.int .i64 (Int.ofNat k)) :: (jk 31 [])))))), [⟨(.nums .u8 X), .own, d⟩]⟩
def h_ln6 (nv c : Int) : Hints := ⟨fun it t => match t with
  | 12 => bif eqIt [] it then some (.val (.int .i64 (Int.ofNat (mm nv)))) else none
  | 13 => bif eqIt [] it then some (.op (.sl 0 0 0 (mm nv) 1 none) [(⟨(.nums .u8 (List.replicate (mm nv) 0)), .own, false⟩ : Blk)] ⟨[], [], true, true⟩) else none
  | 17 => (match (bif eqIt [none] it then some (.val (.bool false)) else none : Option VH), it with | some v, _ => some v | none, [some k0] => some (.val (.bool true)) | _, _ => none)
  | 23 => (match it with | [some k0] => some .ask | _ => none)
  | 100023 => (match it with | [some k0] => some .ask | _ => none)
  | 19 => (match it with | [some k0] => some (.val (.int .i64 (Int.ofNat (k0 + 1)))) | _ => none)
  | 29 => bif eqIt [] it then some (.askv (.bool true)) else none
  | 36 => bif eqIt [] it then some (.askv (.bool true)) else none
  | _ => none, fun it id => match id, it with
  | 0, [] => some ⟨(mm nv), true, false, fun kk => x_ln6 nv c (ln6_X c (mm nv) kk) kk (dj false kk)⟩
  | _, _ => none⟩
def d_ln6 : Nat → Option (List Nat) := fun n => match n with
  | 0 => some [0, 2, 3, 4, 7, 8, 9, 10, 11, 12, 13, 14, 15, 16, 17, 18, 19, 20, 21, 22, 23, 24, 25, 26, 27, 28, 29, 30, 31, 32, 33, 34, 35, 36, 37]
  | _ => none
set_option maxHeartbeats 4000000 in
set_option maxRecDepth 100000 in
theorem run_ln6 (nv c : Int) : specW Try.prog d_ln6 (cH15 Try.prog) (h_ln6 nv c) 1000 6 [(.int .i64 nv), (.int .u8 c)] [] (fun v _ => v = .bool true) =
  ((AV.int .i64 (IntKind.i64.wrap (Int.tmod (IntKind.u64.wrap nv) 301))) = (AV.int .i64 (Int.ofNat (mm nv))) ∧ psem (forget (cH15 Try.prog)) (.mksl (.nums .u8 [0]) 1 1) [(.int .i64 (Int.ofNat (mm nv))), (.int .i64 (Int.ofNat (mm nv)))] [] = some ((.sl 0 0 0 (mm nv) 1 none), [(⟨(.nums .u8 (List.replicate (mm nv) 0)), .own, false⟩ : Blk)], ⟨[], [], true, true⟩) ∧ (bif Nat.blt (mm nv) 1000 then (x_ln6 nv c (List.replicate (mm nv) 0) 0 false = x_ln6 nv c (ln6_X c (mm nv) 0) 0 (dj false 0) ∧ (∀ k0, k0 < (mm nv) → ((AV.bool (decide ((Int.ofNat k0) < (Int.ofNat (mm nv))))) = (AV.bool true) ∧ (1 = 1 ∧ inR (Int.ofNat k0) (mm nv) = some k0) ∧ (IntKind.u8 = IntKind.u8 ∧ 1 = 1 ∧ (0 + k0 * 1) < (ln6_X c (mm nv) k0).length) ∧ (AV.int .i64 (IntKind.i64.wrap ((Int.ofNat k0) + (1 : Int)))) = (AV.int .i64 (Int.ofNat (k0 + 1))) ∧ x_ln6 nv c ((ln6_X c (mm nv) k0).set (0 + k0 * 1) c) (k0 + 1) true = x_ln6 nv c (ln6_X c (mm nv) (k0 + 1)) (k0 + 1) (dj false (k0 + 1)))) ∧ (AV.bool (decide ((Int.ofNat (mm nv)) < (Int.ofNat (mm nv))))) = (AV.bool false) ∧ (0 ≤ 0 ∧ 0 - 0 + (mm nv) ≤ (ln6_X c (mm nv) (mm nv)).length ∧ (mm nv) < 1000001) ∧ (0 ≤ 0 ∧ 0 - 0 + (mm nv) ≤ (ln6_X c (mm nv) (mm nv)).length ∧ (mm nv) < 1000001) ∧ (IntKind.u8 = IntKind.u8 ∧ (sum64 (seg (ln6_X c (mm nv) (mm nv)) (0 - 0) (mm nv)) (mm nv)).length = 32 ∧ (rsum64 (seg (ln6_X c (mm nv) (mm nv)) (0 - 0) (mm nv)) (mm nv)).length = 32) ∧ (AV.bool (bif false then !((sum64 (seg (ln6_X c (mm nv) (mm nv)) (0 - 0) (mm nv)) (mm nv)) == (rsum64 (seg (ln6_X c (mm nv) (mm nv)) (0 - 0) (mm nv)) (mm nv))) else ((sum64 (seg (ln6_X c (mm nv) (mm nv)) (0 - 0) (mm nv)) (mm nv)) == (rsum64 (seg (ln6_X c (mm nv) (mm nv)) (0 - 0) (mm nv)) (mm nv))))) = (AV.bool true) ∧ (0 ≤ 0 ∧ 0 - 0 + (mm nv) ≤ (ln6_X c (mm nv) (mm nv)).length ∧ (mm nv) < 1000001) ∧ (0 ≤ 0 ∧ 0 - 0 + (mm nv) ≤ (ln6_X c (mm nv) (mm nv)).length ∧ (mm nv) < 1000001) ∧ (IntKind.u8 = IntKind.u8 ∧ (sum128 (seg (ln6_X c (mm nv) (mm nv)) (0 - 0) (mm nv)) (mm nv)).length = 64 ∧ (rsum128 (seg (ln6_X c (mm nv) (mm nv)) (0 - 0) (mm nv)) (mm nv)).length = 64) ∧ (AV.bool (bif false then !((sum128 (seg (ln6_X c (mm nv) (mm nv)) (0 - 0) (mm nv)) (mm nv)) == (rsum128 (seg (ln6_X c (mm nv) (mm nv)) (0 - 0) (mm nv)) (mm nv))) else ((sum128 (seg (ln6_X c (mm nv) (mm nv)) (0 - 0) (mm nv)) (mm nv)) == (rsum128 (seg (ln6_X c (mm nv) (mm nv)) (0 - 0) (mm nv)) (mm nv))))) = (AV.bool true) ∧ (AV.bool true) = (AV.bool true)) else False)) := by kernel_rfl
set_option maxHeartbeats 4000000 in
set_option maxRecDepth 100000 in
theorem lengths6_W {nv c : Int} (hc : 0 ≤ c ∧ c < 256) : ∃ D H N, specW Try.prog D (cH15 Try.prog) H N 6 [.int .i64 nv, .int .u8 c] [] fun v _ => v = .bool true := by
  exact ⟨d_ln6, _, 1000, Eq.mpr (run_ln6 nv c) ⟨(aI (mm_eq nv)), (mksl_ok (by have := mm_lt nv; omega)), (bifT (blt_ok (by have := mm_lt nv; omega)) ⟨rfl, fun k0 hk0 => ⟨(aB (d_lt (a := k0) (b := mm nv) (by omega))), ⟨rfl, (inR_ok (n := k0) (by have hmm := mm_lt nv; omega))⟩, ⟨rfl, rfl, (by have hmm := mm_lt nv; first | (simp only [ln6_len]; omega) | omega)⟩, (aI (i_add (a := k0) (b := 1) (c := (k0 + 1)) (by omega) (by have hmm := mm_lt nv; omega))), rfl⟩, (aB (d_ltn (a := (mm nv)) (b := mm nv) (by omega))), ⟨(by have := mm_lt nv; omega), (by rw [ln6_len]; omega), (by have := mm_lt nv; omega)⟩, ⟨(by have := mm_lt nv; omega), (by rw [ln6_len]; omega), (by have := mm_lt nv; omega)⟩, ⟨rfl, (sum64_len _ _), (rsum64_len _ _)⟩, (beqT (sum_r64 (seg_by (ln6_by hc _ _)) _)), ⟨(by have := mm_lt nv; omega), (by rw [ln6_len]; omega), (by have := mm_lt nv; omega)⟩, ⟨(by have := mm_lt nv; omega), (by rw [ln6_len]; omega), (by have := mm_lt nv; omega)⟩, ⟨rfl, (sum128_len _ _), (rsum128_len _ _)⟩, (beqT (sum_r128 (seg_by (ln6_by hc _ _)) _)), rfl⟩)⟩⟩
end Go.Proofs.Ytkeieikhmaeiiaa
