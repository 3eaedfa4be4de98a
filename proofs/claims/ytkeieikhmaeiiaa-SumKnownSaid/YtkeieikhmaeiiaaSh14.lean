/- The laws of the sums. No condition. -/
import Derived.Test.YtkeieikhmaeiiaaSh13
namespace Go.Proofs.Ytkeieikhmaeiiaa
open Go Go.RowKit
set_option linter.unusedVariables false
set_option linter.unusedSimpArgs false
theorem sum64_len (B : List Int) (n : Nat) : (sum64 B n).length = 32 := so32_len _ _
theorem sum128_len (B : List Int) (n : Nat) : (sum128 B n).length = 64 := so64_len _ _
theorem rsum64_len (B : List Int) (n : Nat) : (rsum64 B n).length = 32 := ro32_len _ _
theorem rsum128_len (B : List Int) (n : Nat) : (rsum128 B n).length = 64 := ro64_len _ _
def h_awake6 : Hints := ⟨fun it t => match t with
  | 100001 => bif eqIt [] it then some .ask else none
  | 100002 => bif eqIt [] it then some .ask else none
  | 13 => bif eqIt [] it then some (.val (.bool true)) else none
  | 17 => bif eqIt [] it then some (.val (.bool true)) else none
  | _ => none, fun it id => match id, it with
  | _, _ => none⟩
set_option maxHeartbeats 4000000 in
set_option maxRecDepth 100000 in
theorem run_awake6  : specW Try.prog noD (cH14 Try.prog) (h_awake6) 1000 22 [] [] (fun v M => v = (.bool true) ∧ M = []) =
  ((0 ≤ 0 ∧ 0 - 0 + 3 ≤ ([97, 98, 99] : List Int).length ∧ 3 < 1000001) ∧ (0 ≤ 0 ∧ 0 - 0 + 3 ≤ ([97, 98, 99] : List Int).length ∧ 3 < 1000001) ∧ (IntKind.u8 = IntKind.u8 ∧ 0 = 0 ∧ (sum64 (seg ([97, 98, 99] : List Int) (0 - 0) 3) 3).length = 32 ∧ ([0, 0, 0, 0, 0, 0, 0, 0, 0, 0, 0, 0, 0, 0, 0, 0, 0, 0, 0, 0, 0, 0, 0, 0, 0, 0, 0, 0, 0, 0, 0, 0] : List Int).length = 32) ∧ (IntKind.u8 = IntKind.u8 ∧ 0 = 0 ∧ (sum128 (seg ([97, 98, 99] : List Int) (0 - 0) 3) 3).length = 64 ∧ ([0, 0, 0, 0, 0, 0, 0, 0, 0, 0, 0, 0, 0, 0, 0, 0, 0, 0, 0, 0, 0, 0, 0, 0, 0, 0, 0, 0, 0, 0, 0, 0, 0, 0, 0, 0, 0, 0, 0, 0, 0, 0, 0, 0, 0, 0, 0, 0, 0, 0, 0, 0, 0, 0, 0, 0, 0, 0, 0, 0, 0, 0, 0, 0] : List Int).length = 64) ∧ (0 ≤ 0 ∧ 0 - 0 + 32 ≤ (sum64 (seg ([97, 98, 99] : List Int) (0 - 0) 3) 3).length ∧ 32 < 1000001 ∧ Bys (sum64 (seg ([97, 98, 99] : List Int) (0 - 0) 3) 3)) ∧ (AV.bool ((bytesOf (hexL (seg (sum64 (seg ([97, 98, 99] : List Int) (0 - 0) 3) 3) (0 - 0) 32) 32)) == ([98, 97, 55, 56, 49, 54, 98, 102, 56, 102, 48, 49, 99, 102, 101, 97, 52, 49, 52, 49, 52, 48, 100, 101, 53, 100, 97, 101, 50, 50, 50, 51, 98, 48, 48, 51, 54, 49, 97, 51, 57, 54, 49, 55, 55, 97, 57, 99, 98, 52, 49, 48, 102, 102, 54, 49, 102, 50, 48, 48, 49, 53, 97, 100] : List UInt8))) = (AV.bool true) ∧ (0 ≤ 0 ∧ 0 - 0 + 8 ≤ (sum128 (seg ([97, 98, 99] : List Int) (0 - 0) 3) 3).length ∧ 8 < 1000001 ∧ Bys (sum128 (seg ([97, 98, 99] : List Int) (0 - 0) 3) 3)) ∧ (AV.bool ((bytesOf (hexL (seg (sum128 (seg ([97, 98, 99] : List Int) (0 - 0) 3) 3) (0 - 0) 8) 8)) == ([100, 100, 97, 102, 51, 53, 97, 49, 57, 51, 54, 49, 55, 97, 98, 97] : List UInt8))) = (AV.bool true) ∧ ((AV.bool true) = (AV.bool true) ∧ ([] : Mem) = [])) := by kernel_rfl
set_option maxHeartbeats 4000000 in
set_option maxRecDepth 100000 in
theorem awake6_ok : ∃ D H N, specW Try.prog D (cH14 Try.prog) H N 22 [] [] fun v M => v = (.bool true) ∧ M = [] := ⟨noD, _, 1000, Eq.mpr (run_awake6) ⟨⟨(by decide), (by decide), (by decide)⟩, ⟨(by decide), (by decide), (by decide)⟩, ⟨rfl, rfl, (sum64_len _ _), rfl⟩, ⟨rfl, rfl, (sum128_len _ _), rfl⟩, ⟨(by decide), (by decide), (by decide), (by decide +kernel)⟩, (beqT (by decide +kernel)), ⟨(by decide), (by decide), (by decide), (by decide +kernel)⟩, (beqT (by decide +kernel)), ⟨rfl, rfl⟩⟩⟩
def s_awake6 : Spec := fun a M => match a, M with
  | [], [] => some (none, .bool true, [])
  | _, _ => none
def cH15 (P : Program) : OrcP := addS (cH14 P) 22 s_awake6
theorem cH15_ok : OrcPOK Try.prog (cH15 Try.prog) := by
  unfold cH15
  refine (addS_ok mixed cH14_ok cH14_ok ?_)
  · intro a M q v M' h hq
    unfold s_awake6 at h
    split at h
    · simp only [Option.some.injEq, Prod.mk.injEq] at h
      obtain ⟨rfl, rfl, rfl⟩ := h
      exact awake6_ok 
    · cases h
def h_sumknown : Hints := ⟨fun it t => match t with
  | 100002 => bif eqIt [] it then some .ask else none
  | 100003 => bif eqIt [] it then some .ask else none
  | 100004 => bif eqIt [] it then some .ask else none
  | 100005 => bif eqIt [] it then some .ask else none
  | 21 => bif eqIt [] it then some (.val (.bool true)) else none
  | 25 => bif eqIt [] it then some (.val (.bool true)) else none
  | 30 => bif eqIt [] it then some (.val (.bool true)) else none
  | 35 => bif eqIt [] it then some (.val (.bool true)) else none
  | 44 => bif eqIt [] it then some (.val (.bool true)) else none
  | _ => none, fun it id => match id, it with
  | _, _ => none⟩
set_option maxHeartbeats 4000000 in
set_option maxRecDepth 100000 in
theorem run_sumknown  : specW Try.prog noD (cH15 Try.prog) (h_sumknown) 1000 4 [] [] (fun v _ => v = .bool true) =
  ((0 ≤ 0 ∧ 0 - 0 + 56 ≤ ([97, 98, 99, 100, 98, 99, 100, 101, 99, 100, 101, 102, 100, 101, 102, 103, 101, 102, 103, 104, 102, 103, 104, 105, 103, 104, 105, 106, 104, 105, 106, 107, 105, 106, 107, 108, 106, 107, 108, 109, 107, 108, 109, 110, 108, 109, 110, 111, 109, 110, 111, 112, 110, 111, 112, 113] : List Int).length ∧ 56 < 1000001) ∧ (IntKind.u8 = IntKind.u8 ∧ 0 = 0 ∧ (sum64 ([] : List Int) 0).length = 32 ∧ ([0, 0, 0, 0, 0, 0, 0, 0, 0, 0, 0, 0, 0, 0, 0, 0, 0, 0, 0, 0, 0, 0, 0, 0, 0, 0, 0, 0, 0, 0, 0, 0] : List Int).length = 32) ∧ (IntKind.u8 = IntKind.u8 ∧ 0 = 0 ∧ (sum64 (seg ([97, 98, 99, 100, 98, 99, 100, 101, 99, 100, 101, 102, 100, 101, 102, 103, 101, 102, 103, 104, 102, 103, 104, 105, 103, 104, 105, 106, 104, 105, 106, 107, 105, 106, 107, 108, 106, 107, 108, 109, 107, 108, 109, 110, 108, 109, 110, 111, 109, 110, 111, 112, 110, 111, 112, 113] : List Int) (0 - 0) 56) 56).length = 32 ∧ ([0, 0, 0, 0, 0, 0, 0, 0, 0, 0, 0, 0, 0, 0, 0, 0, 0, 0, 0, 0, 0, 0, 0, 0, 0, 0, 0, 0, 0, 0, 0, 0] : List Int).length = 32) ∧ (0 ≤ 0 ∧ 0 - 0 + 3 ≤ ([97, 98, 99] : List Int).length ∧ 3 < 1000001) ∧ (IntKind.u8 = IntKind.u8 ∧ 0 = 0 ∧ (sum128 ([] : List Int) 0).length = 64 ∧ ([0, 0, 0, 0, 0, 0, 0, 0, 0, 0, 0, 0, 0, 0, 0, 0, 0, 0, 0, 0, 0, 0, 0, 0, 0, 0, 0, 0, 0, 0, 0, 0, 0, 0, 0, 0, 0, 0, 0, 0, 0, 0, 0, 0, 0, 0, 0, 0, 0, 0, 0, 0, 0, 0, 0, 0, 0, 0, 0, 0, 0, 0, 0, 0] : List Int).length = 64) ∧ (IntKind.u8 = IntKind.u8 ∧ 0 = 0 ∧ (sum128 (seg ([97, 98, 99] : List Int) (0 - 0) 3) 3).length = 64 ∧ ([0, 0, 0, 0, 0, 0, 0, 0, 0, 0, 0, 0, 0, 0, 0, 0, 0, 0, 0, 0, 0, 0, 0, 0, 0, 0, 0, 0, 0, 0, 0, 0, 0, 0, 0, 0, 0, 0, 0, 0, 0, 0, 0, 0, 0, 0, 0, 0, 0, 0, 0, 0, 0, 0, 0, 0, 0, 0, 0, 0, 0, 0, 0, 0] : List Int).length = 64) ∧ (0 ≤ 0 ∧ 0 - 0 + 32 ≤ (sum64 ([] : List Int) 0).length ∧ 32 < 1000001 ∧ Bys (sum64 ([] : List Int) 0)) ∧ (AV.bool ((bytesOf (hexL (seg (sum64 ([] : List Int) 0) (0 - 0) 32) 32)) == ([101, 51, 98, 48, 99, 52, 52, 50, 57, 56, 102, 99, 49, 99, 49, 52, 57, 97, 102, 98, 102, 52, 99, 56, 57, 57, 54, 102, 98, 57, 50, 52, 50, 55, 97, 101, 52, 49, 101, 52, 54, 52, 57, 98, 57, 51, 52, 99, 97, 52, 57, 53, 57, 57, 49, 98, 55, 56, 53, 50, 98, 56, 53, 53] : List UInt8))) = (AV.bool true) ∧ (0 ≤ 0 ∧ 0 - 0 + 32 ≤ (sum64 (seg ([97, 98, 99, 100, 98, 99, 100, 101, 99, 100, 101, 102, 100, 101, 102, 103, 101, 102, 103, 104, 102, 103, 104, 105, 103, 104, 105, 106, 104, 105, 106, 107, 105, 106, 107, 108, 106, 107, 108, 109, 107, 108, 109, 110, 108, 109, 110, 111, 109, 110, 111, 112, 110, 111, 112, 113] : List Int) (0 - 0) 56) 56).length ∧ 32 < 1000001 ∧ Bys (sum64 (seg ([97, 98, 99, 100, 98, 99, 100, 101, 99, 100, 101, 102, 100, 101, 102, 103, 101, 102, 103, 104, 102, 103, 104, 105, 103, 104, 105, 106, 104, 105, 106, 107, 105, 106, 107, 108, 106, 107, 108, 109, 107, 108, 109, 110, 108, 109, 110, 111, 109, 110, 111, 112, 110, 111, 112, 113] : List Int) (0 - 0) 56) 56)) ∧ (AV.bool ((bytesOf (hexL (seg (sum64 (seg ([97, 98, 99, 100, 98, 99, 100, 101, 99, 100, 101, 102, 100, 101, 102, 103, 101, 102, 103, 104, 102, 103, 104, 105, 103, 104, 105, 106, 104, 105, 106, 107, 105, 106, 107, 108, 106, 107, 108, 109, 107, 108, 109, 110, 108, 109, 110, 111, 109, 110, 111, 112, 110, 111, 112, 113] : List Int) (0 - 0) 56) 56) (0 - 0) 32) 32)) == ([50, 52, 56, 100, 54, 97, 54, 49, 100, 50, 48, 54, 51, 56, 98, 56, 101, 53, 99, 48, 50, 54, 57, 51, 48, 99, 51, 101, 54, 48, 51, 57, 97, 51, 51, 99, 101, 52, 53, 57, 54, 52, 102, 102, 50, 49, 54, 55, 102, 54, 101, 99, 101, 100, 100, 52, 49, 57, 100, 98, 48, 54, 99, 49] : List UInt8))) = (AV.bool true) ∧ (0 ≤ 0 ∧ 0 - 0 + 64 ≤ (sum128 ([] : List Int) 0).length ∧ 64 < 1000001 ∧ Bys (sum128 ([] : List Int) 0)) ∧ (AV.bool ((bytesOf (hexL (seg (sum128 ([] : List Int) 0) (0 - 0) 64) 64)) == ([99, 102, 56, 51, 101, 49, 51, 53, 55, 101, 101, 102, 98, 56, 98, 100, 102, 49, 53, 52, 50, 56, 53, 48, 100, 54, 54, 100, 56, 48, 48, 55, 100, 54, 50, 48, 101, 52, 48, 53, 48, 98, 53, 55, 49, 53, 100, 99, 56, 51, 102, 52, 97, 57, 50, 49, 100, 51, 54, 99, 101, 57, 99, 101, 52, 55, 100, 48, 100, 49, 51, 99, 53, 100, 56, 53, 102, 50, 98, 48, 102, 102, 56, 51, 49, 56, 100, 50, 56, 55, 55, 101, 101, 99, 50, 102, 54, 51, 98, 57, 51, 49, 98, 100, 52, 55, 52, 49, 55, 97, 56, 49, 97, 53, 51, 56, 51, 50, 55, 97, 102, 57, 50, 55, 100, 97, 51, 101] : List UInt8))) = (AV.bool true) ∧ (0 ≤ 0 ∧ 0 - 0 + 64 ≤ (sum128 (seg ([97, 98, 99] : List Int) (0 - 0) 3) 3).length ∧ 64 < 1000001 ∧ Bys (sum128 (seg ([97, 98, 99] : List Int) (0 - 0) 3) 3)) ∧ (AV.bool ((bytesOf (hexL (seg (sum128 (seg ([97, 98, 99] : List Int) (0 - 0) 3) 3) (0 - 0) 64) 64)) == ([100, 100, 97, 102, 51, 53, 97, 49, 57, 51, 54, 49, 55, 97, 98, 97, 99, 99, 52, 49, 55, 51, 52, 57, 97, 101, 50, 48, 52, 49, 51, 49, 49, 50, 101, 54, 102, 97, 52, 101, 56, 57, 97, 57, 55, 101, 97, 50, 48, 97, 57, 101, 101, 101, 101, 54, 52, 98, 53, 53, 100, 51, 57, 97, 50, 49, 57, 50, 57, 57, 50, 97, 50, 55, 52, 102, 99, 49, 97, 56, 51, 54, 98, 97, 51, 99, 50, 51, 97, 51, 102, 101, 101, 98, 98, 100, 52, 53, 52, 100, 52, 52, 50, 51, 54, 52, 51, 99, 101, 56, 48, 101, 50, 97, 57, 97, 99, 57, 52, 102, 97, 53, 52, 99, 97, 52, 57, 102] : List UInt8))) = (AV.bool true) ∧ (0 ≤ 0 ∧ 0 - 0 + 3 ≤ ([0, 255, 16] : List Int).length ∧ 3 < 1000001 ∧ Bys ([0, 255, 16] : List Int)) ∧ (AV.bool ((bytesOf (hexL (seg ([0, 255, 16] : List Int) (0 - 0) 3) 3)) == ([48, 48, 102, 102, 49, 48] : List UInt8))) = (AV.bool true) ∧ (AV.bool true) = (AV.bool true)) := by kernel_rfl
set_option maxHeartbeats 4000000 in
set_option maxRecDepth 100000 in
theorem sumknown_ok : ∃ D H N, specW Try.prog D (cH15 Try.prog) H N 4 [] [] fun v _ => v = .bool true := ⟨noD, _, 1000, Eq.mpr (run_sumknown) ⟨⟨(by decide), (by decide), (by decide)⟩, ⟨rfl, rfl, (sum64_len _ _), rfl⟩, ⟨rfl, rfl, (sum64_len _ _), rfl⟩, ⟨(by decide), (by decide), (by decide)⟩, ⟨rfl, rfl, (sum128_len _ _), rfl⟩, ⟨rfl, rfl, (sum128_len _ _), rfl⟩, ⟨(by decide), (by decide), (by decide), (by decide +kernel)⟩, (beqT (by decide +kernel)), ⟨(by decide), (by decide), (by decide), (by decide +kernel)⟩, (beqT (by decide +kernel)), ⟨(by decide), (by decide), (by decide), (by decide +kernel)⟩, (beqT (by decide +kernel)), ⟨(by decide), (by decide), (by decide), (by decide +kernel)⟩, (beqT (by decide +kernel)), ⟨(by decide), (by decide), (by decide), (by decide +kernel)⟩, (beqT (by decide +kernel)), rfl⟩⟩
def h_says6N : Hints := ⟨fun it t => match t with
  | 100003 => bif eqIt [] it then some .ask else none
  | 100004 => bif eqIt [] it then some .ask else none
  | 16 => bif eqIt [] it then some .ask else none
  | 19 => bif eqIt [] it then some (.askv (.bool true)) else none
  | 21 => bif eqIt [] it then some .ask else none
  | 24 => bif eqIt [] it then some (.askv (.bool true)) else none
  | _ => none, fun it id => match id, it with
  | _, _ => none⟩
set_option maxHeartbeats 4000000 in
set_option maxRecDepth 100000 in
theorem run_says6N  : specW Try.prog noD (cH15 Try.prog) (h_says6N) 1000 5 [.nilsl] [] (fun v _ => v = .bool true) =
  ((IntKind.u8 = IntKind.u8 ∧ 0 = 0 ∧ (sum64 ([] : List Int) 0).length = 32 ∧ ([0, 0, 0, 0, 0, 0, 0, 0, 0, 0, 0, 0, 0, 0, 0, 0, 0, 0, 0, 0, 0, 0, 0, 0, 0, 0, 0, 0, 0, 0, 0, 0] : List Int).length = 32) ∧ (IntKind.u8 = IntKind.u8 ∧ 0 = 0 ∧ (sum128 ([] : List Int) 0).length = 64 ∧ ([0, 0, 0, 0, 0, 0, 0, 0, 0, 0, 0, 0, 0, 0, 0, 0, 0, 0, 0, 0, 0, 0, 0, 0, 0, 0, 0, 0, 0, 0, 0, 0, 0, 0, 0, 0, 0, 0, 0, 0, 0, 0, 0, 0, 0, 0, 0, 0, 0, 0, 0, 0, 0, 0, 0, 0, 0, 0, 0, 0, 0, 0, 0, 0] : List Int).length = 64) ∧ (0 = 0 ∧ (sum64 ([] : List Int) 0).length = 32) ∧ (IntKind.u8 = IntKind.u8 ∧ (sum64 ([] : List Int) 0).length = 32 ∧ (rsum64 ([] : List Int) 0).length = 32) ∧ (AV.bool (bif false then !((sum64 ([] : List Int) 0) == (rsum64 ([] : List Int) 0)) else ((sum64 ([] : List Int) 0) == (rsum64 ([] : List Int) 0)))) = (AV.bool true) ∧ (0 = 0 ∧ (sum128 ([] : List Int) 0).length = 64) ∧ (IntKind.u8 = IntKind.u8 ∧ (sum128 ([] : List Int) 0).length = 64 ∧ (rsum128 ([] : List Int) 0).length = 64) ∧ (AV.bool (bif false then !((sum128 ([] : List Int) 0) == (rsum128 ([] : List Int) 0)) else ((sum128 ([] : List Int) 0) == (rsum128 ([] : List Int) 0)))) = (AV.bool true) ∧ (AV.bool true) = (AV.bool true)) := by kernel_rfl
set_option maxHeartbeats 4000000 in
set_option maxRecDepth 100000 in
theorem says6N_W  : ∃ D H N, specW Try.prog D (cH15 Try.prog) H N 5 [.nilsl] [] fun v _ => v = .bool true := by
  exact ⟨noD, _, 1000, Eq.mpr (run_says6N) ⟨⟨rfl, rfl, (sum64_len _ _), rfl⟩, ⟨rfl, rfl, (sum128_len _ _), rfl⟩, ⟨rfl, (sum64_len _ _)⟩, ⟨rfl, (sum64_len _ _), (rsum64_len _ _)⟩, (beqT (sum_r64 (fun x hx => by cases hx) _)), ⟨rfl, (sum128_len _ _)⟩, ⟨rfl, (sum128_len _ _), (rsum128_len _ _)⟩, (beqT (sum_r128 (fun x hx => by cases hx) _)), rfl⟩⟩
def h_says6 (o base n : Nat) (lim : Option Nat) (l : List Int) : Hints := ⟨fun it t => match t with
  | 200009 => bif eqIt [] it then some .ask else none
  | 100003 => bif eqIt [] it then some .ask else none
  | 100004 => bif eqIt [] it then some .ask else none
  | 16 => bif eqIt [] it then some .ask else none
  | 19 => bif eqIt [] it then some (.askv (.bool true)) else none
  | 21 => bif eqIt [] it then some .ask else none
  | 24 => bif eqIt [] it then some (.askv (.bool true)) else none
  | 31 => bif eqIt [] it then some (.val (.bool true)) else none
  | _ => none, fun it id => match id, it with
  | _, _ => none⟩
set_option maxHeartbeats 4000000 in
set_option maxRecDepth 100000 in
theorem run_says6 (o base n : Nat) (lim : Option Nat) (l : List Int) : specW Try.prog noD (cH15 Try.prog) (h_says6 o base n lim l) 1000 5 [(.sl 0 o base n 1 lim)] [(⟨(.at o (.nums .u8 l)), .ro, false⟩ : Blk)] (fun v _ => v = .bool true) =
  (((decide ((Int.ofNat n) > 1000)) = true → (AV.bool true) = (AV.bool true)) ∧ ((decide ((Int.ofNat n) > 1000)) = false → ((o ≤ o ∧ o - o + n ≤ l.length ∧ n < 1000001) ∧ (o ≤ o ∧ o - o + n ≤ l.length ∧ n < 1000001) ∧ (IntKind.u8 = IntKind.u8 ∧ 0 = 0 ∧ (sum64 (seg l (o - o) n) n).length = 32 ∧ ([0, 0, 0, 0, 0, 0, 0, 0, 0, 0, 0, 0, 0, 0, 0, 0, 0, 0, 0, 0, 0, 0, 0, 0, 0, 0, 0, 0, 0, 0, 0, 0] : List Int).length = 32) ∧ (IntKind.u8 = IntKind.u8 ∧ 0 = 0 ∧ (sum128 (seg l (o - o) n) n).length = 64 ∧ ([0, 0, 0, 0, 0, 0, 0, 0, 0, 0, 0, 0, 0, 0, 0, 0, 0, 0, 0, 0, 0, 0, 0, 0, 0, 0, 0, 0, 0, 0, 0, 0, 0, 0, 0, 0, 0, 0, 0, 0, 0, 0, 0, 0, 0, 0, 0, 0, 0, 0, 0, 0, 0, 0, 0, 0, 0, 0, 0, 0, 0, 0, 0, 0] : List Int).length = 64) ∧ (0 = 0 ∧ (sum64 (seg l (o - o) n) n).length = 32) ∧ (o ≤ o ∧ o - o + n ≤ l.length ∧ n < 1000001) ∧ (IntKind.u8 = IntKind.u8 ∧ (sum64 (seg l (o - o) n) n).length = 32 ∧ (rsum64 (seg l (o - o) n) n).length = 32) ∧ (AV.bool (bif false then !((sum64 (seg l (o - o) n) n) == (rsum64 (seg l (o - o) n) n)) else ((sum64 (seg l (o - o) n) n) == (rsum64 (seg l (o - o) n) n)))) = (AV.bool true) ∧ (0 = 0 ∧ (sum128 (seg l (o - o) n) n).length = 64) ∧ (o ≤ o ∧ o - o + n ≤ l.length ∧ n < 1000001) ∧ (IntKind.u8 = IntKind.u8 ∧ (sum128 (seg l (o - o) n) n).length = 64 ∧ (rsum128 (seg l (o - o) n) n).length = 64) ∧ (AV.bool (bif false then !((sum128 (seg l (o - o) n) n) == (rsum128 (seg l (o - o) n) n)) else ((sum128 (seg l (o - o) n) n) == (rsum128 (seg l (o - o) n) n)))) = (AV.bool true) ∧ (o ≤ o ∧ o - o + n ≤ l.length ∧ n < 1000001 ∧ Bys l) ∧ (o ≤ o ∧ o - o + n ≤ l.length ∧ n < 1000001 ∧ Bys l) ∧ (AV.bool ((bytesOf (hexL (seg l (o - o) n) n)) == (bytesOf (hexL (seg l (o - o) n) n)))) = (AV.bool true) ∧ (AV.bool true) = (AV.bool true)))) := by kernel_rfl
set_option maxHeartbeats 4000000 in
set_option maxRecDepth 100000 in
theorem says6_W {o base n : Nat} {lim : Option Nat} {l : List Int} (hb : Bys l) (hl : n ≤ l.length) : ∃ D H N, specW Try.prog D (cH15 Try.prog) H N 5 [(.sl 0 o base n 1 lim)] [(⟨(.at o (.nums .u8 l)), .ro, false⟩ : Blk)] fun v _ => v = .bool true := by
  exact ⟨noD, _, 1000, Eq.mpr (run_says6 o base n lim l) ⟨fun hb0 => rfl, fun hb0 => have hq : n ≤ 1000 := by { have h2 := of_decide_eq_false hb0; simp only [Int.ofNat_eq_natCast] at h2; omega }; ⟨⟨(by omega), (by omega), (by have := hq; omega)⟩, ⟨(by omega), (by omega), (by have := hq; omega)⟩, ⟨rfl, rfl, (sum64_len _ _), rfl⟩, ⟨rfl, rfl, (sum128_len _ _), rfl⟩, ⟨rfl, (sum64_len _ _)⟩, ⟨(by omega), (by omega), (by have := hq; omega)⟩, ⟨rfl, (sum64_len _ _), (rsum64_len _ _)⟩, (beqT (sum_r64 (seg_by hb) _)), ⟨rfl, (sum128_len _ _)⟩, ⟨(by omega), (by omega), (by have := hq; omega)⟩, ⟨rfl, (sum128_len _ _), (rsum128_len _ _)⟩, (beqT (sum_r128 (seg_by hb) _)), ⟨(by omega), (by omega), (by have := hq; omega), hb⟩, ⟨(by omega), (by omega), (by have := hq; omega), hb⟩, (beqT rfl), rfl⟩⟩⟩
end Go.Proofs.Ytkeieikhmaeiiaa
