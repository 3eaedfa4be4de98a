/- Awake. No condition. -/
import Derived.Test.YtkeieikhmaeiiaaSh13
namespace Go.Proofs.Ytkeieikhmaeiiaa
open Go Go.RowKit
set_option linter.unusedVariables false
set_option linter.unusedSimpArgs false
theorem sum64_len (B : List Int) (n : Nat) : (sum64 B n).length = 32 := so32_len _ _
theorem sum128_len (B : List Int) (n : Nat) : (sum128 B n).length = 64 := so64_len _ _
theorem rsum64_len (B : List Int) (n : Nat) : (rsum64 B n).length = 32 := ro32_len _ _
theorem rsum128_len (B : List Int) (n : Nat) : (rsum128 B n).length = 64 := ro64_len _ _
def h_awake6 : Hints := ⟨fun it t => match t with
  | 100001 => bif eqIt [] it then some .ask else none
  | 100002 => bif eqIt [] it then some .ask else none
  | 13 => bif eqIt [] it then some (.val (.bool true)) else none
  | 17 => bif eqIt [] it then some (.val (.bool true)) else none
  | _ => none, fun it id => match id, it with
  | _, _ => none⟩
set_option maxHeartbeats 4000000 in
set_option maxRecDepth 100000 in
theorem run_awake6  : specW Try.prog noD (cH14 Try.prog) (h_awake6) 1000 22 [] [] (fun v M => v = (.bool true) ∧ M = []) =
  ((0 ≤ 0 ∧ 0 - 0 + 3 ≤ ([97, 98, 99] : List Int).length ∧ 3 < 1000001) ∧ (0 ≤ 0 ∧ 0 - 0 + 3 ≤ ([97, 98, 99] : List Int).length ∧ 3 < 1000001) ∧ (IntKind.u8 = IntKind.u8 ∧ 0 = 0 ∧ (sum64 (seg ([97, 98, 99] : List Int) (0 - 0) 3) 3).length = 32 ∧ ([0, 0, 0, 0, 0, 0, 0, 0, 0, 0, 0, 0, 0, 0, 0, 0, 0, 0, 0, 0, 0, 0, 0, 0, 0, 0, 0, 0, 0, 0, 0, 0] : List Int).length = 32) ∧ (IntKind.u8 = IntKind.u8 ∧ 0 = 0 ∧ (sum128 (seg ([97, 98, 99] : List Int) (0 - 0) 3) 3).length = 64 ∧ ([0, 0, 0, 0, 0, 0, 0, 0, 0, 0, 0, 0, 0, 0, 0, 0, 0, 0, 0, 0, 0, 0, 0, 0, 0, 0, 0, 0, 0, 0, 0, 0, 0, 0, 0, 0, 0, 0, 0, 0, 0, 0, 0, 0, 0, 0, 0, 0, 0, 0, 0, 0, 0, 0, 0, 0, 0, 0, 0, 0, 0, 0, 0, 0] : List Int).length = 64) ∧ (0 ≤ 0 ∧ 0 - 0 + 32 ≤ (sum64 (seg ([97, 98, 99] : List Int) (0 - 0) 3) 3).length ∧ 32 < 1000001 ∧ Bys (sum64 (seg ([97, 98, 99] : List Int) (0 - 0) 3) 3)) ∧ (AV.bool ((bytesOf (hexL (seg (sum64 (seg ([97, 98, 99] : List Int) (0 - 0) 3) 3) (0 - 0) 32) 32)) == ([98, 97, 55, 56, 49, 54, 98, 102, 56, 102, 48, 49, 99, 102, 101, 97, 52, 49, 52, 49, 52, 48, 100, 101, 53, 100, 97, 101, 50, 50, 50, 51, 98, 48, 48, 51, 54, 49, 97, 51, 57, 54, 49, 55, 55, 97, 57, 99, 98, 52, 49, 48, 102, 102, 54, 49, 102, 50, 48, 48, 49, 53, 97, 100] : List UInt8))) = (AV.bool true) ∧ (0 ≤ 0 ∧ 0 - 0 + 8 ≤ (sum128 (seg ([97, 98, 99] : List Int) (0 - 0) 3) 3).length ∧ 8 < 1000001 ∧ Bys (sum128 (seg ([97, 98, 99] : List Int) (0 - 0) 3) 3)) ∧ (AV.bool ((bytesOf (hexL (seg (sum128 (seg ([97, 98, 99] : List Int) (0 - 0) 3) 3) (0 - 0) 8) 8)) == ([100, 100, 97, 102, 51, 53, 97, 49, 57, 51, 54, 49, 55, 97, 98, 97] : List UInt8))) = (AV.bool true) ∧ ((AV.bool true) = (AV.bool true) ∧ ([] : Mem) = [])) := by kernel_rfl
set_option maxHeartbeats 4000000 in
set_option maxRecDepth 100000 in
theorem awake6_ok : ∃ D H N, specW Try.prog D (cH14 Try.prog) H N 22 [] [] fun v M => v = (.bool true) ∧ M = [] := ⟨noD, _, 1000, Eq.mpr (run_awake6) ⟨⟨(by decide), (by decide), (by decide)⟩, ⟨(by decide), (by decide), (by decide)⟩, ⟨rfl, rfl, (sum64_len _ _), rfl⟩, ⟨rfl, rfl, (sum128_len _ _), rfl⟩, ⟨(by decide), (by decide), (by decide), (by decide +kernel)⟩, (beqT (by decide +kernel)), ⟨(by decide), (by decide), (by decide), (by decide +kernel)⟩, (beqT (by decide +kernel)), ⟨rfl, rfl⟩⟩⟩
def s_awake6 : Spec := fun a M => match a, M with
  | [], [] => some (none, .bool true, [])
  | _, _ => none
def cH15 (P : Program) : OrcP := addS (cH14 P) 22 s_awake6
theorem cH15_ok : OrcPOK Try.prog (cH15 Try.prog) := by
  unfold cH15
  refine (addS_ok mixed cH14_ok cH14_ok ?_)
  · intro a M q v M' h hq
    unfold s_awake6 at h
    split at h
    · simp only [Option.some.injEq, Prod.mk.injEq] at h
      obtain ⟨rfl, rfl, rfl⟩ := h
      exact awake6_ok 
    · cases h
end Go.Proofs.Ytkeieikhmaeiiaa
