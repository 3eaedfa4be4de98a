/- Turned words, one round. No condition. -/
import Derived.Test.YtkeieikhmaeiiaaSh5
namespace Go.Proofs.Ytkeieikhmaeiiaa
open Go Go.RowKit
def rot64 (x : Int) (s : Nat) : Int := IntKind.u64.wrap ((BitVec.ofInt 64 (IntKind.u64.wrap (x * 2 ^ s)) ||| BitVec.ofInt 64 (Int.fdiv x (2 ^ (64 - s)))).toNat)
def Qr64 (k : Int) (s : Nat) : Prop := ∀ x, ∃ D H N, specW Try.prog D (cS Try.prog) H N 54 [.int .u64 x, .int .i64 k] [] fun v M => v = .int .u64 (rot64 x s) ∧ M = []
theorem qr64 {k : Int} {s : Nat} (h : ∀ x, specW Try.prog noD (cS Try.prog) noH 1000 54 [.int .u64 x, .int .i64 k] [] (fun v M => v = .int .u64 (rot64 x s) ∧ M = []) = (AV.int .u64 (rot64 x s) = .int .u64 (rot64 x s) ∧ ([] : Mem) = [])) : Qr64 k s := fun x => ⟨noD, noH, 1000, Eq.mpr (h x) ⟨rfl, rfl⟩⟩
theorem rn64_14 : Qr64 (Int.negSucc 13) 50 := qr64 fun x => by kernel_rfl
theorem rn64_18 : Qr64 (Int.negSucc 17) 46 := qr64 fun x => by kernel_rfl
theorem rn64_41 : Qr64 (Int.negSucc 40) 23 := qr64 fun x => by kernel_rfl
theorem rn64_28 : Qr64 (Int.negSucc 27) 36 := qr64 fun x => by kernel_rfl
theorem rn64_34 : Qr64 (Int.negSucc 33) 30 := qr64 fun x => by kernel_rfl
theorem rn64_39 : Qr64 (Int.negSucc 38) 25 := qr64 fun x => by kernel_rfl
theorem rn64_1 : Qr64 (Int.negSucc 0) 63 := qr64 fun x => by kernel_rfl
theorem rn64_8 : Qr64 (Int.negSucc 7) 56 := qr64 fun x => by kernel_rfl
theorem rn64_19 : Qr64 (Int.negSucc 18) 45 := qr64 fun x => by kernel_rfl
theorem rn64_61 : Qr64 (Int.negSucc 60) 3 := qr64 fun x => by kernel_rfl
theorem rp64_50 : Qr64 (Int.ofNat 50) 50 := qr64 fun x => by kernel_rfl
theorem rp64_46 : Qr64 (Int.ofNat 46) 46 := qr64 fun x => by kernel_rfl
theorem rp64_23 : Qr64 (Int.ofNat 23) 23 := qr64 fun x => by kernel_rfl
theorem rp64_36 : Qr64 (Int.ofNat 36) 36 := qr64 fun x => by kernel_rfl
theorem rp64_30 : Qr64 (Int.ofNat 30) 30 := qr64 fun x => by kernel_rfl
theorem rp64_25 : Qr64 (Int.ofNat 25) 25 := qr64 fun x => by kernel_rfl
theorem rp64_63 : Qr64 (Int.ofNat 63) 63 := qr64 fun x => by kernel_rfl
theorem rp64_56 : Qr64 (Int.ofNat 56) 56 := qr64 fun x => by kernel_rfl
theorem rp64_45 : Qr64 (Int.ofNat 45) 45 := qr64 fun x => by kernel_rfl
theorem rp64_3 : Qr64 (Int.ofNat 3) 3 := qr64 fun x => by kernel_rfl
def rnL64 : List (Nat × Nat) := [(13, 50), (17, 46), (40, 23), (27, 36), (33, 30), (38, 25), (0, 63), (7, 56), (18, 45), (60, 3)]
def rpL64 : List (Nat × Nat) := [(50, 50), (46, 46), (23, 23), (36, 36), (30, 30), (25, 25), (63, 63), (56, 56), (45, 45), (3, 3)]
theorem rn64_all : Each (fun k s => Qr64 (Int.negSucc k) s) rnL64 := ⟨rn64_14, rn64_18, rn64_41, rn64_28, rn64_34, rn64_39, rn64_1, rn64_8, rn64_19, rn64_61, trivial⟩
theorem rp64_all : Each (fun k s => Qr64 (Int.ofNat k) s) rpL64 := ⟨rp64_50, rp64_46, rp64_23, rp64_36, rp64_30, rp64_25, rp64_63, rp64_56, rp64_45, rp64_3, trivial⟩
def s_rot64 : Spec := fun a M => match a, M with
  | [.int .u64 x, .int .i64 (.negSucc k)], [] => match look rnL64 k with
    | some s => some (none, .int .u64 (rot64 x s), [])
    | none => none
  | [.int .u64 x, .int .i64 (.ofNat k)], [] => match look rpL64 k with
    | some s => some (none, .int .u64 (rot64 x s), [])
    | none => none
  | _, _ => none
def rot32 (x : Int) (s : Nat) : Int := IntKind.u32.wrap ((BitVec.ofInt 32 (IntKind.u32.wrap (x * 2 ^ s)) ||| BitVec.ofInt 32 (Int.fdiv x (2 ^ (32 - s)))).toNat)
def Qr32 (k : Int) (s : Nat) : Prop := ∀ x, ∃ D H N, specW Try.prog D (cS Try.prog) H N 53 [.int .u32 x, .int .i64 k] [] fun v M => v = .int .u32 (rot32 x s) ∧ M = []
theorem qr32 {k : Int} {s : Nat} (h : ∀ x, specW Try.prog noD (cS Try.prog) noH 1000 53 [.int .u32 x, .int .i64 k] [] (fun v M => v = .int .u32 (rot32 x s) ∧ M = []) = (AV.int .u32 (rot32 x s) = .int .u32 (rot32 x s) ∧ ([] : Mem) = [])) : Qr32 k s := fun x => ⟨noD, noH, 1000, Eq.mpr (h x) ⟨rfl, rfl⟩⟩
theorem rn32_6 : Qr32 (Int.negSucc 5) 26 := qr32 fun x => by kernel_rfl
theorem rn32_11 : Qr32 (Int.negSucc 10) 21 := qr32 fun x => by kernel_rfl
theorem rn32_25 : Qr32 (Int.negSucc 24) 7 := qr32 fun x => by kernel_rfl
theorem rn32_2 : Qr32 (Int.negSucc 1) 30 := qr32 fun x => by kernel_rfl
theorem rn32_13 : Qr32 (Int.negSucc 12) 19 := qr32 fun x => by kernel_rfl
theorem rn32_22 : Qr32 (Int.negSucc 21) 10 := qr32 fun x => by kernel_rfl
theorem rn32_7 : Qr32 (Int.negSucc 6) 25 := qr32 fun x => by kernel_rfl
theorem rn32_18 : Qr32 (Int.negSucc 17) 14 := qr32 fun x => by kernel_rfl
theorem rn32_17 : Qr32 (Int.negSucc 16) 15 := qr32 fun x => by kernel_rfl
theorem rn32_19 : Qr32 (Int.negSucc 18) 13 := qr32 fun x => by kernel_rfl
theorem rp32_26 : Qr32 (Int.ofNat 26) 26 := qr32 fun x => by kernel_rfl
theorem rp32_21 : Qr32 (Int.ofNat 21) 21 := qr32 fun x => by kernel_rfl
theorem rp32_7 : Qr32 (Int.ofNat 7) 7 := qr32 fun x => by kernel_rfl
theorem rp32_30 : Qr32 (Int.ofNat 30) 30 := qr32 fun x => by kernel_rfl
theorem rp32_19 : Qr32 (Int.ofNat 19) 19 := qr32 fun x => by kernel_rfl
theorem rp32_10 : Qr32 (Int.ofNat 10) 10 := qr32 fun x => by kernel_rfl
theorem rp32_25 : Qr32 (Int.ofNat 25) 25 := qr32 fun x => by kernel_rfl
theorem rp32_14 : Qr32 (Int.ofNat 14) 14 := qr32 fun x => by kernel_rfl
theorem rp32_15 : Qr32 (Int.ofNat 15) 15 := qr32 fun x => by kernel_rfl
theorem rp32_13 : Qr32 (Int.ofNat 13) 13 := qr32 fun x => by kernel_rfl
def rnL32 : List (Nat × Nat) := [(5, 26), (10, 21), (24, 7), (1, 30), (12, 19), (21, 10), (6, 25), (17, 14), (16, 15), (18, 13)]
def rpL32 : List (Nat × Nat) := [(26, 26), (21, 21), (7, 7), (30, 30), (19, 19), (10, 10), (25, 25), (14, 14), (15, 15), (13, 13)]
theorem rn32_all : Each (fun k s => Qr32 (Int.negSucc k) s) rnL32 := ⟨rn32_6, rn32_11, rn32_25, rn32_2, rn32_13, rn32_22, rn32_7, rn32_18, rn32_17, rn32_19, trivial⟩
theorem rp32_all : Each (fun k s => Qr32 (Int.ofNat k) s) rpL32 := ⟨rp32_26, rp32_21, rp32_7, rp32_30, rp32_19, rp32_10, rp32_25, rp32_14, rp32_15, rp32_13, trivial⟩
def s_rot32 : Spec := fun a M => match a, M with
  | [.int .u32 x, .int .i64 (.negSucc k)], [] => match look rnL32 k with
    | some s => some (none, .int .u32 (rot32 x s), [])
    | none => none
  | [.int .u32 x, .int .i64 (.ofNat k)], [] => match look rpL32 k with
    | some s => some (none, .int .u32 (rot32 x s), [])
    | none => none
  | _, _ => none
def cH6a (P : Program) : OrcP := addS (cH5 P) 54 s_rot64
theorem cH6a_ok : OrcPOK Try.prog (cH6a Try.prog) := by
  unfold cH6a
  refine addS_ok mixed cH5_ok cS_ok ?_
  intro a M q v M' h hq
  unfold s_rot64 at h
  split at h
  · split at h
    · rename_i y hl
      simp only [Option.some.injEq, Prod.mk.injEq] at h
      obtain ⟨rfl, rfl, rfl⟩ := h
      exact look_each rn64_all hl _
    · cases h
  · split at h
    · rename_i y hl
      simp only [Option.some.injEq, Prod.mk.injEq] at h
      obtain ⟨rfl, rfl, rfl⟩ := h
      exact look_each rp64_all hl _
    · cases h
  · cases h
def cH6 (P : Program) : OrcP := addS (cH6a P) 53 s_rot32
theorem cH6_ok : OrcPOK Try.prog (cH6 Try.prog) := by
  unfold cH6
  refine addS_ok mixed cH6a_ok cS_ok ?_
  intro a M q v M' h hq
  unfold s_rot32 at h
  split at h
  · split at h
    · rename_i y hl
      simp only [Option.some.injEq, Prod.mk.injEq] at h
      obtain ⟨rfl, rfl, rfl⟩ := h
      exact look_each rn32_all hl _
    · cases h
  · split at h
    · rename_i y hl
      simp only [Option.some.injEq, Prod.mk.injEq] at h
      obtain ⟨rfl, rfl, rfl⟩ := h
      exact look_each rp32_all hl _
    · cases h
  · cases h
def turn64 (v0 v1 v2 v3 v4 v5 v6 v7 x : Int) : List Int := [(IntKind.u64.wrap ((IntKind.u64.wrap ((IntKind.u64.wrap ((IntKind.u64.wrap (v7 + (IntKind.u64.wrap ((BitVec.ofInt 64 (IntKind.u64.wrap ((BitVec.ofInt 64 (rot64 v4 50) ^^^ BitVec.ofInt 64 (rot64 v4 46)).toNat)) ^^^ BitVec.ofInt 64 (rot64 v4 23)).toNat)))) + (IntKind.u64.wrap ((BitVec.ofInt 64 (IntKind.u64.wrap ((BitVec.ofInt 64 v4 &&& BitVec.ofInt 64 v5).toNat)) ^^^ BitVec.ofInt 64 (IntKind.u64.wrap ((BitVec.ofInt 64 (IntKind.u64.wrap ((BitVec.ofInt 64 (18446744073709551615 : Int) ^^^ BitVec.ofInt 64 v4).toNat)) &&& BitVec.ofInt 64 v6).toNat))).toNat)))) + x)) + (IntKind.u64.wrap ((IntKind.u64.wrap ((BitVec.ofInt 64 (IntKind.u64.wrap ((BitVec.ofInt 64 (rot64 v0 36) ^^^ BitVec.ofInt 64 (rot64 v0 30)).toNat)) ^^^ BitVec.ofInt 64 (rot64 v0 25)).toNat)) + (IntKind.u64.wrap ((BitVec.ofInt 64 (IntKind.u64.wrap ((BitVec.ofInt 64 (IntKind.u64.wrap ((BitVec.ofInt 64 v0 &&& BitVec.ofInt 64 v1).toNat)) ^^^ BitVec.ofInt 64 (IntKind.u64.wrap ((BitVec.ofInt 64 v0 &&& BitVec.ofInt 64 v2).toNat))).toNat)) ^^^ BitVec.ofInt 64 (IntKind.u64.wrap ((BitVec.ofInt 64 v1 &&& BitVec.ofInt 64 v2).toNat))).toNat)))))),
  v0,
  v1,
  v2,
  (IntKind.u64.wrap (v3 + (IntKind.u64.wrap ((IntKind.u64.wrap ((IntKind.u64.wrap (v7 + (IntKind.u64.wrap ((BitVec.ofInt 64 (IntKind.u64.wrap ((BitVec.ofInt 64 (rot64 v4 50) ^^^ BitVec.ofInt 64 (rot64 v4 46)).toNat)) ^^^ BitVec.ofInt 64 (rot64 v4 23)).toNat)))) + (IntKind.u64.wrap ((BitVec.ofInt 64 (IntKind.u64.wrap ((BitVec.ofInt 64 v4 &&& BitVec.ofInt 64 v5).toNat)) ^^^ BitVec.ofInt 64 (IntKind.u64.wrap ((BitVec.ofInt 64 (IntKind.u64.wrap ((BitVec.ofInt 64 (18446744073709551615 : Int) ^^^ BitVec.ofInt 64 v4).toNat)) &&& BitVec.ofInt 64 v6).toNat))).toNat)))) + x)))),
  v4,
  v5,
  v6]
theorem turn64_run (v0 v1 v2 v3 v4 v5 v6 v7 x : Int) : specW Try.prog noD (cH6 Try.prog) noH 1000 61 [.ptr 0 0, .int .u64 x] [⟨.nums .u64 [v0, v1, v2, v3, v4, v5, v6, v7], .own, false⟩] (fun v M => v = (AV.tup []) ∧ M = [⟨.nums .u64 (turn64 v0 v1 v2 v3 v4 v5 v6 v7 x), .own, true⟩]) = ((AV.tup []) = (AV.tup []) ∧ ([⟨.nums .u64 (turn64 v0 v1 v2 v3 v4 v5 v6 v7 x), .own, true⟩] : Mem) = [⟨.nums .u64 (turn64 v0 v1 v2 v3 v4 v5 v6 v7 x), .own, true⟩]) := by kernel_rfl
def turn32 (v0 v1 v2 v3 v4 v5 v6 v7 x : Int) : List Int := [(IntKind.u32.wrap ((IntKind.u32.wrap ((IntKind.u32.wrap ((IntKind.u32.wrap (v7 + (IntKind.u32.wrap ((BitVec.ofInt 32 (IntKind.u32.wrap ((BitVec.ofInt 32 (rot32 v4 26) ^^^ BitVec.ofInt 32 (rot32 v4 21)).toNat)) ^^^ BitVec.ofInt 32 (rot32 v4 7)).toNat)))) + (IntKind.u32.wrap ((BitVec.ofInt 32 (IntKind.u32.wrap ((BitVec.ofInt 32 v4 &&& BitVec.ofInt 32 v5).toNat)) ^^^ BitVec.ofInt 32 (IntKind.u32.wrap ((BitVec.ofInt 32 (IntKind.u32.wrap ((BitVec.ofInt 32 (4294967295 : Int) ^^^ BitVec.ofInt 32 v4).toNat)) &&& BitVec.ofInt 32 v6).toNat))).toNat)))) + x)) + (IntKind.u32.wrap ((IntKind.u32.wrap ((BitVec.ofInt 32 (IntKind.u32.wrap ((BitVec.ofInt 32 (rot32 v0 30) ^^^ BitVec.ofInt 32 (rot32 v0 19)).toNat)) ^^^ BitVec.ofInt 32 (rot32 v0 10)).toNat)) + (IntKind.u32.wrap ((BitVec.ofInt 32 (IntKind.u32.wrap ((BitVec.ofInt 32 (IntKind.u32.wrap ((BitVec.ofInt 32 v0 &&& BitVec.ofInt 32 v1).toNat)) ^^^ BitVec.ofInt 32 (IntKind.u32.wrap ((BitVec.ofInt 32 v0 &&& BitVec.ofInt 32 v2).toNat))).toNat)) ^^^ BitVec.ofInt 32 (IntKind.u32.wrap ((BitVec.ofInt 32 v1 &&& BitVec.ofInt 32 v2).toNat))).toNat)))))),
  v0,
  v1,
  v2,
  (IntKind.u32.wrap (v3 + (IntKind.u32.wrap ((IntKind.u32.wrap ((IntKind.u32.wrap (v7 + (IntKind.u32.wrap ((BitVec.ofInt 32 (IntKind.u32.wrap ((BitVec.ofInt 32 (rot32 v4 26) ^^^ BitVec.ofInt 32 (rot32 v4 21)).toNat)) ^^^ BitVec.ofInt 32 (rot32 v4 7)).toNat)))) + (IntKind.u32.wrap ((BitVec.ofInt 32 (IntKind.u32.wrap ((BitVec.ofInt 32 v4 &&& BitVec.ofInt 32 v5).toNat)) ^^^ BitVec.ofInt 32 (IntKind.u32.wrap ((BitVec.ofInt 32 (IntKind.u32.wrap ((BitVec.ofInt 32 (4294967295 : Int) ^^^ BitVec.ofInt 32 v4).toNat)) &&& BitVec.ofInt 32 v6).toNat))).toNat)))) + x)))),
  v4,
  v5,
  v6]
theorem turn32_run (v0 v1 v2 v3 v4 v5 v6 v7 x : Int) : specW Try.prog noD (cH6 Try.prog) noH 1000 60 [.ptr 0 0, .int .u32 x] [⟨.nums .u32 [v0, v1, v2, v3, v4, v5, v6, v7], .own, false⟩] (fun v M => v = (AV.tup []) ∧ M = [⟨.nums .u32 (turn32 v0 v1 v2 v3 v4 v5 v6 v7 x), .own, true⟩]) = ((AV.tup []) = (AV.tup []) ∧ ([⟨.nums .u32 (turn32 v0 v1 v2 v3 v4 v5 v6 v7 x), .own, true⟩] : Mem) = [⟨.nums .u32 (turn32 v0 v1 v2 v3 v4 v5 v6 v7 x), .own, true⟩]) := by kernel_rfl
end Go.Proofs.Ytkeieikhmaeiiaa
