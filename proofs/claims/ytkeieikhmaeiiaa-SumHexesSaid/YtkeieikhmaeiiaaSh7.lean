/- Blocks mixed in. No condition. -/
import Derived.Test.YtkeieikhmaeiiaaSh6
namespace Go.Proofs.Ytkeieikhmaeiiaa
open Go Go.RowKit
set_option linter.unusedVariables false
set_option linter.unusedSimpArgs false
theorem i_add {a b c : Nat} (hc : a + b = c) (h : c < 4611686018427387904) : IntKind.i64.wrap (Int.ofNat a + Int.ofNat b) = Int.ofNat c := by subst hc; exact i64_small (a + b) (by omega)
theorem i_sub {a b : Nat} (h : b ≤ a) (h2 : a < 4611686018427387904) : IntKind.i64.wrap (Int.ofNat a - Int.ofNat b) = Int.ofNat (a - b) := by
  have : Int.ofNat a - Int.ofNat b = Int.ofNat (a - b) := by simp only [Int.ofNat_eq_natCast]; omega
  rw [this]; exact i64_small (a - b) (by omega)
theorem i_mul {a b : Nat} (h : a * b < 4611686018427387904) : IntKind.i64.wrap (Int.ofNat a * Int.ofNat b) = Int.ofNat (a * b) := i64_small (a * b) (by omega)
theorem i_quo {a b : Nat} (h : a < 4611686018427387904) : IntKind.i64.wrap (Int.tdiv (Int.ofNat a) (Int.ofNat b)) = Int.ofNat (a / b) := i64_small (a / b) (Nat.lt_of_le_of_lt (Nat.div_le_self _ _) (by omega))
theorem i_rem {a b : Nat} : Int.tmod (Int.ofNat a) (Int.ofNat b) = Int.ofNat (a % b) := rfl
theorem d_lt {a b : Nat} (h : a < b) : decide (Int.ofNat a < Int.ofNat b) = true := decide_eq_true (Int.ofNat_lt.2 h)
theorem d_ltn {a b : Nat} (h : b ≤ a) : decide (Int.ofNat a < Int.ofNat b) = false := decide_eq_false fun k => by have := Int.ofNat_lt.1 k; omega
theorem d_gt {a b : Nat} (h : b < a) : decide (Int.ofNat a > Int.ofNat b) = true := decide_eq_true (Int.ofNat_lt.2 h)
theorem d_gtn {a b : Nat} (h : a ≤ b) : decide (Int.ofNat a > Int.ofNat b) = false := decide_eq_false fun k => by have := Int.ofNat_lt.1 k; omega
theorem d_ge {a b : Nat} (h : b ≤ a) : decide (Int.ofNat a ≥ Int.ofNat b) = true := decide_eq_true (Int.ofNat_le.2 h)
theorem d_gen {a b : Nat} (h : a < b) : decide (Int.ofNat a ≥ Int.ofNat b) = false := decide_eq_false fun k => by have := Int.ofNat_le.1 k; omega
theorem d_le {a b : Nat} (h : a ≤ b) : decide (Int.ofNat a ≤ Int.ofNat b) = true := decide_eq_true (Int.ofNat_le.2 h)
theorem d_len {a b : Nat} (h : b < a) : decide (Int.ofNat a ≤ Int.ofNat b) = false := decide_eq_false fun k => by have := Int.ofNat_le.1 k; omega
theorem lt_of {a b : Nat} (h : decide (Int.ofNat a < Int.ofNat b) = true) : a < b := Int.ofNat_lt.1 (of_decide_eq_true h)
theorem ge_of {a b : Nat} (h : decide (Int.ofNat a < Int.ofNat b) = false) : b ≤ a := by
  have := of_decide_eq_false h
  have h2 : ¬ a < b := fun k => this (Int.ofNat_lt.2 k)
  omega
/-- Written? -/
def dj (d : Bool) : Nat → Bool
  | 0 => d
  | _ + 1 => true
theorem sl2_ok {C : Orc} {M : Mem} {i off base len a b c : Nat} {lim : Option Nat} {ka kb : IntKind} (hb : b = a + c) (h : b ≤ len) : psem C (.slS 1 true true) [.sl i off base len 1 lim, .int ka (Int.ofNat a), .int kb (Int.ofNat b)] M = some (.sl i (off + a) (bif Nat.beq a 0 then base else off) c 1 lim, M, ⟨[], [], false, false⟩) := by
  have h1 : Nat.ble b len = true := ble_ok h
  have h2 : Nat.ble a b = true := ble_ok (by omega)
  simp only [psem, beq_ok, cond_true, boundsA, inB, h1, h2, Nat.mul_one, show b - a = c by omega]
  rfl
def turnL32 (L : List Int) (x : Int) : List Int := turn32 (L.getD 0 0) (L.getD 1 0) (L.getD 2 0) (L.getD 3 0) (L.getD 4 0) (L.getD 5 0) (L.getD 6 0) (L.getD 7 0) x
theorem turnL32_len (L : List Int) (x : Int) : (turnL32 L x).length = 8 := rfl
theorem turnL32_ok {L : List Int} {x : Int} (h : L.length = 8) : ∃ D H N, specW Try.prog D (cH6 Try.prog) H N 60 [.ptr 0 0, .int .u32 x] [⟨.nums .u32 L, .own, false⟩] fun v M => v = .tup [] ∧ M = [⟨.nums .u32 (turnL32 L x), .own, true⟩] := by
  match L, h with
  | [v0, v1, v2, v3, v4, v5, v6, v7], _ => exact ⟨noD, noH, 1000, Eq.mpr (turn32_run v0 v1 v2 v3 v4 v5 v6 v7 x) ⟨rfl, rfl⟩⟩
def s_turn32 : Spec := fun a M => match a, M with
  | [.ptr 0 0, .int .u32 x], [⟨.nums .u32 L, .own, false⟩] => some (some (L.length = 8), .tup [], [⟨.nums .u32 (turnL32 L x), .own, true⟩])
  | _, _ => none
def turnL64 (L : List Int) (x : Int) : List Int := turn64 (L.getD 0 0) (L.getD 1 0) (L.getD 2 0) (L.getD 3 0) (L.getD 4 0) (L.getD 5 0) (L.getD 6 0) (L.getD 7 0) x
theorem turnL64_len (L : List Int) (x : Int) : (turnL64 L x).length = 8 := rfl
theorem turnL64_ok {L : List Int} {x : Int} (h : L.length = 8) : ∃ D H N, specW Try.prog D (cH6 Try.prog) H N 61 [.ptr 0 0, .int .u64 x] [⟨.nums .u64 L, .own, false⟩] fun v M => v = .tup [] ∧ M = [⟨.nums .u64 (turnL64 L x), .own, true⟩] := by
  match L, h with
  | [v0, v1, v2, v3, v4, v5, v6, v7], _ => exact ⟨noD, noH, 1000, Eq.mpr (turn64_run v0 v1 v2 v3 v4 v5 v6 v7 x) ⟨rfl, rfl⟩⟩
def s_turn64 : Spec := fun a M => match a, M with
  | [.ptr 0 0, .int .u64 x], [⟨.nums .u64 L, .own, false⟩] => some (some (L.length = 8), .tup [], [⟨.nums .u64 (turnL64 L x), .own, true⟩])
  | _, _ => none
def cH7 (P : Program) : OrcP := addS (addS (cH6 P) 60 s_turn32) 61 s_turn64
theorem cH7_ok : OrcPOK Try.prog (cH7 Try.prog) := by
  unfold cH7
  refine (addS_ok mixed (addS_ok mixed cH6_ok cH6_ok ?_) cH6_ok ?_)
  · intro a M q v M' h hq
    unfold s_turn32 at h
    split at h
    · simp only [Option.some.injEq, Prod.mk.injEq] at h
      obtain ⟨rfl, rfl, rfl⟩ := h
      exact turnL32_ok hq
    · cases h
  · intro a M q v M' h hq
    unfold s_turn64 at h
    split at h
    · simp only [Option.some.injEq, Prod.mk.injEq] at h
      obtain ⟨rfl, rfl, rfl⟩ := h
      exact turnL64_ok hq
    · cases h
def mi32_W (L : List Int) (B : List Int) (o : Nat) (i : Nat) : Nat → List Int
  | 0 => L
  | k1 + 1 => ((mi32_W L B o i k1).set (0 + i * 1) (IntKind.u32.wrap ((BitVec.ofInt 32 (IntKind.u32.wrap (((mi32_W L B o i k1).getD (0 + i * 1) 0) * 2 ^ 8)) ||| BitVec.ofInt 32 (IntKind.u32.wrap (B.getD ((o + (4 * i)) + k1 * 1) 0))).toNat)))
theorem mi32_W_s (L : List Int) (B : List Int) (o : Nat) (i : Nat) (k1 : Nat) : mi32_W L B o i (k1 + 1) = ((mi32_W L B o i k1).set (0 + i * 1) (IntKind.u32.wrap ((BitVec.ofInt 32 (IntKind.u32.wrap (((mi32_W L B o i k1).getD (0 + i * 1) 0) * 2 ^ 8)) ||| BitVec.ofInt 32 (IntKind.u32.wrap (B.getD ((o + (4 * i)) + k1 * 1) 0))).toNat))) := rfl
def mi32 (vv B K : List Int) (o bs : Nat) (lm : Option Nat) (W : List Int) (j : Nat) (k : Nat) (d : Bool) : St := ⟨((.ptr 0 0) :: ((.sl 1 o bs 64 1 lm) :: ((.sl 2 0 0 64 1 none) :: (jk 3 ((.ptr 3 0) :: ((.int .i64 (Int.ofNat k)) :: (jk 11 ((.int .i64 (Int.ofNat k)) :: (jk 10 ((.sl 1 (o + (4 * k)) (bif Nat.beq (4 * k) 0 then bs else o) 4 1 lm) :: ((.int .i64 4) :: ((.int .i64 (Int.ofNat j)) :: (jk 89 []))))))))))))), [⟨(.nums .u32 vv), .own, false⟩, ⟨(.nums .u8 B), .grow, false⟩, ⟨(.nums .u64 K), .grow, false⟩, ⟨(.nums .u32 W), .own, d⟩]⟩
def mw32_W (B : List Int) (o : Nat) : Nat → List Int
  | 0 => (List.replicate 64 0)
  | k0 + 1 => (bif (decide ((Int.ofNat k0) < 16)) then (mi32_W (mw32_W B o k0) B o k0 4) else ((mw32_W B o k0).set (0 + k0 * 1) (IntKind.u32.wrap ((IntKind.u32.wrap ((IntKind.u32.wrap (((mw32_W B o k0).getD (0 + (k0 - 16) * 1) 0) + (IntKind.u32.wrap ((BitVec.ofInt 32 (IntKind.u32.wrap ((BitVec.ofInt 32 (rot32 ((mw32_W B o k0).getD (0 + (k0 - 15) * 1) 0) 25) ^^^ BitVec.ofInt 32 (rot32 ((mw32_W B o k0).getD (0 + (k0 - 15) * 1) 0) 14)).toNat)) ^^^ BitVec.ofInt 32 (Int.fdiv ((mw32_W B o k0).getD (0 + (k0 - 15) * 1) 0) (2 ^ 3))).toNat)))) + ((mw32_W B o k0).getD (0 + (k0 - 7) * 1) 0))) + (IntKind.u32.wrap ((BitVec.ofInt 32 (IntKind.u32.wrap ((BitVec.ofInt 32 (rot32 ((mw32_W B o k0).getD (0 + (k0 - 2) * 1) 0) 15) ^^^ BitVec.ofInt 32 (rot32 ((mw32_W B o k0).getD (0 + (k0 - 2) * 1) 0) 13)).toNat)) ^^^ BitVec.ofInt 32 (Int.fdiv ((mw32_W B o k0).getD (0 + (k0 - 2) * 1) 0) (2 ^ 10))).toNat))))))
theorem mw32_W_s (B : List Int) (o : Nat) (k0 : Nat) : mw32_W B o (k0 + 1) = (bif (decide ((Int.ofNat k0) < 16)) then (mi32_W (mw32_W B o k0) B o k0 4) else ((mw32_W B o k0).set (0 + k0 * 1) (IntKind.u32.wrap ((IntKind.u32.wrap ((IntKind.u32.wrap (((mw32_W B o k0).getD (0 + (k0 - 16) * 1) 0) + (IntKind.u32.wrap ((BitVec.ofInt 32 (IntKind.u32.wrap ((BitVec.ofInt 32 (rot32 ((mw32_W B o k0).getD (0 + (k0 - 15) * 1) 0) 25) ^^^ BitVec.ofInt 32 (rot32 ((mw32_W B o k0).getD (0 + (k0 - 15) * 1) 0) 14)).toNat)) ^^^ BitVec.ofInt 32 (Int.fdiv ((mw32_W B o k0).getD (0 + (k0 - 15) * 1) 0) (2 ^ 3))).toNat)))) + ((mw32_W B o k0).getD (0 + (k0 - 7) * 1) 0))) + (IntKind.u32.wrap ((BitVec.ofInt 32 (IntKind.u32.wrap ((BitVec.ofInt 32 (rot32 ((mw32_W B o k0).getD (0 + (k0 - 2) * 1) 0) 15) ^^^ BitVec.ofInt 32 (rot32 ((mw32_W B o k0).getD (0 + (k0 - 2) * 1) 0) 13)).toNat)) ^^^ BitVec.ofInt 32 (Int.fdiv ((mw32_W B o k0).getD (0 + (k0 - 2) * 1) 0) (2 ^ 10))).toNat)))))) := rfl
def mw32 (vv B K : List Int) (o bs : Nat) (lm : Option Nat) (W : List Int) (k : Nat) (d : Bool) : St := ⟨((.ptr 0 0) :: ((.sl 1 o bs 64 1 lm) :: ((.sl 2 0 0 64 1 none) :: (jk 3 ((.ptr 3 0) :: (jk 12 ((.int .i64 (Int.ofNat k)) :: (jk 102 [])))))))), [⟨(.nums .u32 vv), .own, false⟩, ⟨(.nums .u8 B), .grow, false⟩, ⟨(.nums .u64 K), .grow, false⟩, ⟨(.nums .u32 W), .own, d⟩]⟩
def mr32_V (vv : List Int) (W : List Int) (K : List Int) : Nat → List Int
  | 0 => vv
  | k0 + 1 => (turnL32 (mr32_V vv W K k0) (IntKind.u32.wrap ((W.getD (k0 * 1) 0) + (IntKind.u32.wrap (Int.fdiv (K.getD (0 + k0 * 1) 0) (2 ^ 32))))))
theorem mr32_V_s (vv : List Int) (W : List Int) (K : List Int) (k0 : Nat) : mr32_V vv W K (k0 + 1) = (turnL32 (mr32_V vv W K k0) (IntKind.u32.wrap ((W.getD (k0 * 1) 0) + (IntKind.u32.wrap (Int.fdiv (K.getD (0 + k0 * 1) 0) (2 ^ 32)))))) := rfl
def mr32 (vv B K : List Int) (o bs : Nat) (lm : Option Nat) (V : List Int) (k : Nat) (d : Bool) : St := ⟨((.ptr 0 0) :: (.junk :: ((.sl 2 0 0 64 1 none) :: (jk 11 ((.ptr 3 0) :: ((.fn 60 [(.ptr 0 0)] []) :: (jk 75 ((.nums .u32 (mw32_W B o 64)) :: ((.int .i64 (Int.ofNat k)) :: (jk 29 [])))))))))), [⟨(.nums .u32 V), .own, d⟩, ⟨(.nums .u8 B), .grow, false⟩, ⟨(.nums .u64 K), .grow, false⟩, ⟨(.nums .u32 vv), .own, true⟩]⟩
def mf32_V (V : List Int) (vv : List Int) : Nat → List Int
  | 0 => V
  | k0 + 1 => ((mf32_V V vv k0).set (0 + k0 * 1) (IntKind.u32.wrap (((mf32_V V vv k0).getD (0 + k0 * 1) 0) + (vv.getD (0 + k0 * 1) 0))))
theorem mf32_V_s (V : List Int) (vv : List Int) (k0 : Nat) : mf32_V V vv (k0 + 1) = ((mf32_V V vv k0).set (0 + k0 * 1) (IntKind.u32.wrap (((mf32_V V vv k0).getD (0 + k0 * 1) 0) + (vv.getD (0 + k0 * 1) 0)))) := rfl
def mf32 (vv B K : List Int) (o bs : Nat) (lm : Option Nat) (V : List Int) (k : Nat) (d : Bool) : St := ⟨((.ptr 0 0) :: (jk 13 ((.ptr 3 0) :: (jk 92 ((.int .i64 (Int.ofNat k)) :: (jk 14 [])))))), [⟨(.nums .u32 V), .own, d⟩, ⟨(.nums .u8 B), .grow, false⟩, ⟨(.nums .u64 K), .grow, false⟩, ⟨(.nums .u32 vv), .own, true⟩]⟩
theorem mi32_len (L B : List Int) (o i : Nat) : ∀ j, (mi32_W L B o i j).length = L.length
  | 0 => rfl
  | j + 1 => by rw [mi32_W_s, List.length_set, mi32_len L B o i j]
theorem mw32_len (B : List Int) (o : Nat) : ∀ k, (mw32_W B o k).length = 64
  | 0 => by simp only [mw32_W, List.length_replicate]
  | k + 1 => by
    rw [mw32_W_s]
    generalize decide (Int.ofNat k < 16) = c
    cases c with
    | true => rw [cond_true, mi32_len, mw32_len B o k]
    | false => rw [cond_false, List.length_set, mw32_len B o k]
theorem mr32_len {v : List Int} (W K : List Int) (h : v.length = 8) : ∀ k, (mr32_V v W K k).length = 8
  | 0 => h
  | k + 1 => by rw [mr32_V_s]; rfl
theorem mf32_len (V v : List Int) : ∀ k, (mf32_V V v k).length = V.length
  | 0 => rfl
  | k + 1 => by rw [mf32_V_s, List.length_set, mf32_len V v k]
def mix32 (v B : List Int) (o : Nat) (K : List Int) : List Int := mf32_V (mr32_V v (mw32_W B o 64) K 64) v 8
def h_mix32 (vv B K : List Int) (o bs : Nat) (lm : Option Nat) : Hints := ⟨fun it t => match t with
  | 20 => (match it with | [some k0] => some (.val (.bool true)) | _ => none)
  | 200023 => (match it with | [some k0] => some .ask | _ => none)
  | 26 => (match it with | [some k0] => some (.val (.int .i64 (Int.ofNat (4 * k0)))) | _ => none)
  | 28 => (match it with | [some k0] => some (.val (.int .i64 (Int.ofNat (k0 + 1)))) | _ => none)
  | 29 => (match it with | [some k0] => some (.val (.int .i64 (Int.ofNat (4 * (k0 + 1))))) | _ => none)
  | 30 => (match it with | [some k0] => some (.op (.sl 1 (o + (4 * k0)) (bif Nat.beq (4 * k0) 0 then bs else o) 4 1 lm) [(⟨(.nums .u32 vv), .own, false⟩ : Blk), ⟨(.nums .u8 B), .grow, false⟩, ⟨(.nums .u64 K), .grow, false⟩, ⟨(.nums .u32 (mw32_W B o k0)), .own, (dj false k0)⟩] ⟨[], [], false, false⟩) | _ => none)
  | 33 => (match it with | [some k1, some k0] => some (.val (.bool true)) | _ => none)
  | 34 => (match it with | [some k1, some k0] => some .ask | _ => none)
  | 35 => (match it with | [some k1, some k0] => some .ask | _ => none)
  | 38 => (match it with | [some k1, some k0] => some .ask | _ => none)
  | 39 => (match it with | [some k1, some k0] => some .ask | _ => none)
  | 44 => (match it with | [some k1, some k0] => some .ask | _ => none)
  | 100044 => (match it with | [some k1, some k0] => some .ask | _ => none)
  | 45 => (match it with | [some k1, some k0] => some (.val (.int .i64 (Int.ofNat (k1 + 1)))) | _ => none)
  | 85 => (match it with | [some k0] => some (.val (.int .i64 (Int.ofNat (k0 + 1)))) | _ => none)
  | 47 => (match it with | [some k0] => some (.val (.int .i64 (Int.ofNat (k0 - 15)))) | _ => none)
  | 48 => (match it with | [some k0] => some .ask | _ => none)
  | 49 => (match it with | [some k0] => some .ask | _ => none)
  | 51 => (match it with | [some k0] => some (.val (.int .i64 (Int.ofNat (k0 - 2)))) | _ => none)
  | 52 => (match it with | [some k0] => some .ask | _ => none)
  | 53 => (match it with | [some k0] => some .ask | _ => none)
  | 72 => (match it with | [some k0] => some (.val (.int .i64 (Int.ofNat (k0 - 16)))) | _ => none)
  | 73 => (match it with | [some k0] => some .ask | _ => none)
  | 74 => (match it with | [some k0] => some .ask | _ => none)
  | 78 => (match it with | [some k0] => some (.val (.int .i64 (Int.ofNat (k0 - 7)))) | _ => none)
  | 79 => (match it with | [some k0] => some .ask | _ => none)
  | 80 => (match it with | [some k0] => some .ask | _ => none)
  | 84 => (match it with | [some k0] => some .ask | _ => none)
  | 100084 => (match it with | [some k0] => some .ask | _ => none)
  | 88 => bif eqIt [] it then some .ask else none
  | 100014 => bif eqIt [] it then some .ask else none
  | 91 => bif eqIt [] it then some .ask else none
  | 93 => (match it with | [some k0] => some (.val (.bool true)) | _ => none)
  | 95 => (match it with | [some k0] => some .ask | _ => none)
  | 100 => (match it with | [some k0] => some .ask | _ => none)
  | 101 => (match it with | [some k0] => some .ask | _ => none)
  | 106 => (match it with | [some k0] => some (.val (.int .i64 (Int.ofNat (k0 + 1)))) | _ => none)
  | 108 => (match it with | [some k0] => some (.val (.bool true)) | _ => none)
  | 113 => (match it with | [some k0] => some .ask | _ => none)
  | 114 => (match it with | [some k0] => some .ask | _ => none)
  | 116 => (match it with | [some k0] => some .ask | _ => none)
  | 117 => (match it with | [some k0] => some .ask | _ => none)
  | 120 => (match it with | [some k0] => some .ask | _ => none)
  | 100120 => (match it with | [some k0] => some .ask | _ => none)
  | 121 => (match it with | [some k0] => some (.val (.int .i64 (Int.ofNat (k0 + 1)))) | _ => none)
  | _ => none, fun it id => match id, it with
  | 0, [] => some ⟨64, true, false, fun kk => mw32 vv B K o bs lm (mw32_W B o kk) kk (dj false kk)⟩
  | 1, [some i] => some ⟨4, true, false, fun kk => mi32 vv B K o bs lm (mi32_W (mw32_W B o i) B o i kk) kk i (dj (dj false i) kk)⟩
  | 2, [] => some ⟨64, true, false, fun kk => mr32 vv B K o bs lm (mr32_V vv (mw32_W B o 64) K kk) kk (dj false kk)⟩
  | 3, [] => some ⟨8, true, false, fun kk => mf32 vv B K o bs lm (mf32_V (mr32_V vv (mw32_W B o 64) K 64) vv kk) kk true⟩
  | _, _ => none⟩
def d_mix32 : Nat → Option (List Nat) := fun n => match n with
  | 3 => some [1, 2, 3, 4, 5, 6, 7, 8, 9, 10, 11, 12, 13, 15, 16, 17, 18, 19, 20, 21, 22, 23, 24, 25, 26, 27, 28, 29, 30, 31, 32, 33, 34, 35, 36, 37, 38, 39, 40, 41, 42, 43, 44, 45, 46, 47, 48, 49, 50, 51, 52, 53, 54, 55, 56, 57, 58, 59, 60, 61, 62, 63, 64, 65, 66, 67, 68, 69, 70, 71, 72, 73, 74, 75, 76, 77, 78, 79, 80, 81, 82, 83, 84, 85, 86, 87, 88, 89, 90, 91, 92, 93, 94, 95, 96, 97, 98, 99, 100, 101, 102, 103, 104, 105, 106, 108, 109, 110, 111, 112, 113, 114, 115, 116, 117, 118, 119, 120, 121]
  | 2 => some [1, 3, 4, 5, 6, 7, 8, 9, 10, 11, 12, 13, 16, 17, 18, 19, 20, 21, 22, 23, 24, 25, 26, 27, 28, 29, 30, 31, 32, 33, 34, 35, 36, 37, 38, 39, 40, 41, 42, 43, 44, 45, 46, 47, 48, 49, 50, 51, 52, 53, 54, 55, 56, 57, 58, 59, 60, 61, 62, 63, 64, 65, 66, 67, 68, 69, 70, 71, 72, 73, 74, 75, 76, 77, 78, 79, 80, 81, 82, 83, 84, 85, 86, 87, 88, 89, 90, 93, 94, 95, 96, 97, 98, 99, 100, 101, 102, 103, 104, 105, 106, 107, 108, 109, 110, 111, 112, 113, 114, 115, 116, 117, 118, 119, 120, 121]
  | 1 => some [3, 4, 5, 8, 9, 10, 11, 12, 13, 14, 15, 16, 17, 18, 20, 21, 22, 23, 24, 25, 26, 27, 28, 29, 33, 34, 35, 36, 37, 38, 39, 40, 41, 42, 43, 44, 45, 46, 47, 48, 49, 50, 51, 52, 53, 54, 55, 56, 57, 58, 59, 60, 61, 62, 63, 64, 65, 66, 67, 68, 69, 70, 71, 72, 73, 74, 75, 76, 77, 78, 79, 80, 81, 82, 83, 84, 85, 86, 87, 88, 89, 90, 91, 92, 93, 94, 95, 96, 97, 98, 99, 100, 101, 102, 103, 104, 105, 106, 107, 108, 109, 110, 111, 112, 113, 114, 115, 116, 117, 118, 119, 120, 121]
  | 0 => some [3, 4, 5, 7, 8, 9, 10, 11, 12, 13, 14, 15, 16, 17, 18, 20, 21, 22, 23, 24, 25, 26, 27, 28, 29, 30, 31, 32, 33, 34, 35, 36, 37, 38, 39, 40, 41, 42, 43, 44, 45, 46, 47, 48, 49, 50, 51, 52, 53, 54, 55, 56, 57, 58, 59, 60, 61, 62, 63, 64, 65, 66, 67, 68, 69, 70, 71, 72, 73, 74, 75, 76, 77, 78, 79, 80, 81, 82, 83, 84, 85, 86, 87, 88, 89, 90, 91, 92, 93, 94, 95, 96, 97, 98, 99, 100, 101, 102, 103, 104, 105, 106, 107, 108, 109, 110, 111, 112, 113, 114, 115, 116, 117, 118, 119, 120, 121]
  | _ => none
theorem run_mix32 (vv B K : List Int) (o bs : Nat) (lm : Option Nat) : specW Try.prog d_mix32 (cH7 Try.prog) (h_mix32 vv B K o bs lm) 1000 48 [(.ptr 0 0), (.sl 1 o bs 64 1 lm), (.sl 2 0 0 64 1 none)] [(⟨(.nums .u32 vv), .own, false⟩ : Blk), ⟨(.nums .u8 B), .grow, false⟩, ⟨(.nums .u64 K), .grow, false⟩] (fun v M => v = (.tup []) ∧ M = [⟨.nums .u32 (mix32 vv B o K), .own, true⟩, ⟨.nums .u8 B, .grow, false⟩, ⟨.nums .u64 K, .grow, false⟩]) =
  (mw32 vv B K o bs lm (List.replicate 64 0) 0 false = mw32 vv B K o bs lm (mw32_W B o 0) 0 (dj false 0) ∧ (∀ k0, k0 < 64 → ((AV.bool (decide ((Int.ofNat k0) < 64))) = (AV.bool true) ∧ (((decide ((Int.ofNat k0) < 16)) = true → ((AV.int .i64 (IntKind.i64.wrap ((4 : Int) * (Int.ofNat k0)))) = (AV.int .i64 (Int.ofNat (4 * k0))) ∧ (AV.int .i64 (IntKind.i64.wrap ((Int.ofNat k0) + (1 : Int)))) = (AV.int .i64 (Int.ofNat (k0 + 1))) ∧ (AV.int .i64 (IntKind.i64.wrap ((4 : Int) * (Int.ofNat (k0 + 1))))) = (AV.int .i64 (Int.ofNat (4 * (k0 + 1)))) ∧ psem (forget (cH7 Try.prog)) (.slS 1 true true) [(.sl 1 o bs 64 1 lm), (.int .i64 (Int.ofNat (4 * k0))), (.int .i64 (Int.ofNat (4 * (k0 + 1))))] [(⟨(.nums .u32 vv), .own, false⟩ : Blk), ⟨(.nums .u8 B), .grow, false⟩, ⟨(.nums .u64 K), .grow, false⟩, ⟨(.nums .u32 (mw32_W B o k0)), .own, (dj false k0)⟩] = some ((.sl 1 (o + (4 * k0)) (bif Nat.beq (4 * k0) 0 then bs else o) 4 1 lm), [(⟨(.nums .u32 vv), .own, false⟩ : Blk), ⟨(.nums .u8 B), .grow, false⟩, ⟨(.nums .u64 K), .grow, false⟩, ⟨(.nums .u32 (mw32_W B o k0)), .own, (dj false k0)⟩], ⟨[], [], false, false⟩) ∧ mi32 vv B K o bs lm (mw32_W B o k0) 0 k0 (dj false k0) = mi32 vv B K o bs lm (mi32_W (mw32_W B o k0) B o k0 0) 0 k0 (dj (dj false k0) 0) ∧ (∀ k1, k1 < 4 → ((AV.bool (decide ((Int.ofNat k1) < 4))) = (AV.bool true) ∧ (1 = 1 ∧ inR (Int.ofNat k1) 4 = some k1) ∧ (((o + (4 * k0)) + k1 * 1) < B.length) ∧ (inR (Int.ofNat k0) 64 = some k0) ∧ ((0 + k0 * 1) < (mi32_W (mw32_W B o k0) B o k0 k1).length) ∧ (inR (Int.ofNat k0) 64 = some k0) ∧ (IntKind.u32 = IntKind.u32 ∧ 1 = 1 ∧ (0 + k0 * 1) < (mi32_W (mw32_W B o k0) B o k0 k1).length) ∧ (AV.int .i64 (IntKind.i64.wrap ((Int.ofNat k1) + (1 : Int)))) = (AV.int .i64 (Int.ofNat (k1 + 1))) ∧ mi32 vv B K o bs lm ((mi32_W (mw32_W B o k0) B o k0 k1).set (0 + k0 * 1) (IntKind.u32.wrap ((BitVec.ofInt 32 (IntKind.u32.wrap (((mi32_W (mw32_W B o k0) B o k0 k1).getD (0 + k0 * 1) 0) * 2 ^ 8)) ||| BitVec.ofInt 32 (IntKind.u32.wrap (B.getD ((o + (4 * k0)) + k1 * 1) 0))).toNat))) (k1 + 1) k0 true = mi32 vv B K o bs lm (mi32_W (mw32_W B o k0) B o k0 (k1 + 1)) (k1 + 1) k0 (dj (dj false k0) (k1 + 1)))) ∧ (AV.int .i64 (IntKind.i64.wrap ((Int.ofNat k0) + (1 : Int)))) = (AV.int .i64 (Int.ofNat (k0 + 1))) ∧ mw32 vv B K o bs lm (mi32_W (mw32_W B o k0) B o k0 4) (k0 + 1) (dj (dj false k0) 4) = mw32 vv B K o bs lm (mw32_W B o (k0 + 1)) (k0 + 1) (dj false (k0 + 1)))) ∧ ((decide ((Int.ofNat k0) < 16)) = false → ((AV.int .i64 (IntKind.i64.wrap ((Int.ofNat k0) - (15 : Int)))) = (AV.int .i64 (Int.ofNat (k0 - 15))) ∧ (inR (Int.ofNat (k0 - 15)) 64 = some (k0 - 15)) ∧ ((0 + (k0 - 15) * 1) < (mw32_W B o k0).length) ∧ (AV.int .i64 (IntKind.i64.wrap ((Int.ofNat k0) - (2 : Int)))) = (AV.int .i64 (Int.ofNat (k0 - 2))) ∧ (inR (Int.ofNat (k0 - 2)) 64 = some (k0 - 2)) ∧ ((0 + (k0 - 2) * 1) < (mw32_W B o k0).length) ∧ (AV.int .i64 (IntKind.i64.wrap ((Int.ofNat k0) - (16 : Int)))) = (AV.int .i64 (Int.ofNat (k0 - 16))) ∧ (inR (Int.ofNat (k0 - 16)) 64 = some (k0 - 16)) ∧ ((0 + (k0 - 16) * 1) < (mw32_W B o k0).length) ∧ (AV.int .i64 (IntKind.i64.wrap ((Int.ofNat k0) - (7 : Int)))) = (AV.int .i64 (Int.ofNat (k0 - 7))) ∧ (inR (Int.ofNat (k0 - 7)) 64 = some (k0 - 7)) ∧ ((0 + (k0 - 7) * 1) < (mw32_W B o k0).length) ∧ (inR (Int.ofNat k0) 64 = some k0) ∧ (IntKind.u32 = IntKind.u32 ∧ 1 = 1 ∧ (0 + k0 * 1) < (mw32_W B o k0).length) ∧ (AV.int .i64 (IntKind.i64.wrap ((Int.ofNat k0) + (1 : Int)))) = (AV.int .i64 (Int.ofNat (k0 + 1))) ∧ mw32 vv B K o bs lm ((mw32_W B o k0).set (0 + k0 * 1) (IntKind.u32.wrap ((IntKind.u32.wrap ((IntKind.u32.wrap (((mw32_W B o k0).getD (0 + (k0 - 16) * 1) 0) + (IntKind.u32.wrap ((BitVec.ofInt 32 (IntKind.u32.wrap ((BitVec.ofInt 32 (rot32 ((mw32_W B o k0).getD (0 + (k0 - 15) * 1) 0) 25) ^^^ BitVec.ofInt 32 (rot32 ((mw32_W B o k0).getD (0 + (k0 - 15) * 1) 0) 14)).toNat)) ^^^ BitVec.ofInt 32 (Int.fdiv ((mw32_W B o k0).getD (0 + (k0 - 15) * 1) 0) (2 ^ 3))).toNat)))) + ((mw32_W B o k0).getD (0 + (k0 - 7) * 1) 0))) + (IntKind.u32.wrap ((BitVec.ofInt 32 (IntKind.u32.wrap ((BitVec.ofInt 32 (rot32 ((mw32_W B o k0).getD (0 + (k0 - 2) * 1) 0) 15) ^^^ BitVec.ofInt 32 (rot32 ((mw32_W B o k0).getD (0 + (k0 - 2) * 1) 0) 13)).toNat)) ^^^ BitVec.ofInt 32 (Int.fdiv ((mw32_W B o k0).getD (0 + (k0 - 2) * 1) 0) (2 ^ 10))).toNat))))) (k0 + 1) true = mw32 vv B K o bs lm (mw32_W B o (k0 + 1)) (k0 + 1) (dj false (k0 + 1))))))) ∧ (0 = 0 ∧ vv.length = 8) ∧ (IntKind.u32 = IntKind.u32 ∧ 0 = 0 ∧ vv.length = 8 ∧ ([0, 0, 0, 0, 0, 0, 0, 0] : List Int).length = 8) ∧ (0 = 0 ∧ (mw32_W B o 64).length = 64) ∧ mr32 vv B K o bs lm vv 0 false = mr32 vv B K o bs lm (mr32_V vv (mw32_W B o 64) K 0) 0 (dj false 0) ∧ (∀ k0, k0 < 64 → ((AV.bool (decide ((Int.ofNat k0) < 64))) = (AV.bool true) ∧ (inR (Int.ofNat k0) 64 = some k0 ∧ k0 * 1 < (mw32_W B o 64).length) ∧ (1 = 1 ∧ inR (Int.ofNat k0) 64 = some k0) ∧ ((0 + k0 * 1) < K.length) ∧ (mr32_V vv (mw32_W B o 64) K k0).length = 8 ∧ (AV.int .i64 (IntKind.i64.wrap ((Int.ofNat k0) + (1 : Int)))) = (AV.int .i64 (Int.ofNat (k0 + 1))) ∧ mr32 vv B K o bs lm (turnL32 (mr32_V vv (mw32_W B o 64) K k0) (IntKind.u32.wrap (((mw32_W B o 64).getD (k0 * 1) 0) + (IntKind.u32.wrap (Int.fdiv (K.getD (0 + k0 * 1) 0) (2 ^ 32)))))) (k0 + 1) true = mr32 vv B K o bs lm (mr32_V vv (mw32_W B o 64) K (k0 + 1)) (k0 + 1) (dj false (k0 + 1)))) ∧ mf32 vv B K o bs lm (mr32_V vv (mw32_W B o 64) K 64) 0 (dj false 64) = mf32 vv B K o bs lm (mf32_V (mr32_V vv (mw32_W B o 64) K 64) vv 0) 0 true ∧ (∀ k0, k0 < 8 → ((AV.bool (decide ((Int.ofNat k0) < 8))) = (AV.bool true) ∧ (inR (Int.ofNat k0) 8 = some k0) ∧ ((0 + k0 * 1) < (mf32_V (mr32_V vv (mw32_W B o 64) K 64) vv k0).length) ∧ (inR (Int.ofNat k0) 8 = some k0) ∧ ((0 + k0 * 1) < vv.length) ∧ (inR (Int.ofNat k0) 8 = some k0) ∧ (IntKind.u32 = IntKind.u32 ∧ 1 = 1 ∧ (0 + k0 * 1) < (mf32_V (mr32_V vv (mw32_W B o 64) K 64) vv k0).length) ∧ (AV.int .i64 (IntKind.i64.wrap ((Int.ofNat k0) + (1 : Int)))) = (AV.int .i64 (Int.ofNat (k0 + 1))) ∧ mf32 vv B K o bs lm ((mf32_V (mr32_V vv (mw32_W B o 64) K 64) vv k0).set (0 + k0 * 1) (IntKind.u32.wrap (((mf32_V (mr32_V vv (mw32_W B o 64) K 64) vv k0).getD (0 + k0 * 1) 0) + (vv.getD (0 + k0 * 1) 0)))) (k0 + 1) true = mf32 vv B K o bs lm (mf32_V (mr32_V vv (mw32_W B o 64) K 64) vv (k0 + 1)) (k0 + 1) true)) ∧ ((AV.tup []) = (AV.tup []) ∧ ([(⟨(.nums .u32 (mf32_V (mr32_V vv (mw32_W B o 64) K 64) vv 8)), .own, true⟩ : Blk), ⟨(.nums .u8 B), .grow, false⟩, ⟨(.nums .u64 K), .grow, false⟩] : Mem) = [⟨.nums .u32 (mix32 vv B o K), .own, true⟩, ⟨.nums .u8 B, .grow, false⟩, ⟨.nums .u64 K, .grow, false⟩])) := by kernel_rfl
theorem mix32_ok {vv B K : List Int} {o bs n1 n2 : Nat} {lm : Option Nat} (hyp : n1 = 64 ∧ n2 = 64 ∧ vv.length = 8 ∧ o + 64 ≤ B.length ∧ K.length = 64) : ∃ D H N, specW Try.prog D (cH7 Try.prog) H N 48 [(.ptr 0 0), (.sl 1 o bs n1 1 lm), (.sl 2 0 0 n2 1 none)] [(⟨(.nums .u32 vv), .own, false⟩ : Blk), ⟨(.nums .u8 B), .grow, false⟩, ⟨(.nums .u64 K), .grow, false⟩] fun v M => v = (.tup []) ∧ M = [⟨.nums .u32 (mix32 vv B o K), .own, true⟩, ⟨.nums .u8 B, .grow, false⟩, ⟨.nums .u64 K, .grow, false⟩] := by
  obtain ⟨rfl, rfl, hv, hB, hK⟩ := hyp
  refine ⟨d_mix32, _, 1000, Eq.mpr (run_mix32 vv B K o bs lm) ⟨rfl, fun k0 hk0 => ⟨(aB (d_lt (a := k0) (b := 64) (by omega))), ⟨fun hb0 => have hq := lt_of (b := 16) hb0; ⟨(aI (i_mul (a := 4) (b := k0) (by omega))), (aI (i_add (a := k0) (b := 1) (c := (k0 + 1)) (by omega) (by omega))), (aI (i_mul (a := 4) (b := (k0 + 1)) (by omega))), (sl2_ok (a := (4 * k0)) (b := (4 * (k0 + 1))) (c := 4) (by omega) (by omega)), rfl, fun k1 hk1 => ⟨(aB (d_lt (a := k1) (b := 4) (by omega))), ⟨rfl, (inR_ok (n := k1) (by omega))⟩, (by first | (simp only [mi32_len, mw32_len, mr32_len _ _ hv, mf32_len, hv, hK]; omega) | omega), (inR_ok (n := k0) (by omega)), (by first | (simp only [mi32_len, mw32_len, mr32_len _ _ hv, mf32_len, hv, hK]; omega) | omega), (inR_ok (n := k0) (by omega)), ⟨rfl, rfl, (by first | (simp only [mi32_len, mw32_len, mr32_len _ _ hv, mf32_len, hv, hK]; omega) | omega)⟩, (aI (i_add (a := k1) (b := 1) (c := (k1 + 1)) (by omega) (by omega))), rfl⟩, (aI (i_add (a := k0) (b := 1) (c := (k0 + 1)) (by omega) (by omega))), (by rw [mw32_W_s, hb0]; rfl)⟩, fun hb0 => have hq := ge_of (b := 16) hb0; ⟨(aI (i_sub (a := k0) (b := 15) (by omega) (by omega))), (inR_ok (n := (k0 - 15)) (by omega)), (by first | (simp only [mi32_len, mw32_len, mr32_len _ _ hv, mf32_len, hv, hK]; omega) | omega), (aI (i_sub (a := k0) (b := 2) (by omega) (by omega))), (inR_ok (n := (k0 - 2)) (by omega)), (by first | (simp only [mi32_len, mw32_len, mr32_len _ _ hv, mf32_len, hv, hK]; omega) | omega), (aI (i_sub (a := k0) (b := 16) (by omega) (by omega))), (inR_ok (n := (k0 - 16)) (by omega)), (by first | (simp only [mi32_len, mw32_len, mr32_len _ _ hv, mf32_len, hv, hK]; omega) | omega), (aI (i_sub (a := k0) (b := 7) (by omega) (by omega))), (inR_ok (n := (k0 - 7)) (by omega)), (by first | (simp only [mi32_len, mw32_len, mr32_len _ _ hv, mf32_len, hv, hK]; omega) | omega), (inR_ok (n := k0) (by omega)), ⟨rfl, rfl, (by first | (simp only [mi32_len, mw32_len, mr32_len _ _ hv, mf32_len, hv, hK]; omega) | omega)⟩, (aI (i_add (a := k0) (b := 1) (c := (k0 + 1)) (by omega) (by omega))), (by rw [mw32_W_s, hb0]; rfl)⟩⟩⟩, ⟨rfl, (by first | (simp only [mi32_len, mw32_len, mr32_len _ _ hv, mf32_len, hv, hK]; done) | rfl)⟩, ⟨rfl, rfl, (by first | (simp only [mi32_len, mw32_len, mr32_len _ _ hv, mf32_len, hv, hK]; done) | rfl), (by first | (simp only [mi32_len, mw32_len, mr32_len _ _ hv, mf32_len, hv, hK]; done) | rfl)⟩, ⟨rfl, (by first | (simp only [mi32_len, mw32_len, mr32_len _ _ hv, mf32_len, hv, hK]; done) | rfl)⟩, rfl, fun k0 hk0 => ⟨(aB (d_lt (a := k0) (b := 64) (by omega))), ⟨(inR_ok (n := k0) (by omega)), (by first | (simp only [mi32_len, mw32_len, mr32_len _ _ hv, mf32_len, hv, hK]; omega) | omega)⟩, ⟨rfl, (inR_ok (n := k0) (by omega))⟩, (by first | (simp only [mi32_len, mw32_len, mr32_len _ _ hv, mf32_len, hv, hK]; omega) | omega), (by first | (simp only [mi32_len, mw32_len, mr32_len _ _ hv, mf32_len, hv, hK]; done) | rfl), (aI (i_add (a := k0) (b := 1) (c := (k0 + 1)) (by omega) (by omega))), rfl⟩, rfl, fun k0 hk0 => ⟨(aB (d_lt (a := k0) (b := 8) (by omega))), (inR_ok (n := k0) (by omega)), (by first | (simp only [mi32_len, mw32_len, mr32_len _ _ hv, mf32_len, hv, hK]; omega) | omega), (inR_ok (n := k0) (by omega)), (by first | (simp only [mi32_len, mw32_len, mr32_len _ _ hv, mf32_len, hv, hK]; omega) | omega), (inR_ok (n := k0) (by omega)), ⟨rfl, rfl, (by first | (simp only [mi32_len, mw32_len, mr32_len _ _ hv, mf32_len, hv, hK]; omega) | omega)⟩, (aI (i_add (a := k0) (b := 1) (c := (k0 + 1)) (by omega) (by omega))), rfl⟩, ⟨rfl, rfl⟩⟩⟩
def s_mix32 : Spec := fun a M => match a, M with
  | [.ptr 0 0, .sl 1 o bs n1 1 lm, .sl 2 0 0 n2 1 none], [⟨.nums .u32 vv, .own, false⟩, ⟨.nums .u8 B, .grow, false⟩, ⟨.nums .u64 K, .grow, false⟩] => some (some (n1 = 64 ∧ n2 = 64 ∧ vv.length = 8 ∧ o + 64 ≤ B.length ∧ K.length = 64), .tup [], [⟨.nums .u32 (mix32 vv B o K), .own, true⟩, ⟨.nums .u8 B, .grow, false⟩, ⟨.nums .u64 K, .grow, false⟩])
  | _, _ => none
def mi64_W (L : List Int) (B : List Int) (o : Nat) (i : Nat) : Nat → List Int
  | 0 => L
  | k1 + 1 => ((mi64_W L B o i k1).set (0 + i * 1) (IntKind.u64.wrap ((BitVec.ofInt 64 (IntKind.u64.wrap (((mi64_W L B o i k1).getD (0 + i * 1) 0) * 2 ^ 8)) ||| BitVec.ofInt 64 (IntKind.u64.wrap (B.getD ((o + (8 * i)) + k1 * 1) 0))).toNat)))
theorem mi64_W_s (L : List Int) (B : List Int) (o : Nat) (i : Nat) (k1 : Nat) : mi64_W L B o i (k1 + 1) = ((mi64_W L B o i k1).set (0 + i * 1) (IntKind.u64.wrap ((BitVec.ofInt 64 (IntKind.u64.wrap (((mi64_W L B o i k1).getD (0 + i * 1) 0) * 2 ^ 8)) ||| BitVec.ofInt 64 (IntKind.u64.wrap (B.getD ((o + (8 * i)) + k1 * 1) 0))).toNat))) := rfl
def mi64 (vv B K : List Int) (o bs : Nat) (lm : Option Nat) (W : List Int) (j : Nat) (k : Nat) (d : Bool) : St := ⟨((.ptr 0 0) :: ((.sl 1 o bs 128 1 lm) :: ((.sl 2 0 0 80 1 none) :: (jk 3 ((.ptr 3 0) :: ((.int .i64 (Int.ofNat k)) :: (jk 11 ((.int .i64 (Int.ofNat k)) :: (jk 10 ((.sl 1 (o + (8 * k)) (bif Nat.beq (8 * k) 0 then bs else o) 8 1 lm) :: ((.int .i64 8) :: ((.int .i64 (Int.ofNat j)) :: (jk 87 []))))))))))))), [⟨(.nums .u64 vv), .own, false⟩, ⟨(.nums .u8 B), .grow, false⟩, ⟨(.nums .u64 K), .grow, false⟩, ⟨(.nums .u64 W), .own, d⟩]⟩
def mw64_W (B : List Int) (o : Nat) : Nat → List Int
  | 0 => (List.replicate 80 0)
  | k0 + 1 => (bif (decide ((Int.ofNat k0) < 16)) then (mi64_W (mw64_W B o k0) B o k0 8) else ((mw64_W B o k0).set (0 + k0 * 1) (IntKind.u64.wrap ((IntKind.u64.wrap ((IntKind.u64.wrap (((mw64_W B o k0).getD (0 + (k0 - 16) * 1) 0) + (IntKind.u64.wrap ((BitVec.ofInt 64 (IntKind.u64.wrap ((BitVec.ofInt 64 (rot64 ((mw64_W B o k0).getD (0 + (k0 - 15) * 1) 0) 63) ^^^ BitVec.ofInt 64 (rot64 ((mw64_W B o k0).getD (0 + (k0 - 15) * 1) 0) 56)).toNat)) ^^^ BitVec.ofInt 64 (Int.fdiv ((mw64_W B o k0).getD (0 + (k0 - 15) * 1) 0) (2 ^ 7))).toNat)))) + ((mw64_W B o k0).getD (0 + (k0 - 7) * 1) 0))) + (IntKind.u64.wrap ((BitVec.ofInt 64 (IntKind.u64.wrap ((BitVec.ofInt 64 (rot64 ((mw64_W B o k0).getD (0 + (k0 - 2) * 1) 0) 45) ^^^ BitVec.ofInt 64 (rot64 ((mw64_W B o k0).getD (0 + (k0 - 2) * 1) 0) 3)).toNat)) ^^^ BitVec.ofInt 64 (Int.fdiv ((mw64_W B o k0).getD (0 + (k0 - 2) * 1) 0) (2 ^ 6))).toNat))))))
theorem mw64_W_s (B : List Int) (o : Nat) (k0 : Nat) : mw64_W B o (k0 + 1) = (bif (decide ((Int.ofNat k0) < 16)) then (mi64_W (mw64_W B o k0) B o k0 8) else ((mw64_W B o k0).set (0 + k0 * 1) (IntKind.u64.wrap ((IntKind.u64.wrap ((IntKind.u64.wrap (((mw64_W B o k0).getD (0 + (k0 - 16) * 1) 0) + (IntKind.u64.wrap ((BitVec.ofInt 64 (IntKind.u64.wrap ((BitVec.ofInt 64 (rot64 ((mw64_W B o k0).getD (0 + (k0 - 15) * 1) 0) 63) ^^^ BitVec.ofInt 64 (rot64 ((mw64_W B o k0).getD (0 + (k0 - 15) * 1) 0) 56)).toNat)) ^^^ BitVec.ofInt 64 (Int.fdiv ((mw64_W B o k0).getD (0 + (k0 - 15) * 1) 0) (2 ^ 7))).toNat)))) + ((mw64_W B o k0).getD (0 + (k0 - 7) * 1) 0))) + (IntKind.u64.wrap ((BitVec.ofInt 64 (IntKind.u64.wrap ((BitVec.ofInt 64 (rot64 ((mw64_W B o k0).getD (0 + (k0 - 2) * 1) 0) 45) ^^^ BitVec.ofInt 64 (rot64 ((mw64_W B o k0).getD (0 + (k0 - 2) * 1) 0) 3)).toNat)) ^^^ BitVec.ofInt 64 (Int.fdiv ((mw64_W B o k0).getD (0 + (k0 - 2) * 1) 0) (2 ^ 6))).toNat)))))) := rfl
def mw64 (vv B K : List Int) (o bs : Nat) (lm : Option Nat) (W : List Int) (k : Nat) (d : Bool) : St := ⟨((.ptr 0 0) :: ((.sl 1 o bs 128 1 lm) :: ((.sl 2 0 0 80 1 none) :: (jk 3 ((.ptr 3 0) :: (jk 12 ((.int .i64 (Int.ofNat k)) :: (jk 100 [])))))))), [⟨(.nums .u64 vv), .own, false⟩, ⟨(.nums .u8 B), .grow, false⟩, ⟨(.nums .u64 K), .grow, false⟩, ⟨(.nums .u64 W), .own, d⟩]⟩
def mr64_V (vv : List Int) (W : List Int) (K : List Int) : Nat → List Int
  | 0 => vv
  | k0 + 1 => (turnL64 (mr64_V vv W K k0) (IntKind.u64.wrap ((W.getD (k0 * 1) 0) + (K.getD (0 + k0 * 1) 0))))
theorem mr64_V_s (vv : List Int) (W : List Int) (K : List Int) (k0 : Nat) : mr64_V vv W K (k0 + 1) = (turnL64 (mr64_V vv W K k0) (IntKind.u64.wrap ((W.getD (k0 * 1) 0) + (K.getD (0 + k0 * 1) 0)))) := rfl
def mr64 (vv B K : List Int) (o bs : Nat) (lm : Option Nat) (V : List Int) (k : Nat) (d : Bool) : St := ⟨((.ptr 0 0) :: (.junk :: ((.sl 2 0 0 80 1 none) :: (jk 11 ((.ptr 3 0) :: ((.fn 61 [(.ptr 0 0)] []) :: (jk 75 ((.nums .u64 (mw64_W B o 80)) :: ((.int .i64 (Int.ofNat k)) :: (jk 27 [])))))))))), [⟨(.nums .u64 V), .own, d⟩, ⟨(.nums .u8 B), .grow, false⟩, ⟨(.nums .u64 K), .grow, false⟩, ⟨(.nums .u64 vv), .own, true⟩]⟩
def mf64_V (V : List Int) (vv : List Int) : Nat → List Int
  | 0 => V
  | k0 + 1 => ((mf64_V V vv k0).set (0 + k0 * 1) (IntKind.u64.wrap (((mf64_V V vv k0).getD (0 + k0 * 1) 0) + (vv.getD (0 + k0 * 1) 0))))
theorem mf64_V_s (V : List Int) (vv : List Int) (k0 : Nat) : mf64_V V vv (k0 + 1) = ((mf64_V V vv k0).set (0 + k0 * 1) (IntKind.u64.wrap (((mf64_V V vv k0).getD (0 + k0 * 1) 0) + (vv.getD (0 + k0 * 1) 0)))) := rfl
def mf64 (vv B K : List Int) (o bs : Nat) (lm : Option Nat) (V : List Int) (k : Nat) (d : Bool) : St := ⟨((.ptr 0 0) :: (jk 13 ((.ptr 3 0) :: (jk 90 ((.int .i64 (Int.ofNat k)) :: (jk 14 [])))))), [⟨(.nums .u64 V), .own, d⟩, ⟨(.nums .u8 B), .grow, false⟩, ⟨(.nums .u64 K), .grow, false⟩, ⟨(.nums .u64 vv), .own, true⟩]⟩
theorem mi64_len (L B : List Int) (o i : Nat) : ∀ j, (mi64_W L B o i j).length = L.length
  | 0 => rfl
  | j + 1 => by rw [mi64_W_s, List.length_set, mi64_len L B o i j]
theorem mw64_len (B : List Int) (o : Nat) : ∀ k, (mw64_W B o k).length = 80
  | 0 => by simp only [mw64_W, List.length_replicate]
  | k + 1 => by
    rw [mw64_W_s]
    generalize decide (Int.ofNat k < 16) = c
    cases c with
    | true => rw [cond_true, mi64_len, mw64_len B o k]
    | false => rw [cond_false, List.length_set, mw64_len B o k]
theorem mr64_len {v : List Int} (W K : List Int) (h : v.length = 8) : ∀ k, (mr64_V v W K k).length = 8
  | 0 => h
  | k + 1 => by rw [mr64_V_s]; rfl
theorem mf64_len (V v : List Int) : ∀ k, (mf64_V V v k).length = V.length
  | 0 => rfl
  | k + 1 => by rw [mf64_V_s, List.length_set, mf64_len V v k]
def mix64 (v B : List Int) (o : Nat) (K : List Int) : List Int := mf64_V (mr64_V v (mw64_W B o 80) K 80) v 8
def h_mix64 (vv B K : List Int) (o bs : Nat) (lm : Option Nat) : Hints := ⟨fun it t => match t with
  | 20 => (match it with | [some k0] => some (.val (.bool true)) | _ => none)
  | 200023 => (match it with | [some k0] => some .ask | _ => none)
  | 26 => (match it with | [some k0] => some (.val (.int .i64 (Int.ofNat (8 * k0)))) | _ => none)
  | 28 => (match it with | [some k0] => some (.val (.int .i64 (Int.ofNat (k0 + 1)))) | _ => none)
  | 29 => (match it with | [some k0] => some (.val (.int .i64 (Int.ofNat (8 * (k0 + 1))))) | _ => none)
  | 30 => (match it with | [some k0] => some (.op (.sl 1 (o + (8 * k0)) (bif Nat.beq (8 * k0) 0 then bs else o) 8 1 lm) [(⟨(.nums .u64 vv), .own, false⟩ : Blk), ⟨(.nums .u8 B), .grow, false⟩, ⟨(.nums .u64 K), .grow, false⟩, ⟨(.nums .u64 (mw64_W B o k0)), .own, (dj false k0)⟩] ⟨[], [], false, false⟩) | _ => none)
  | 33 => (match it with | [some k1, some k0] => some (.val (.bool true)) | _ => none)
  | 34 => (match it with | [some k1, some k0] => some .ask | _ => none)
  | 35 => (match it with | [some k1, some k0] => some .ask | _ => none)
  | 38 => (match it with | [some k1, some k0] => some .ask | _ => none)
  | 39 => (match it with | [some k1, some k0] => some .ask | _ => none)
  | 44 => (match it with | [some k1, some k0] => some .ask | _ => none)
  | 100044 => (match it with | [some k1, some k0] => some .ask | _ => none)
  | 45 => (match it with | [some k1, some k0] => some (.val (.int .i64 (Int.ofNat (k1 + 1)))) | _ => none)
  | 85 => (match it with | [some k0] => some (.val (.int .i64 (Int.ofNat (k0 + 1)))) | _ => none)
  | 47 => (match it with | [some k0] => some (.val (.int .i64 (Int.ofNat (k0 - 15)))) | _ => none)
  | 48 => (match it with | [some k0] => some .ask | _ => none)
  | 49 => (match it with | [some k0] => some .ask | _ => none)
  | 51 => (match it with | [some k0] => some (.val (.int .i64 (Int.ofNat (k0 - 2)))) | _ => none)
  | 52 => (match it with | [some k0] => some .ask | _ => none)
  | 53 => (match it with | [some k0] => some .ask | _ => none)
  | 72 => (match it with | [some k0] => some (.val (.int .i64 (Int.ofNat (k0 - 16)))) | _ => none)
  | 73 => (match it with | [some k0] => some .ask | _ => none)
  | 74 => (match it with | [some k0] => some .ask | _ => none)
  | 78 => (match it with | [some k0] => some (.val (.int .i64 (Int.ofNat (k0 - 7)))) | _ => none)
  | 79 => (match it with | [some k0] => some .ask | _ => none)
  | 80 => (match it with | [some k0] => some .ask | _ => none)
  | 84 => (match it with | [some k0] => some .ask | _ => none)
  | 100084 => (match it with | [some k0] => some .ask | _ => none)
  | 88 => bif eqIt [] it then some .ask else none
  | 100014 => bif eqIt [] it then some .ask else none
  | 91 => bif eqIt [] it then some .ask else none
  | 93 => (match it with | [some k0] => some (.val (.bool true)) | _ => none)
  | 95 => (match it with | [some k0] => some .ask | _ => none)
  | 100 => (match it with | [some k0] => some .ask | _ => none)
  | 101 => (match it with | [some k0] => some .ask | _ => none)
  | 104 => (match it with | [some k0] => some (.val (.int .i64 (Int.ofNat (k0 + 1)))) | _ => none)
  | 106 => (match it with | [some k0] => some (.val (.bool true)) | _ => none)
  | 111 => (match it with | [some k0] => some .ask | _ => none)
  | 112 => (match it with | [some k0] => some .ask | _ => none)
  | 114 => (match it with | [some k0] => some .ask | _ => none)
  | 115 => (match it with | [some k0] => some .ask | _ => none)
  | 118 => (match it with | [some k0] => some .ask | _ => none)
  | 100118 => (match it with | [some k0] => some .ask | _ => none)
  | 119 => (match it with | [some k0] => some (.val (.int .i64 (Int.ofNat (k0 + 1)))) | _ => none)
  | _ => none, fun it id => match id, it with
  | 0, [] => some ⟨80, true, false, fun kk => mw64 vv B K o bs lm (mw64_W B o kk) kk (dj false kk)⟩
  | 1, [some i] => some ⟨8, true, false, fun kk => mi64 vv B K o bs lm (mi64_W (mw64_W B o i) B o i kk) kk i (dj (dj false i) kk)⟩
  | 2, [] => some ⟨80, true, false, fun kk => mr64 vv B K o bs lm (mr64_V vv (mw64_W B o 80) K kk) kk (dj false kk)⟩
  | 3, [] => some ⟨8, true, false, fun kk => mf64 vv B K o bs lm (mf64_V (mr64_V vv (mw64_W B o 80) K 80) vv kk) kk true⟩
  | _, _ => none⟩
def d_mix64 : Nat → Option (List Nat) := fun n => match n with
  | 3 => some [1, 2, 3, 4, 5, 6, 7, 8, 9, 10, 11, 12, 13, 15, 16, 17, 18, 19, 20, 21, 22, 23, 24, 25, 26, 27, 28, 29, 30, 31, 32, 33, 34, 35, 36, 37, 38, 39, 40, 41, 42, 43, 44, 45, 46, 47, 48, 49, 50, 51, 52, 53, 54, 55, 56, 57, 58, 59, 60, 61, 62, 63, 64, 65, 66, 67, 68, 69, 70, 71, 72, 73, 74, 75, 76, 77, 78, 79, 80, 81, 82, 83, 84, 85, 86, 87, 88, 89, 90, 91, 92, 93, 94, 95, 96, 97, 98, 99, 100, 101, 102, 103, 104, 106, 107, 108, 109, 110, 111, 112, 113, 114, 115, 116, 117, 118, 119]
  | 2 => some [1, 3, 4, 5, 6, 7, 8, 9, 10, 11, 12, 13, 16, 17, 18, 19, 20, 21, 22, 23, 24, 25, 26, 27, 28, 29, 30, 31, 32, 33, 34, 35, 36, 37, 38, 39, 40, 41, 42, 43, 44, 45, 46, 47, 48, 49, 50, 51, 52, 53, 54, 55, 56, 57, 58, 59, 60, 61, 62, 63, 64, 65, 66, 67, 68, 69, 70, 71, 72, 73, 74, 75, 76, 77, 78, 79, 80, 81, 82, 83, 84, 85, 86, 87, 88, 89, 90, 93, 94, 95, 96, 97, 98, 99, 100, 101, 102, 103, 104, 105, 106, 107, 108, 109, 110, 111, 112, 113, 114, 115, 116, 117, 118, 119]
  | 1 => some [3, 4, 5, 8, 9, 10, 11, 12, 13, 14, 15, 16, 17, 18, 20, 21, 22, 23, 24, 25, 26, 27, 28, 29, 33, 34, 35, 36, 37, 38, 39, 40, 41, 42, 43, 44, 45, 46, 47, 48, 49, 50, 51, 52, 53, 54, 55, 56, 57, 58, 59, 60, 61, 62, 63, 64, 65, 66, 67, 68, 69, 70, 71, 72, 73, 74, 75, 76, 77, 78, 79, 80, 81, 82, 83, 84, 85, 86, 87, 88, 89, 90, 91, 92, 93, 94, 95, 96, 97, 98, 99, 100, 101, 102, 103, 104, 105, 106, 107, 108, 109, 110, 111, 112, 113, 114, 115, 116, 117, 118, 119]
  | 0 => some [3, 4, 5, 7, 8, 9, 10, 11, 12, 13, 14, 15, 16, 17, 18, 20, 21, 22, 23, 24, 25, 26, 27, 28, 29, 30, 31, 32, 33, 34, 35, 36, 37, 38, 39, 40, 41, 42, 43, 44, 45, 46, 47, 48, 49, 50, 51, 52, 53, 54, 55, 56, 57, 58, 59, 60, 61, 62, 63, 64, 65, 66, 67, 68, 69, 70, 71, 72, 73, 74, 75, 76, 77, 78, 79, 80, 81, 82, 83, 84, 85, 86, 87, 88, 89, 90, 91, 92, 93, 94, 95, 96, 97, 98, 99, 100, 101, 102, 103, 104, 105, 106, 107, 108, 109, 110, 111, 112, 113, 114, 115, 116, 117, 118, 119]
  | _ => none
theorem run_mix64 (vv B K : List Int) (o bs : Nat) (lm : Option Nat) : specW Try.prog d_mix64 (cH7 Try.prog) (h_mix64 vv B K o bs lm) 1000 49 [(.ptr 0 0), (.sl 1 o bs 128 1 lm), (.sl 2 0 0 80 1 none)] [(⟨(.nums .u64 vv), .own, false⟩ : Blk), ⟨(.nums .u8 B), .grow, false⟩, ⟨(.nums .u64 K), .grow, false⟩] (fun v M => v = (.tup []) ∧ M = [⟨.nums .u64 (mix64 vv B o K), .own, true⟩, ⟨.nums .u8 B, .grow, false⟩, ⟨.nums .u64 K, .grow, false⟩]) =
  (mw64 vv B K o bs lm (List.replicate 80 0) 0 false = mw64 vv B K o bs lm (mw64_W B o 0) 0 (dj false 0) ∧ (∀ k0, k0 < 80 → ((AV.bool (decide ((Int.ofNat k0) < 80))) = (AV.bool true) ∧ (((decide ((Int.ofNat k0) < 16)) = true → ((AV.int .i64 (IntKind.i64.wrap ((8 : Int) * (Int.ofNat k0)))) = (AV.int .i64 (Int.ofNat (8 * k0))) ∧ (AV.int .i64 (IntKind.i64.wrap ((Int.ofNat k0) + (1 : Int)))) = (AV.int .i64 (Int.ofNat (k0 + 1))) ∧ (AV.int .i64 (IntKind.i64.wrap ((8 : Int) * (Int.ofNat (k0 + 1))))) = (AV.int .i64 (Int.ofNat (8 * (k0 + 1)))) ∧ psem (forget (cH7 Try.prog)) (.slS 1 true true) [(.sl 1 o bs 128 1 lm), (.int .i64 (Int.ofNat (8 * k0))), (.int .i64 (Int.ofNat (8 * (k0 + 1))))] [(⟨(.nums .u64 vv), .own, false⟩ : Blk), ⟨(.nums .u8 B), .grow, false⟩, ⟨(.nums .u64 K), .grow, false⟩, ⟨(.nums .u64 (mw64_W B o k0)), .own, (dj false k0)⟩] = some ((.sl 1 (o + (8 * k0)) (bif Nat.beq (8 * k0) 0 then bs else o) 8 1 lm), [(⟨(.nums .u64 vv), .own, false⟩ : Blk), ⟨(.nums .u8 B), .grow, false⟩, ⟨(.nums .u64 K), .grow, false⟩, ⟨(.nums .u64 (mw64_W B o k0)), .own, (dj false k0)⟩], ⟨[], [], false, false⟩) ∧ mi64 vv B K o bs lm (mw64_W B o k0) 0 k0 (dj false k0) = mi64 vv B K o bs lm (mi64_W (mw64_W B o k0) B o k0 0) 0 k0 (dj (dj false k0) 0) ∧ (∀ k1, k1 < 8 → ((AV.bool (decide ((Int.ofNat k1) < 8))) = (AV.bool true) ∧ (1 = 1 ∧ inR (Int.ofNat k1) 8 = some k1) ∧ (((o + (8 * k0)) + k1 * 1) < B.length) ∧ (inR (Int.ofNat k0) 80 = some k0) ∧ ((0 + k0 * 1) < (mi64_W (mw64_W B o k0) B o k0 k1).length) ∧ (inR (Int.ofNat k0) 80 = some k0) ∧ (IntKind.u64 = IntKind.u64 ∧ 1 = 1 ∧ (0 + k0 * 1) < (mi64_W (mw64_W B o k0) B o k0 k1).length) ∧ (AV.int .i64 (IntKind.i64.wrap ((Int.ofNat k1) + (1 : Int)))) = (AV.int .i64 (Int.ofNat (k1 + 1))) ∧ mi64 vv B K o bs lm ((mi64_W (mw64_W B o k0) B o k0 k1).set (0 + k0 * 1) (IntKind.u64.wrap ((BitVec.ofInt 64 (IntKind.u64.wrap (((mi64_W (mw64_W B o k0) B o k0 k1).getD (0 + k0 * 1) 0) * 2 ^ 8)) ||| BitVec.ofInt 64 (IntKind.u64.wrap (B.getD ((o + (8 * k0)) + k1 * 1) 0))).toNat))) (k1 + 1) k0 true = mi64 vv B K o bs lm (mi64_W (mw64_W B o k0) B o k0 (k1 + 1)) (k1 + 1) k0 (dj (dj false k0) (k1 + 1)))) ∧ (AV.int .i64 (IntKind.i64.wrap ((Int.ofNat k0) + (1 : Int)))) = (AV.int .i64 (Int.ofNat (k0 + 1))) ∧ mw64 vv B K o bs lm (mi64_W (mw64_W B o k0) B o k0 8) (k0 + 1) (dj (dj false k0) 8) = mw64 vv B K o bs lm (mw64_W B o (k0 + 1)) (k0 + 1) (dj false (k0 + 1)))) ∧ ((decide ((Int.ofNat k0) < 16)) = false → ((AV.int .i64 (IntKind.i64.wrap ((Int.ofNat k0) - (15 : Int)))) = (AV.int .i64 (Int.ofNat (k0 - 15))) ∧ (inR (Int.ofNat (k0 - 15)) 80 = some (k0 - 15)) ∧ ((0 + (k0 - 15) * 1) < (mw64_W B o k0).length) ∧ (AV.int .i64 (IntKind.i64.wrap ((Int.ofNat k0) - (2 : Int)))) = (AV.int .i64 (Int.ofNat (k0 - 2))) ∧ (inR (Int.ofNat (k0 - 2)) 80 = some (k0 - 2)) ∧ ((0 + (k0 - 2) * 1) < (mw64_W B o k0).length) ∧ (AV.int .i64 (IntKind.i64.wrap ((Int.ofNat k0) - (16 : Int)))) = (AV.int .i64 (Int.ofNat (k0 - 16))) ∧ (inR (Int.ofNat (k0 - 16)) 80 = some (k0 - 16)) ∧ ((0 + (k0 - 16) * 1) < (mw64_W B o k0).length) ∧ (AV.int .i64 (IntKind.i64.wrap ((Int.ofNat k0) - (7 : Int)))) = (AV.int .i64 (Int.ofNat (k0 - 7))) ∧ (inR (Int.ofNat (k0 - 7)) 80 = some (k0 - 7)) ∧ ((0 + (k0 - 7) * 1) < (mw64_W B o k0).length) ∧ (inR (Int.ofNat k0) 80 = some k0) ∧ (IntKind.u64 = IntKind.u64 ∧ 1 = 1 ∧ (0 + k0 * 1) < (mw64_W B o k0).length) ∧ (AV.int .i64 (IntKind.i64.wrap ((Int.ofNat k0) + (1 : Int)))) = (AV.int .i64 (Int.ofNat (k0 + 1))) ∧ mw64 vv B K o bs lm ((mw64_W B o k0).set (0 + k0 * 1) (IntKind.u64.wrap ((IntKind.u64.wrap ((IntKind.u64.wrap (((mw64_W B o k0).getD (0 + (k0 - 16) * 1) 0) + (IntKind.u64.wrap ((BitVec.ofInt 64 (IntKind.u64.wrap ((BitVec.ofInt 64 (rot64 ((mw64_W B o k0).getD (0 + (k0 - 15) * 1) 0) 63) ^^^ BitVec.ofInt 64 (rot64 ((mw64_W B o k0).getD (0 + (k0 - 15) * 1) 0) 56)).toNat)) ^^^ BitVec.ofInt 64 (Int.fdiv ((mw64_W B o k0).getD (0 + (k0 - 15) * 1) 0) (2 ^ 7))).toNat)))) + ((mw64_W B o k0).getD (0 + (k0 - 7) * 1) 0))) + (IntKind.u64.wrap ((BitVec.ofInt 64 (IntKind.u64.wrap ((BitVec.ofInt 64 (rot64 ((mw64_W B o k0).getD (0 + (k0 - 2) * 1) 0) 45) ^^^ BitVec.ofInt 64 (rot64 ((mw64_W B o k0).getD (0 + (k0 - 2) * 1) 0) 3)).toNat)) ^^^ BitVec.ofInt 64 (Int.fdiv ((mw64_W B o k0).getD (0 + (k0 - 2) * 1) 0) (2 ^ 6))).toNat))))) (k0 + 1) true = mw64 vv B K o bs lm (mw64_W B o (k0 + 1)) (k0 + 1) (dj false (k0 + 1))))))) ∧ (0 = 0 ∧ vv.length = 8) ∧ (IntKind.u64 = IntKind.u64 ∧ 0 = 0 ∧ vv.length = 8 ∧ ([0, 0, 0, 0, 0, 0, 0, 0] : List Int).length = 8) ∧ (0 = 0 ∧ (mw64_W B o 80).length = 80) ∧ mr64 vv B K o bs lm vv 0 false = mr64 vv B K o bs lm (mr64_V vv (mw64_W B o 80) K 0) 0 (dj false 0) ∧ (∀ k0, k0 < 80 → ((AV.bool (decide ((Int.ofNat k0) < 80))) = (AV.bool true) ∧ (inR (Int.ofNat k0) 80 = some k0 ∧ k0 * 1 < (mw64_W B o 80).length) ∧ (1 = 1 ∧ inR (Int.ofNat k0) 80 = some k0) ∧ ((0 + k0 * 1) < K.length) ∧ (mr64_V vv (mw64_W B o 80) K k0).length = 8 ∧ (AV.int .i64 (IntKind.i64.wrap ((Int.ofNat k0) + (1 : Int)))) = (AV.int .i64 (Int.ofNat (k0 + 1))) ∧ mr64 vv B K o bs lm (turnL64 (mr64_V vv (mw64_W B o 80) K k0) (IntKind.u64.wrap (((mw64_W B o 80).getD (k0 * 1) 0) + (K.getD (0 + k0 * 1) 0)))) (k0 + 1) true = mr64 vv B K o bs lm (mr64_V vv (mw64_W B o 80) K (k0 + 1)) (k0 + 1) (dj false (k0 + 1)))) ∧ mf64 vv B K o bs lm (mr64_V vv (mw64_W B o 80) K 80) 0 (dj false 80) = mf64 vv B K o bs lm (mf64_V (mr64_V vv (mw64_W B o 80) K 80) vv 0) 0 true ∧ (∀ k0, k0 < 8 → ((AV.bool (decide ((Int.ofNat k0) < 8))) = (AV.bool true) ∧ (inR (Int.ofNat k0) 8 = some k0) ∧ ((0 + k0 * 1) < (mf64_V (mr64_V vv (mw64_W B o 80) K 80) vv k0).length) ∧ (inR (Int.ofNat k0) 8 = some k0) ∧ ((0 + k0 * 1) < vv.length) ∧ (inR (Int.ofNat k0) 8 = some k0) ∧ (IntKind.u64 = IntKind.u64 ∧ 1 = 1 ∧ (0 + k0 * 1) < (mf64_V (mr64_V vv (mw64_W B o 80) K 80) vv k0).length) ∧ (AV.int .i64 (IntKind.i64.wrap ((Int.ofNat k0) + (1 : Int)))) = (AV.int .i64 (Int.ofNat (k0 + 1))) ∧ mf64 vv B K o bs lm ((mf64_V (mr64_V vv (mw64_W B o 80) K 80) vv k0).set (0 + k0 * 1) (IntKind.u64.wrap (((mf64_V (mr64_V vv (mw64_W B o 80) K 80) vv k0).getD (0 + k0 * 1) 0) + (vv.getD (0 + k0 * 1) 0)))) (k0 + 1) true = mf64 vv B K o bs lm (mf64_V (mr64_V vv (mw64_W B o 80) K 80) vv (k0 + 1)) (k0 + 1) true)) ∧ ((AV.tup []) = (AV.tup []) ∧ ([(⟨(.nums .u64 (mf64_V (mr64_V vv (mw64_W B o 80) K 80) vv 8)), .own, true⟩ : Blk), ⟨(.nums .u8 B), .grow, false⟩, ⟨(.nums .u64 K), .grow, false⟩] : Mem) = [⟨.nums .u64 (mix64 vv B o K), .own, true⟩, ⟨.nums .u8 B, .grow, false⟩, ⟨.nums .u64 K, .grow, false⟩])) := by kernel_rfl
theorem mix64_ok {vv B K : List Int} {o bs n1 n2 : Nat} {lm : Option Nat} (hyp : n1 = 128 ∧ n2 = 80 ∧ vv.length = 8 ∧ o + 128 ≤ B.length ∧ K.length = 80) : ∃ D H N, specW Try.prog D (cH7 Try.prog) H N 49 [(.ptr 0 0), (.sl 1 o bs n1 1 lm), (.sl 2 0 0 n2 1 none)] [(⟨(.nums .u64 vv), .own, false⟩ : Blk), ⟨(.nums .u8 B), .grow, false⟩, ⟨(.nums .u64 K), .grow, false⟩] fun v M => v = (.tup []) ∧ M = [⟨.nums .u64 (mix64 vv B o K), .own, true⟩, ⟨.nums .u8 B, .grow, false⟩, ⟨.nums .u64 K, .grow, false⟩] := by
  obtain ⟨rfl, rfl, hv, hB, hK⟩ := hyp
  refine ⟨d_mix64, _, 1000, Eq.mpr (run_mix64 vv B K o bs lm) ⟨rfl, fun k0 hk0 => ⟨(aB (d_lt (a := k0) (b := 80) (by omega))), ⟨fun hb0 => have hq := lt_of (b := 16) hb0; ⟨(aI (i_mul (a := 8) (b := k0) (by omega))), (aI (i_add (a := k0) (b := 1) (c := (k0 + 1)) (by omega) (by omega))), (aI (i_mul (a := 8) (b := (k0 + 1)) (by omega))), (sl2_ok (a := (8 * k0)) (b := (8 * (k0 + 1))) (c := 8) (by omega) (by omega)), rfl, fun k1 hk1 => ⟨(aB (d_lt (a := k1) (b := 8) (by omega))), ⟨rfl, (inR_ok (n := k1) (by omega))⟩, (by first | (simp only [mi64_len, mw64_len, mr64_len _ _ hv, mf64_len, hv, hK]; omega) | omega), (inR_ok (n := k0) (by omega)), (by first | (simp only [mi64_len, mw64_len, mr64_len _ _ hv, mf64_len, hv, hK]; omega) | omega), (inR_ok (n := k0) (by omega)), ⟨rfl, rfl, (by first | (simp only [mi64_len, mw64_len, mr64_len _ _ hv, mf64_len, hv, hK]; omega) | omega)⟩, (aI (i_add (a := k1) (b := 1) (c := (k1 + 1)) (by omega) (by omega))), rfl⟩, (aI (i_add (a := k0) (b := 1) (c := (k0 + 1)) (by omega) (by omega))), (by rw [mw64_W_s, hb0]; rfl)⟩, fun hb0 => have hq := ge_of (b := 16) hb0; ⟨(aI (i_sub (a := k0) (b := 15) (by omega) (by omega))), (inR_ok (n := (k0 - 15)) (by omega)), (by first | (simp only [mi64_len, mw64_len, mr64_len _ _ hv, mf64_len, hv, hK]; omega) | omega), (aI (i_sub (a := k0) (b := 2) (by omega) (by omega))), (inR_ok (n := (k0 - 2)) (by omega)), (by first | (simp only [mi64_len, mw64_len, mr64_len _ _ hv, mf64_len, hv, hK]; omega) | omega), (aI (i_sub (a := k0) (b := 16) (by omega) (by omega))), (inR_ok (n := (k0 - 16)) (by omega)), (by first | (simp only [mi64_len, mw64_len, mr64_len _ _ hv, mf64_len, hv, hK]; omega) | omega), (aI (i_sub (a := k0) (b := 7) (by omega) (by omega))), (inR_ok (n := (k0 - 7)) (by omega)), (by first | (simp only [mi64_len, mw64_len, mr64_len _ _ hv, mf64_len, hv, hK]; omega) | omega), (inR_ok (n := k0) (by omega)), ⟨rfl, rfl, (by first | (simp only [mi64_len, mw64_len, mr64_len _ _ hv, mf64_len, hv, hK]; omega) | omega)⟩, (aI (i_add (a := k0) (b := 1) (c := (k0 + 1)) (by omega) (by omega))), (by rw [mw64_W_s, hb0]; rfl)⟩⟩⟩, ⟨rfl, (by first | (simp only [mi64_len, mw64_len, mr64_len _ _ hv, mf64_len, hv, hK]; done) | rfl)⟩, ⟨rfl, rfl, (by first | (simp only [mi64_len, mw64_len, mr64_len _ _ hv, mf64_len, hv, hK]; done) | rfl), (by first | (simp only [mi64_len, mw64_len, mr64_len _ _ hv, mf64_len, hv, hK]; done) | rfl)⟩, ⟨rfl, (by first | (simp only [mi64_len, mw64_len, mr64_len _ _ hv, mf64_len, hv, hK]; done) | rfl)⟩, rfl, fun k0 hk0 => ⟨(aB (d_lt (a := k0) (b := 80) (by omega))), ⟨(inR_ok (n := k0) (by omega)), (by first | (simp only [mi64_len, mw64_len, mr64_len _ _ hv, mf64_len, hv, hK]; omega) | omega)⟩, ⟨rfl, (inR_ok (n := k0) (by omega))⟩, (by first | (simp only [mi64_len, mw64_len, mr64_len _ _ hv, mf64_len, hv, hK]; omega) | omega), (by first | (simp only [mi64_len, mw64_len, mr64_len _ _ hv, mf64_len, hv, hK]; done) | rfl), (aI (i_add (a := k0) (b := 1) (c := (k0 + 1)) (by omega) (by omega))), rfl⟩, rfl, fun k0 hk0 => ⟨(aB (d_lt (a := k0) (b := 8) (by omega))), (inR_ok (n := k0) (by omega)), (by first | (simp only [mi64_len, mw64_len, mr64_len _ _ hv, mf64_len, hv, hK]; omega) | omega), (inR_ok (n := k0) (by omega)), (by first | (simp only [mi64_len, mw64_len, mr64_len _ _ hv, mf64_len, hv, hK]; omega) | omega), (inR_ok (n := k0) (by omega)), ⟨rfl, rfl, (by first | (simp only [mi64_len, mw64_len, mr64_len _ _ hv, mf64_len, hv, hK]; omega) | omega)⟩, (aI (i_add (a := k0) (b := 1) (c := (k0 + 1)) (by omega) (by omega))), rfl⟩, ⟨rfl, rfl⟩⟩⟩
def s_mix64 : Spec := fun a M => match a, M with
  | [.ptr 0 0, .sl 1 o bs n1 1 lm, .sl 2 0 0 n2 1 none], [⟨.nums .u64 vv, .own, false⟩, ⟨.nums .u8 B, .grow, false⟩, ⟨.nums .u64 K, .grow, false⟩] => some (some (n1 = 128 ∧ n2 = 80 ∧ vv.length = 8 ∧ o + 128 ≤ B.length ∧ K.length = 80), .tup [], [⟨.nums .u64 (mix64 vv B o K), .own, true⟩, ⟨.nums .u8 B, .grow, false⟩, ⟨.nums .u64 K, .grow, false⟩])
  | _, _ => none
def cH8 (P : Program) : OrcP := addS (addS (cH7 P) 48 s_mix32) 49 s_mix64
theorem cH8_ok : OrcPOK Try.prog (cH8 Try.prog) := by
  unfold cH8
  refine (addS_ok mixed (addS_ok mixed cH7_ok cH7_ok ?_) cH7_ok ?_)
  · intro a M q v M' h hq
    unfold s_mix32 at h
    split at h
    · simp only [Option.some.injEq, Prod.mk.injEq] at h
      obtain ⟨rfl, rfl, rfl⟩ := h
      exact mix32_ok hq
    · cases h
  · intro a M q v M' h hq
    unfold s_mix64 at h
    split at h
    · simp only [Option.some.injEq, Prod.mk.injEq] at h
      obtain ⟨rfl, rfl, rfl⟩ := h
      exact mix64_ok hq
    · cases h
end Go.Proofs.Ytkeieikhmaeiiaa
