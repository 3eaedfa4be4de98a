/- What is joined, what is padded. No condition. -/
import Derived.Test.YtkeieikhmaeiiaaSh7
import Derived.Test.YtkeieikhmaeiiaaAm22
namespace Go.Proofs.Ytkeieikhmaeiiaa
open Go Go.RowKit
set_option linter.unusedVariables false
set_option linter.unusedSimpArgs false
theorem u_cv {a : Nat} (h : a < 18446744073709551616) : IntKind.u64.wrap (Int.ofNat a) = Int.ofNat a := by
  have := wrap64 a
  rw [Nat.mod_eq_of_lt h] at this
  exact this
theorem u_mul {a b : Nat} (h : a * b < 18446744073709551616) : IntKind.u64.wrap (Int.ofNat a * Int.ofNat b) = Int.ofNat (a * b) := u_cv h
theorem i_ne {a b : Nat} (h : a ≠ b) : (Int.ofNat a != Int.ofNat b) = true := by
  rw [bne_iff_ne]; exact fun e => h (Int.ofNat.inj e)
theorem i_nen {a b : Nat} (h : a = b) : (Int.ofNat a != Int.ofNat b) = false := by
  subst h; exact bne_self_eq_false _
/-- A byte of a length. -/
def lenb (n s : Nat) : Int := IntKind.u8.wrap (Int.fdiv (Int.ofNat n) (2 ^ s))
theorem rm2 {a : Nat} (h : a ≤ 34359738368) : a * (1 + 1) ≤ 68719476736 := by omega
def ival (t k : Nat) : Int := Int.ofNat t - Int.ofNat k
theorem ival_ge {t k : Nat} (h : k ≤ t) : decide (ival t k ≥ 0) = true := decide_eq_true (by unfold ival; simp only [Int.ofNat_eq_natCast]; omega)
theorem ival_gen {t k : Nat} (h : t < k) : decide (ival t k ≥ 0) = false := decide_eq_false (by unfold ival; simp only [Int.ofNat_eq_natCast]; omega)
theorem ival_lt {t k : Nat} (h : t < k + 8) : decide (ival t k < 8) = true := decide_eq_true (by unfold ival; simp only [Int.ofNat_eq_natCast]; omega)
theorem ival_lto {t k : Nat} (h : decide (ival t k < 8) = true) : t < k + 8 := by
  have := of_decide_eq_true h
  unfold ival at this; simp only [Int.ofNat_eq_natCast] at this; omega
theorem ival_geo {t k : Nat} (h : decide (ival t k < 8) = false) : k + 8 ≤ t := by
  have := of_decide_eq_false h
  unfold ival at this; simp only [Int.ofNat_eq_natCast] at this; omega
theorem ival_eq {t k : Nat} (h : k ≤ t) : ival t k = Int.ofNat (t - k) := by unfold ival; simp only [Int.ofNat_eq_natCast]; omega
theorem ival_s {t k : Nat} (h : t < 1000) (h2 : k < 1000) : IntKind.i64.wrap (ival t k - 1) = ival t (k + 1) := by
  unfold ival
  rw [IntKind.wrap_i64]
  simp only [Int.ofNat_eq_natCast]; omega
theorem lenb_min {n s : Nat} (h : s ≤ 64) : IntKind.u8.wrap (Int.fdiv (Int.ofNat n) (2 ^ (Nat.min s 64))) = lenb n s := by
  rw [show Nat.min s 64 = s from Nat.min_eq_left h]; rfl
theorem lenb_0 (s : Nat) : lenb (0 * 8) s = 0 := by
  have : Int.fdiv (Int.ofNat (0 * 8)) (2 ^ s) = 0 := Int.zero_fdiv _
  unfold lenb
  rw [this]
  decide
/-- How many noughts are appended. -/
@[irreducible] def zn64 (L : Nat) : Nat := (120 - L % 64) % 64
@[irreducible] def zn128 (L : Nat) : Nat := (240 - L % 128) % 128
theorem zn64_end (L : Nat) : (L + zn64 L) % 64 = 56 := by unfold zn64; omega
theorem zn64_lt {L k : Nat} (h : k < zn64 L) : (L + k) % 64 ≠ 56 := by unfold zn64 at h; omega
theorem zn64_64 (L : Nat) : zn64 L < 64 := by unfold zn64; omega
theorem zn128_end (L : Nat) : (L + zn128 L) % 128 = 112 := by unfold zn128; omega
theorem zn128_lt {L k : Nat} (h : k < zn128 L) : (L + k) % 128 ≠ 112 := by unfold zn128 at h; omega
theorem zn128_128 (L : Nat) : zn128 L < 128 := by unfold zn128; omega
theorem app_n0 {C : Orc} {M : Mem} {i off base : Nat} {lim : Option Nat} {c : AV} {rs : List Nat} {by' : Nat} (hs : srcA 1 0 M (.sl i off base 0 1 lim) = some (c, rs)) : psem C (.append 1 by') [.nilsl, .sl i off base 0 1 lim] M = some (.nilsl, M, ⟨[], [], true, false⟩) := by
  simp only [psem, appendA, lenA, hs]
  rfl
def h_joinA : Hints := ⟨fun it t => match t with
  | _ => none, fun it id => match id, it with
  | _, _ => none⟩
set_option maxHeartbeats 4000000 in
set_option maxRecDepth 100000 in
theorem run_joinA  : specW Try.prog noD (cH8 Try.prog) (h_joinA) 1000 59 [.nilsl, .nilsl] [] (fun v M => v = (.sl 0 0 0 0 1 none) ∧ M = [(⟨(.nums .u8 []), .own, false⟩ : Blk)]) =
  ((AV.sl 0 0 0 0 1 none) = (AV.sl 0 0 0 0 1 none) ∧ ([(⟨(.nums .u8 []), .own, false⟩ : Blk)] : Mem) = [(⟨(.nums .u8 []), .own, false⟩ : Blk)]) := by kernel_rfl
theorem joinA_ok  : ∃ D H N, specW Try.prog D (cH8 Try.prog) H N 59 [.nilsl, .nilsl] [] fun v M => v = (.sl 0 0 0 0 1 none) ∧ M = [(⟨(.nums .u8 []), .own, false⟩ : Blk)] := ⟨noD, _, 1000, Eq.mpr (run_joinA) ⟨rfl, rfl⟩⟩
def h_joinB : Hints := ⟨fun it t => match t with
  | _ => none, fun it id => match id, it with
  | _, _ => none⟩
set_option maxHeartbeats 4000000 in
set_option maxRecDepth 100000 in
theorem run_joinB  : specW Try.prog noD (cH8 Try.prog) (h_joinB) 1000 59 [(.sl 0 0 0 1 1 none), .nilsl] [(⟨(.agg [.nilsl]), .own, false⟩ : Blk)] (fun v M => v = .nilsl ∧ M = [(⟨(.agg [.nilsl]), .own, false⟩ : Blk)]) =
  (AV.nilsl = .nilsl ∧ ([(⟨(.agg [.nilsl]), .own, false⟩ : Blk)] : Mem) = [(⟨(.agg [.nilsl]), .own, false⟩ : Blk)]) := by kernel_rfl
theorem joinB_ok  : ∃ D H N, specW Try.prog D (cH8 Try.prog) H N 59 [(.sl 0 0 0 1 1 none), .nilsl] [(⟨(.agg [.nilsl]), .own, false⟩ : Blk)] fun v M => v = .nilsl ∧ M = [(⟨(.agg [.nilsl]), .own, false⟩ : Blk)] := ⟨noD, _, 1000, Eq.mpr (run_joinB) ⟨rfl, rfl⟩⟩
def h_joinr0 (off bs o : Nat) (lm : Option Nat) (B : List Int) : Hints := ⟨fun it t => match t with
  | 22 => bif eqIt [] it then some (.op .nilsl [(⟨(.agg [(.sl 1 off bs 0 1 lm)]), .own, false⟩ : Blk), ⟨(.at o (.nums .u8 B)), .ro, false⟩] ⟨[], [], true, false⟩) else none
  | _ => none, fun it id => match id, it with
  | _, _ => none⟩
set_option maxHeartbeats 4000000 in
set_option maxRecDepth 100000 in
theorem run_joinr0 (off bs o : Nat) (lm : Option Nat) (B : List Int) : specW Try.prog noD (cH8 Try.prog) (h_joinr0 off bs o lm B) 1000 59 [(.sl 0 0 0 1 1 none), .nilsl] [(⟨(.agg [(.sl 1 off bs 0 1 lm)]), .own, false⟩ : Blk), ⟨(.at o (.nums .u8 B)), .ro, false⟩] (fun v M => v = .nilsl ∧ M = [(⟨(.agg [(.sl 1 off bs 0 1 lm)]), .own, false⟩ : Blk), ⟨(.at o (.nums .u8 B)), .ro, false⟩]) =
  (psem (forget (cH8 Try.prog)) (.append 1 1) [.nilsl, (.sl 1 off bs 0 1 lm)] [(⟨(.agg [(.sl 1 off bs 0 1 lm)]), .own, false⟩ : Blk), ⟨(.at o (.nums .u8 B)), .ro, false⟩] = some (.nilsl, [(⟨(.agg [(.sl 1 off bs 0 1 lm)]), .own, false⟩ : Blk), ⟨(.at o (.nums .u8 B)), .ro, false⟩], ⟨[], [], true, false⟩) ∧ (AV.nilsl = .nilsl ∧ ([(⟨(.agg [(.sl 1 off bs 0 1 lm)]), .own, false⟩ : Blk), ⟨(.at o (.nums .u8 B)), .ro, false⟩] : Mem) = [(⟨(.agg [(.sl 1 off bs 0 1 lm)]), .own, false⟩ : Blk), ⟨(.at o (.nums .u8 B)), .ro, false⟩])) := by kernel_rfl
theorem joinr0_ok {off bs o : Nat} {lm : Option Nat} {B : List Int} (hyp : o ≤ off ∧ off - o ≤ B.length) : ∃ D H N, specW Try.prog D (cH8 Try.prog) H N 59 [(.sl 0 0 0 1 1 none), .nilsl] [(⟨(.agg [(.sl 1 off bs 0 1 lm)]), .own, false⟩ : Blk), ⟨(.at o (.nums .u8 B)), .ro, false⟩] fun v M => v = .nilsl ∧ M = [(⟨(.agg [(.sl 1 off bs 0 1 lm)]), .own, false⟩ : Blk), ⟨(.at o (.nums .u8 B)), .ro, false⟩] := ⟨noD, _, 1000, Eq.mpr (run_joinr0 off bs o lm B) ⟨(app_n0 (src_at rfl hyp.1 (by have := hyp.2; omega))), ⟨rfl, rfl⟩⟩⟩
def h_joinr1 (off bs n o : Nat) (lm : Option Nat) (B : List Int) : Hints := ⟨fun it t => match t with
  | 22 => bif eqIt [] it then some (.op (.sl 2 0 0 (n + 1) 1 none) [(⟨(.agg [(.sl 1 off bs (n + 1) 1 lm)]), .own, false⟩ : Blk), ⟨(.at o (.nums .u8 B)), .ro, false⟩, ⟨(.nums .u8 (seg B (off - o) (n + 1))), .grow, false⟩] ⟨[], [], true, false⟩) else none
  | _ => none, fun it id => match id, it with
  | _, _ => none⟩
set_option maxHeartbeats 4000000 in
set_option maxRecDepth 100000 in
theorem run_joinr1 (off bs n o : Nat) (lm : Option Nat) (B : List Int) : specW Try.prog noD (cH8 Try.prog) (h_joinr1 off bs n o lm B) 1000 59 [(.sl 0 0 0 1 1 none), .nilsl] [(⟨(.agg [(.sl 1 off bs (n + 1) 1 lm)]), .own, false⟩ : Blk), ⟨(.at o (.nums .u8 B)), .ro, false⟩] (fun v M => v = (.sl 2 0 0 (n + 1) 1 none) ∧ M = [(⟨(.agg [(.sl 1 off bs (n + 1) 1 lm)]), .own, false⟩ : Blk), ⟨(.at o (.nums .u8 B)), .ro, false⟩, ⟨(.nums .u8 (seg B (off - o) (n + 1))), .grow, false⟩]) =
  (psem (forget (cH8 Try.prog)) (.append 1 1) [.nilsl, (.sl 1 off bs (n + 1) 1 lm)] [(⟨(.agg [(.sl 1 off bs (n + 1) 1 lm)]), .own, false⟩ : Blk), ⟨(.at o (.nums .u8 B)), .ro, false⟩] = some ((.sl 2 0 0 (n + 1) 1 none), [(⟨(.agg [(.sl 1 off bs (n + 1) 1 lm)]), .own, false⟩ : Blk), ⟨(.at o (.nums .u8 B)), .ro, false⟩, ⟨(.nums .u8 (seg B (off - o) (n + 1))), .grow, false⟩], ⟨[], [], true, false⟩) ∧ ((AV.sl 2 0 0 (n + 1) 1 none) = (AV.sl 2 0 0 (n + 1) 1 none) ∧ ([(⟨(.agg [(.sl 1 off bs (n + 1) 1 lm)]), .own, false⟩ : Blk), ⟨(.at o (.nums .u8 B)), .ro, false⟩, ⟨(.nums .u8 (seg B (off - o) (n + 1))), .grow, false⟩] : Mem) = [(⟨(.agg [(.sl 1 off bs (n + 1) 1 lm)]), .own, false⟩ : Blk), ⟨(.at o (.nums .u8 B)), .ro, false⟩, ⟨(.nums .u8 (seg B (off - o) (n + 1))), .grow, false⟩])) := by kernel_rfl
theorem joinr1_ok {off bs n o : Nat} {lm : Option Nat} {B : List Int} (hyp : o ≤ off ∧ off - o + (n + 1) ≤ B.length ∧ n < 1000000) : ∃ D H N, specW Try.prog D (cH8 Try.prog) H N 59 [(.sl 0 0 0 1 1 none), .nilsl] [(⟨(.agg [(.sl 1 off bs (n + 1) 1 lm)]), .own, false⟩ : Blk), ⟨(.at o (.nums .u8 B)), .ro, false⟩] fun v M => v = (.sl 2 0 0 (n + 1) 1 none) ∧ M = [(⟨(.agg [(.sl 1 off bs (n + 1) 1 lm)]), .own, false⟩ : Blk), ⟨(.at o (.nums .u8 B)), .ro, false⟩, ⟨(.nums .u8 (seg B (off - o) (n + 1))), .grow, false⟩] := ⟨noD, _, 1000, Eq.mpr (run_joinr1 off bs n o lm B) ⟨(app_nil rfl (by omega) (src_at rfl hyp.1 (by have := hyp.2.1; omega)) (by have := hyp.2.2; omega)), ⟨rfl, rfl⟩⟩⟩
def s_join : Spec := fun a M => match a, M with
  | [.nilsl, .nilsl], [] => some (none, (.sl 0 0 0 0 1 none), [(⟨(.nums .u8 []), .own, false⟩ : Blk)])
  | [(.sl 0 0 0 1 1 none), .nilsl], [⟨(.agg [.nilsl]), .own, false⟩] => some (none, .nilsl, [(⟨(.agg [.nilsl]), .own, false⟩ : Blk)])
  | [(.sl 0 0 0 1 1 none), .nilsl], [⟨(.agg [(.sl 1 off bs 0 1 lm)]), .own, false⟩, ⟨(.at o (.nums .u8 B)), .ro, false⟩] => some (some (o ≤ off ∧ off - o ≤ B.length), .nilsl, [(⟨(.agg [(.sl 1 off bs 0 1 lm)]), .own, false⟩ : Blk), ⟨(.at o (.nums .u8 B)), .ro, false⟩])
  | [(.sl 0 0 0 1 1 none), .nilsl], [⟨(.agg [(.sl 1 off bs (n + 1) 1 lm)]), .own, false⟩, ⟨(.at o (.nums .u8 B)), .ro, false⟩] => some (some (o ≤ off ∧ off - o + (n + 1) ≤ B.length ∧ n < 1000000), (.sl 2 0 0 (n + 1) 1 none), [(⟨(.agg [(.sl 1 off bs (n + 1) 1 lm)]), .own, false⟩ : Blk), ⟨(.at o (.nums .u8 B)), .ro, false⟩, ⟨(.nums .u8 (seg B (off - o) (n + 1))), .grow, false⟩])
  | _, _ => none
def cH9 (P : Program) : OrcP := addS (cH8 P) 59 s_join
theorem cH9_ok : OrcPOK Try.prog (cH9 Try.prog) := by
  unfold cH9
  refine (addS_ok mixed cH8_ok cH8_ok ?_)
  · intro a M q v M' h hq
    unfold s_join at h
    split at h
    · simp only [Option.some.injEq, Prod.mk.injEq] at h
      obtain ⟨rfl, rfl, rfl⟩ := h
      exact joinA_ok 
    · simp only [Option.some.injEq, Prod.mk.injEq] at h
      obtain ⟨rfl, rfl, rfl⟩ := h
      exact joinB_ok 
    · simp only [Option.some.injEq, Prod.mk.injEq] at h
      obtain ⟨rfl, rfl, rfl⟩ := h
      exact joinr0_ok hq
    · simp only [Option.some.injEq, Prod.mk.injEq] at h
      obtain ⟨rfl, rfl, rfl⟩ := h
      exact joinr1_ok hq
    · cases h
def pz64_X (B : List Int) : Nat → List Int
  | 0 => B ++ [128]
  | k + 1 => pz64_X B k ++ [0]
theorem pz64_len (B : List Int) : ∀ k, (pz64_X B k).length = B.length + 1 + k
  | 0 => by simp [pz64_X]
  | k + 1 => by
    show (pz64_X B k ++ [0]).length = _
    rw [List.length_append, pz64_len B k]; rfl
def pb64 (n k : Nat) : Int := bif Nat.blt k 0 then 0 else lenb (n * 8) (8 * (7 - k))
def pa64 (B : List Int) (n : Nat) : Nat → List Int
  | 0 => pz64_X B (zn64 (n + 1))
  | k + 1 => pa64 B n k ++ [pb64 n k]
theorem pb64_hi {n k : Nat} (h : 0 ≤ k) : pb64 n k = lenb (n * 8) (8 * (7 - k)) := by
  have : Nat.blt k 0 = false := by
    cases hq : Nat.blt k 0 with
    | false => rfl
    | true => have := blt_true hq; omega
  rw [pb64, this, cond_false]
theorem pb64_lo {n k : Nat} (h : k < 0) : pb64 n k = 0 := by rw [pb64, blt_ok h, cond_true]
/-- The bytes, a 1, noughts, their number. -/
def pad64 (B : List Int) (n : Nat) : List Int := pa64 B n 8
theorem pad64_len {B : List Int} {n : Nat} (h : B.length = n) : (pad64 B n).length = n + 1 + zn64 (n + 1) + 8 := by
  have : ∀ k, (pa64 B n k).length = n + 1 + zn64 (n + 1) + k := by
    intro k
    induction k with
    | zero => simp only [pa64, pz64_len, h]; omega
    | succ k ih => simp only [pa64, List.length_append, List.length_cons, List.length_nil, ih]; omega
  exact this 8
theorem pa64_len {B : List Int} {n : Nat} (h : B.length = n) (k : Nat) : (pa64 B n k).length = n + 1 + zn64 (n + 1) + k := by
  induction k with
  | zero => simp only [pa64, pz64_len, h]; omega
  | succ k ih => simp only [pa64, List.length_append, List.length_cons, List.length_nil, ih]; omega
theorem app_pa64 {C : Orc} {M : Mem} {i base len n by' : Nat} {B : List Int} {d : Bool} {x : AV} {v : Int} {rs : List Nat} (k : Nat) (hi : liveB M i = some ⟨.nums .u8 (pa64 B n k), .grow, d⟩) (hl : (pa64 B n k).length = len) (hx : lenA x = some 1) (hs : srcA 1 1 M x = some (.nums .u8 [v], rs)) (hv : pb64 n k = v) (hr : (len + 1) * (by' + 1) ≤ 68719476736) :
    psem C (.append 1 by') [.sl i 0 base len 1 none, x] M = some (.sl M.length 0 base (len + 1) 1 none, M.set i ⟨.junk, .dead, true⟩ ++ [⟨.nums .u8 (pa64 B n (k + 1)), .grow, false⟩], ⟨[], [i], true, false⟩) := by
  have := app_grow (C := C) (base := base) (by' := by') hi hl hx hs hr
  rw [this, ← hv]
  rfl
def pz128_X (B : List Int) : Nat → List Int
  | 0 => B ++ [128]
  | k + 1 => pz128_X B k ++ [0]
theorem pz128_len (B : List Int) : ∀ k, (pz128_X B k).length = B.length + 1 + k
  | 0 => by simp [pz128_X]
  | k + 1 => by
    show (pz128_X B k ++ [0]).length = _
    rw [List.length_append, pz128_len B k]; rfl
def pb128 (n k : Nat) : Int := bif Nat.blt k 8 then 0 else lenb (n * 8) (8 * (15 - k))
def pa128 (B : List Int) (n : Nat) : Nat → List Int
  | 0 => pz128_X B (zn128 (n + 1))
  | k + 1 => pa128 B n k ++ [pb128 n k]
theorem pb128_hi {n k : Nat} (h : 8 ≤ k) : pb128 n k = lenb (n * 8) (8 * (15 - k)) := by
  have : Nat.blt k 8 = false := by
    cases hq : Nat.blt k 8 with
    | false => rfl
    | true => have := blt_true hq; omega
  rw [pb128, this, cond_false]
theorem pb128_lo {n k : Nat} (h : k < 8) : pb128 n k = 0 := by rw [pb128, blt_ok h, cond_true]
/-- The bytes, a 1, noughts, their number. -/
def pad128 (B : List Int) (n : Nat) : List Int := pa128 B n 16
theorem pad128_len {B : List Int} {n : Nat} (h : B.length = n) : (pad128 B n).length = n + 1 + zn128 (n + 1) + 16 := by
  have : ∀ k, (pa128 B n k).length = n + 1 + zn128 (n + 1) + k := by
    intro k
    induction k with
    | zero => simp only [pa128, pz128_len, h]; omega
    | succ k ih => simp only [pa128, List.length_append, List.length_cons, List.length_nil, ih]; omega
  exact this 16
theorem pa128_len {B : List Int} {n : Nat} (h : B.length = n) (k : Nat) : (pa128 B n k).length = n + 1 + zn128 (n + 1) + k := by
  induction k with
  | zero => simp only [pa128, pz128_len, h]; omega
  | succ k ih => simp only [pa128, List.length_append, List.length_cons, List.length_nil, ih]; omega
theorem app_pa128 {C : Orc} {M : Mem} {i base len n by' : Nat} {B : List Int} {d : Bool} {x : AV} {v : Int} {rs : List Nat} (k : Nat) (hi : liveB M i = some ⟨.nums .u8 (pa128 B n k), .grow, d⟩) (hl : (pa128 B n k).length = len) (hx : lenA x = some 1) (hs : srcA 1 1 M x = some (.nums .u8 [v], rs)) (hv : pb128 n k = v) (hr : (len + 1) * (by' + 1) ≤ 68719476736) :
    psem C (.append 1 by') [.sl i 0 base len 1 none, x] M = some (.sl M.length 0 base (len + 1) 1 none, M.set i ⟨.junk, .dead, true⟩ ++ [⟨.nums .u8 (pa128 B n (k + 1)), .grow, false⟩], ⟨[], [i], true, false⟩) := by
  have := app_grow (C := C) (base := base) (by' := by') hi hl hx hs hr
  rw [this, ← hv]
  rfl
def x_pad64A  (X : List Int) (ln : Nat) : St := ⟨(.junk :: ((.int .i64 64) :: ((.int .i64 8) :: (jk 4 ((.sl 0 0 0 ln 1 none) :: ((.int .u64 0) :: (jk 40 []))))))), [⟨(.nums .u8 X), .grow, false⟩]⟩
def v_pad64A  (X : List Int) (ln : Nat) (i : Int) : St := ⟨(jk 7 ((.sl 0 0 0 ln 1 none) :: ((.int .u64 0) :: ((.int .i64 i) :: (jk 39 []))))), [⟨(.nums .u8 X), .grow, false⟩]⟩
def h_pad64A : Hints := ⟨fun it t => match t with
  | 23 => (match (bif eqIt [none] it then some (.val (.int .i64 (Int.ofNat (((0 + 1) + (zn64 (0 + 1))) % 64)))) else none : Option VH), it with | some v, _ => some v | none, [some k0] => some (.val (.int .i64 (Int.ofNat (((0 + 1) + k0) % 64)))) | _, _ => none)
  | 27 => (match (bif eqIt [none] it then some (.val (.bool false)) else none : Option VH), it with | some v, _ => some v | none, [some k0] => some (.val (.bool true)) | _, _ => none)
  | 30 => (match it with | [some k0] => some (.op (.sl 2 0 0 (((0 + 1) + k0) + 1) 1 none) [(⟨.junk, .dead, true⟩ : Blk), ⟨(.nums .u8 [0]), .own, false⟩, ⟨(.nums .u8 ((pz64_X ([] : List Int) k0) ++ [0])), .grow, false⟩] ⟨[], [0], true, false⟩) | _ => none)
  | 34 => (match (bif eqIt [none] it then some (.val (.bool false)) else none : Option VH), it with | some v, _ => some v | none, [some k0] => some (.val (.bool true)) | _, _ => none)
  | 38 => (match it with | [some k0] => some (.val (.bool true)) | _ => none)
  | 40 => (match it with | [some k0] => some (.val (.int .i64 (Int.ofNat (7 - k0)))) | _ => none)
  | 41 => (match it with | [some k0] => some (.val (.int .i64 (Int.ofNat (8 * (7 - k0))))) | _ => none)
  | 43 => (match it with | [some k0] => some (.val (.int .u8 (lenb (0 * 8) (8 * (7 - k0))))) | _ => none)
  | 45 => (match it with | [some k0] => some (.val (.int .u8 (pb64 0 k0))) | _ => none)
  | 47 => (match it with | [some k0] => some (.op (.sl 2 0 0 (((0 + 1 + zn64 (0 + 1)) + k0) + 1) 1 none) [(⟨.junk, .dead, true⟩ : Blk), ⟨(.nums .u8 [(pb64 0 k0)]), .own, false⟩, ⟨(.nums .u8 (pa64 ([] : List Int) 0 (k0 + 1))), .grow, false⟩] ⟨[], [0], true, false⟩) | _ => none)
  | 36 => (match it with | [some k0] => some (.val (.int .i64 (ival 7 (k0 + 1)))) | _ => none)
  | 48 => bif eqIt [] it then some (.val (.sl 0 0 0 (0 + 1 + zn64 (0 + 1) + 8) 1 none)) else none
  | _ => none, fun it id => match id, it with
  | 0, [] => some ⟨(zn64 (0 + 1)), true, false, fun kk => x_pad64A  (pz64_X ([] : List Int) kk) ((0 + 1) + kk)⟩
  | 1, [] => some ⟨8, true, false, fun kk => v_pad64A  (pa64 ([] : List Int) 0 kk) ((0 + 1 + zn64 (0 + 1)) + kk) (ival 7 kk)⟩
  | _, _ => none⟩
def d_pad64A : Nat → Option (List Nat) := fun n => match n with
  | 1 => some [0, 1, 2, 3, 4, 5, 6, 10, 11, 12, 13, 14, 15, 16, 17, 18, 19, 20, 21, 22, 23, 24, 25, 26, 27, 28, 29, 30, 31, 32, 33, 34, 35, 36, 37, 38, 39, 40, 41, 42, 43, 44, 45, 46, 47, 48]
  | 0 => some [0, 3, 4, 5, 6, 9, 10, 11, 12, 13, 14, 15, 16, 17, 18, 19, 20, 21, 22, 23, 24, 25, 26, 27, 28, 29, 30, 31, 32, 33, 34, 35, 36, 37, 38, 39, 40, 41, 42, 43, 44, 45, 46, 47, 48]
  | _ => none
set_option maxHeartbeats 4000000 in
set_option maxRecDepth 100000 in
theorem run_pad64A  : specW Try.prog d_pad64A (cH9 Try.prog) (h_pad64A) 1000 47 [.nilsl, (.int .i64 64), (.int .i64 8)] [] (fun v M => v = (.sl 0 0 0 (0 + 1 + zn64 (0 + 1) + 8) 1 none) ∧ M = [(⟨(.nums .u8 (pad64 ([] : List Int) 0)), .grow, false⟩ : Blk)]) =
  (bif Nat.blt (zn64 (0 + 1)) 1000 then (x_pad64A  [128] 1 = x_pad64A  (pz64_X ([] : List Int) 0) ((0 + 1) + 0) ∧ (∀ k0, k0 < (zn64 (0 + 1)) → ((AV.int .i64 (Int.tmod (Int.ofNat ((0 + 1) + k0)) 64)) = (AV.int .i64 (Int.ofNat (((0 + 1) + k0) % 64))) ∧ (AV.bool ((Int.ofNat (((0 + 1) + k0) % 64)) != 56)) = (AV.bool true) ∧ psem (forget (cH9 Try.prog)) (.append 1 1) [(.sl 0 0 0 ((0 + 1) + k0) 1 none), (.sl 1 0 0 1 1 none)] [(⟨(.nums .u8 (pz64_X ([] : List Int) k0)), .grow, false⟩ : Blk), ⟨(.nums .u8 [0]), .own, false⟩] = some ((.sl 2 0 0 (((0 + 1) + k0) + 1) 1 none), [(⟨.junk, .dead, true⟩ : Blk), ⟨(.nums .u8 [0]), .own, false⟩, ⟨(.nums .u8 ((pz64_X ([] : List Int) k0) ++ [0])), .grow, false⟩], ⟨[], [0], true, false⟩) ∧ x_pad64A  ((pz64_X ([] : List Int) k0) ++ [0]) (((0 + 1) + k0) + 1) = x_pad64A  (pz64_X ([] : List Int) (k0 + 1)) ((0 + 1) + (k0 + 1)))) ∧ (AV.int .i64 (Int.tmod (Int.ofNat ((0 + 1) + (zn64 (0 + 1)))) 64)) = (AV.int .i64 (Int.ofNat (((0 + 1) + (zn64 (0 + 1))) % 64))) ∧ (AV.bool ((Int.ofNat (((0 + 1) + (zn64 (0 + 1))) % 64)) != 56)) = (AV.bool false) ∧ v_pad64A  (pz64_X ([] : List Int) (zn64 (0 + 1))) ((0 + 1) + (zn64 (0 + 1))) 7 = v_pad64A  (pa64 ([] : List Int) 0 0) ((0 + 1 + zn64 (0 + 1)) + 0) (ival 7 0) ∧ (∀ k0, k0 < 8 → ((AV.bool (decide ((ival 7 k0) ≥ 0))) = (AV.bool true) ∧ (AV.bool (decide ((ival 7 k0) < 8))) = (AV.bool true) ∧ (AV.int .i64 (ival 7 k0)) = (AV.int .i64 (Int.ofNat (7 - k0))) ∧ (AV.int .i64 (IntKind.i64.wrap ((8 : Int) * (Int.ofNat (7 - k0))))) = (AV.int .i64 (Int.ofNat (8 * (7 - k0)))) ∧ (AV.int .u8 (IntKind.u8.wrap (Int.fdiv (0 : Int) (2 ^ (Nat.min (8 * (7 - k0)) 64))))) = (AV.int .u8 (lenb (0 * 8) (8 * (7 - k0)))) ∧ (AV.int .u8 (lenb (0 * 8) (8 * (7 - k0)))) = (AV.int .u8 (pb64 0 k0)) ∧ psem (forget (cH9 Try.prog)) (.append 1 1) [(.sl 0 0 0 ((0 + 1 + zn64 (0 + 1)) + k0) 1 none), (.sl 1 0 0 1 1 none)] [(⟨(.nums .u8 (pa64 ([] : List Int) 0 k0)), .grow, false⟩ : Blk), ⟨(.nums .u8 [(pb64 0 k0)]), .own, false⟩] = some ((.sl 2 0 0 (((0 + 1 + zn64 (0 + 1)) + k0) + 1) 1 none), [(⟨.junk, .dead, true⟩ : Blk), ⟨(.nums .u8 [(pb64 0 k0)]), .own, false⟩, ⟨(.nums .u8 (pa64 ([] : List Int) 0 (k0 + 1))), .grow, false⟩], ⟨[], [0], true, false⟩) ∧ (AV.int .i64 (IntKind.i64.wrap ((ival 7 k0) - (1 : Int)))) = (AV.int .i64 (ival 7 (k0 + 1))) ∧ v_pad64A  (pa64 ([] : List Int) 0 (k0 + 1)) (((0 + 1 + zn64 (0 + 1)) + k0) + 1) (ival 7 (k0 + 1)) = v_pad64A  (pa64 ([] : List Int) 0 (k0 + 1)) ((0 + 1 + zn64 (0 + 1)) + (k0 + 1)) (ival 7 (k0 + 1)))) ∧ (AV.bool (decide ((ival 7 8) ≥ 0))) = (AV.bool false) ∧ (AV.sl 0 0 0 ((0 + 1 + zn64 (0 + 1)) + 8) 1 none) = (AV.sl 0 0 0 (0 + 1 + zn64 (0 + 1) + 8) 1 none) ∧ ((AV.sl 0 0 0 (0 + 1 + zn64 (0 + 1) + 8) 1 none) = (AV.sl 0 0 0 (0 + 1 + zn64 (0 + 1) + 8) 1 none) ∧ ([(⟨(.nums .u8 (pa64 ([] : List Int) 0 8)), .grow, false⟩ : Blk)] : Mem) = [(⟨(.nums .u8 (pad64 ([] : List Int) 0)), .grow, false⟩ : Blk)])) else False) := by kernel_rfl
set_option maxHeartbeats 4000000 in
set_option maxRecDepth 100000 in
theorem pad64A_ok  : ∃ D H N, specW Try.prog D (cH9 Try.prog) H N 47 [.nilsl, (.int .i64 64), (.int .i64 8)] [] fun v M => v = (.sl 0 0 0 (0 + 1 + zn64 (0 + 1) + 8) 1 none) ∧ M = [(⟨(.nums .u8 (pad64 ([] : List Int) 0)), .grow, false⟩ : Blk)] := by
  exact ⟨d_pad64A, _, 1000, Eq.mpr (run_pad64A) (bifT (blt_ok (Nat.lt_trans (zn64_64 _) (by decide))) ⟨rfl, fun k0 hk0 => ⟨rfl, (aB (i_ne (b := 56) (zn64_lt hk0))), (app_grow (n := 1) rfl (by simp only [List.length_append, List.length_cons, List.length_nil, pz64_len, pa64_len (B := []) (n := 0) rfl]; try omega) rfl (src_nums (off := 0) (n := 1) (l := [0]) rfl (Nat.le_refl 1)) (rm2 (by have := zn64_64 (0 + 1); omega))), rfl⟩, rfl, (aB (i_nen (b := 56) (zn64_end _))), rfl, fun k0 hk0 => ⟨(aB (ival_ge (by omega))), (aB (ival_lt (by omega))), (aI (ival_eq (by omega))), (aI (i_mul (a := 8) (b := (7 - k0)) (by omega))), (aI (lenb_min (n := 0 * 8) (by omega))), (aI (pb64_hi (by omega)).symm), (app_pa64 k0 rfl (by simp only [List.length_append, List.length_cons, List.length_nil, pz64_len, pa64_len (B := []) (n := 0) rfl]; try omega) rfl (src_nums (off := 0) (n := 1) (l := [(pb64 0 k0)]) rfl (Nat.le_refl 1)) rfl (rm2 (by have := zn64_64 (0 + 1); omega))), (aI (ival_s (by decide) (by omega))), rfl⟩, (aB (ival_gen (by decide))), rfl, ⟨rfl, rfl⟩⟩)⟩
def x_pad64B  (X : List Int) (ln : Nat) : St := ⟨(.junk :: ((.int .i64 64) :: ((.int .i64 8) :: (jk 4 ((.sl 1 0 0 ln 1 none) :: ((.int .u64 0) :: (jk 40 []))))))), [⟨(.agg [.nilsl]), .own, false⟩, ⟨(.nums .u8 X), .grow, false⟩]⟩
def v_pad64B  (X : List Int) (ln : Nat) (i : Int) : St := ⟨(jk 7 ((.sl 1 0 0 ln 1 none) :: ((.int .u64 0) :: ((.int .i64 i) :: (jk 39 []))))), [⟨(.agg [.nilsl]), .own, false⟩, ⟨(.nums .u8 X), .grow, false⟩]⟩
def h_pad64B : Hints := ⟨fun it t => match t with
  | 23 => (match (bif eqIt [none] it then some (.val (.int .i64 (Int.ofNat (((0 + 1) + (zn64 (0 + 1))) % 64)))) else none : Option VH), it with | some v, _ => some v | none, [some k0] => some (.val (.int .i64 (Int.ofNat (((0 + 1) + k0) % 64)))) | _, _ => none)
  | 27 => (match (bif eqIt [none] it then some (.val (.bool false)) else none : Option VH), it with | some v, _ => some v | none, [some k0] => some (.val (.bool true)) | _, _ => none)
  | 30 => (match it with | [some k0] => some (.op (.sl 3 0 0 (((0 + 1) + k0) + 1) 1 none) [(⟨(.agg [.nilsl]), .own, false⟩ : Blk), ⟨.junk, .dead, true⟩, ⟨(.nums .u8 [0]), .own, false⟩, ⟨(.nums .u8 ((pz64_X ([] : List Int) k0) ++ [0])), .grow, false⟩] ⟨[], [1], true, false⟩) | _ => none)
  | 34 => (match (bif eqIt [none] it then some (.val (.bool false)) else none : Option VH), it with | some v, _ => some v | none, [some k0] => some (.val (.bool true)) | _, _ => none)
  | 38 => (match it with | [some k0] => some (.val (.bool true)) | _ => none)
  | 40 => (match it with | [some k0] => some (.val (.int .i64 (Int.ofNat (7 - k0)))) | _ => none)
  | 41 => (match it with | [some k0] => some (.val (.int .i64 (Int.ofNat (8 * (7 - k0))))) | _ => none)
  | 43 => (match it with | [some k0] => some (.val (.int .u8 (lenb (0 * 8) (8 * (7 - k0))))) | _ => none)
  | 45 => (match it with | [some k0] => some (.val (.int .u8 (pb64 0 k0))) | _ => none)
  | 47 => (match it with | [some k0] => some (.op (.sl 3 0 0 (((0 + 1 + zn64 (0 + 1)) + k0) + 1) 1 none) [(⟨(.agg [.nilsl]), .own, false⟩ : Blk), ⟨.junk, .dead, true⟩, ⟨(.nums .u8 [(pb64 0 k0)]), .own, false⟩, ⟨(.nums .u8 (pa64 ([] : List Int) 0 (k0 + 1))), .grow, false⟩] ⟨[], [1], true, false⟩) | _ => none)
  | 36 => (match it with | [some k0] => some (.val (.int .i64 (ival 7 (k0 + 1)))) | _ => none)
  | 48 => bif eqIt [] it then some (.val (.sl 1 0 0 (0 + 1 + zn64 (0 + 1) + 8) 1 none)) else none
  | _ => none, fun it id => match id, it with
  | 0, [] => some ⟨(zn64 (0 + 1)), true, false, fun kk => x_pad64B  (pz64_X ([] : List Int) kk) ((0 + 1) + kk)⟩
  | 1, [] => some ⟨8, true, false, fun kk => v_pad64B  (pa64 ([] : List Int) 0 kk) ((0 + 1 + zn64 (0 + 1)) + kk) (ival 7 kk)⟩
  | _, _ => none⟩
set_option maxHeartbeats 4000000 in
set_option maxRecDepth 100000 in
theorem run_pad64B  : specW Try.prog d_pad64A (cH9 Try.prog) (h_pad64B) 1000 47 [(.sl 0 0 0 1 1 none), (.int .i64 64), (.int .i64 8)] [(⟨(.agg [.nilsl]), .own, false⟩ : Blk)] (fun v M => v = (.sl 1 0 0 (0 + 1 + zn64 (0 + 1) + 8) 1 none) ∧ M = [(⟨(.agg [.nilsl]), .own, false⟩ : Blk), ⟨(.nums .u8 (pad64 ([] : List Int) 0)), .grow, false⟩]) =
  (bif Nat.blt (zn64 (0 + 1)) 1000 then (x_pad64B  [128] 1 = x_pad64B  (pz64_X ([] : List Int) 0) ((0 + 1) + 0) ∧ (∀ k0, k0 < (zn64 (0 + 1)) → ((AV.int .i64 (Int.tmod (Int.ofNat ((0 + 1) + k0)) 64)) = (AV.int .i64 (Int.ofNat (((0 + 1) + k0) % 64))) ∧ (AV.bool ((Int.ofNat (((0 + 1) + k0) % 64)) != 56)) = (AV.bool true) ∧ psem (forget (cH9 Try.prog)) (.append 1 1) [(.sl 1 0 0 ((0 + 1) + k0) 1 none), (.sl 2 0 0 1 1 none)] [(⟨(.agg [.nilsl]), .own, false⟩ : Blk), ⟨(.nums .u8 (pz64_X ([] : List Int) k0)), .grow, false⟩, ⟨(.nums .u8 [0]), .own, false⟩] = some ((.sl 3 0 0 (((0 + 1) + k0) + 1) 1 none), [(⟨(.agg [.nilsl]), .own, false⟩ : Blk), ⟨.junk, .dead, true⟩, ⟨(.nums .u8 [0]), .own, false⟩, ⟨(.nums .u8 ((pz64_X ([] : List Int) k0) ++ [0])), .grow, false⟩], ⟨[], [1], true, false⟩) ∧ x_pad64B  ((pz64_X ([] : List Int) k0) ++ [0]) (((0 + 1) + k0) + 1) = x_pad64B  (pz64_X ([] : List Int) (k0 + 1)) ((0 + 1) + (k0 + 1)))) ∧ (AV.int .i64 (Int.tmod (Int.ofNat ((0 + 1) + (zn64 (0 + 1)))) 64)) = (AV.int .i64 (Int.ofNat (((0 + 1) + (zn64 (0 + 1))) % 64))) ∧ (AV.bool ((Int.ofNat (((0 + 1) + (zn64 (0 + 1))) % 64)) != 56)) = (AV.bool false) ∧ v_pad64B  (pz64_X ([] : List Int) (zn64 (0 + 1))) ((0 + 1) + (zn64 (0 + 1))) 7 = v_pad64B  (pa64 ([] : List Int) 0 0) ((0 + 1 + zn64 (0 + 1)) + 0) (ival 7 0) ∧ (∀ k0, k0 < 8 → ((AV.bool (decide ((ival 7 k0) ≥ 0))) = (AV.bool true) ∧ (AV.bool (decide ((ival 7 k0) < 8))) = (AV.bool true) ∧ (AV.int .i64 (ival 7 k0)) = (AV.int .i64 (Int.ofNat (7 - k0))) ∧ (AV.int .i64 (IntKind.i64.wrap ((8 : Int) * (Int.ofNat (7 - k0))))) = (AV.int .i64 (Int.ofNat (8 * (7 - k0)))) ∧ (AV.int .u8 (IntKind.u8.wrap (Int.fdiv (0 : Int) (2 ^ (Nat.min (8 * (7 - k0)) 64))))) = (AV.int .u8 (lenb (0 * 8) (8 * (7 - k0)))) ∧ (AV.int .u8 (lenb (0 * 8) (8 * (7 - k0)))) = (AV.int .u8 (pb64 0 k0)) ∧ psem (forget (cH9 Try.prog)) (.append 1 1) [(.sl 1 0 0 ((0 + 1 + zn64 (0 + 1)) + k0) 1 none), (.sl 2 0 0 1 1 none)] [(⟨(.agg [.nilsl]), .own, false⟩ : Blk), ⟨(.nums .u8 (pa64 ([] : List Int) 0 k0)), .grow, false⟩, ⟨(.nums .u8 [(pb64 0 k0)]), .own, false⟩] = some ((.sl 3 0 0 (((0 + 1 + zn64 (0 + 1)) + k0) + 1) 1 none), [(⟨(.agg [.nilsl]), .own, false⟩ : Blk), ⟨.junk, .dead, true⟩, ⟨(.nums .u8 [(pb64 0 k0)]), .own, false⟩, ⟨(.nums .u8 (pa64 ([] : List Int) 0 (k0 + 1))), .grow, false⟩], ⟨[], [1], true, false⟩) ∧ (AV.int .i64 (IntKind.i64.wrap ((ival 7 k0) - (1 : Int)))) = (AV.int .i64 (ival 7 (k0 + 1))) ∧ v_pad64B  (pa64 ([] : List Int) 0 (k0 + 1)) (((0 + 1 + zn64 (0 + 1)) + k0) + 1) (ival 7 (k0 + 1)) = v_pad64B  (pa64 ([] : List Int) 0 (k0 + 1)) ((0 + 1 + zn64 (0 + 1)) + (k0 + 1)) (ival 7 (k0 + 1)))) ∧ (AV.bool (decide ((ival 7 8) ≥ 0))) = (AV.bool false) ∧ (AV.sl 1 0 0 ((0 + 1 + zn64 (0 + 1)) + 8) 1 none) = (AV.sl 1 0 0 (0 + 1 + zn64 (0 + 1) + 8) 1 none) ∧ ((AV.sl 1 0 0 (0 + 1 + zn64 (0 + 1) + 8) 1 none) = (AV.sl 1 0 0 (0 + 1 + zn64 (0 + 1) + 8) 1 none) ∧ ([(⟨(.agg [.nilsl]), .own, false⟩ : Blk), ⟨(.nums .u8 (pa64 ([] : List Int) 0 8)), .grow, false⟩] : Mem) = [(⟨(.agg [.nilsl]), .own, false⟩ : Blk), ⟨(.nums .u8 (pad64 ([] : List Int) 0)), .grow, false⟩])) else False) := by kernel_rfl
set_option maxHeartbeats 4000000 in
set_option maxRecDepth 100000 in
theorem pad64B_ok  : ∃ D H N, specW Try.prog D (cH9 Try.prog) H N 47 [(.sl 0 0 0 1 1 none), (.int .i64 64), (.int .i64 8)] [(⟨(.agg [.nilsl]), .own, false⟩ : Blk)] fun v M => v = (.sl 1 0 0 (0 + 1 + zn64 (0 + 1) + 8) 1 none) ∧ M = [(⟨(.agg [.nilsl]), .own, false⟩ : Blk), ⟨(.nums .u8 (pad64 ([] : List Int) 0)), .grow, false⟩] := by
  exact ⟨d_pad64A, _, 1000, Eq.mpr (run_pad64B) (bifT (blt_ok (Nat.lt_trans (zn64_64 _) (by decide))) ⟨rfl, fun k0 hk0 => ⟨rfl, (aB (i_ne (b := 56) (zn64_lt hk0))), (app_grow (n := 1) rfl (by simp only [List.length_append, List.length_cons, List.length_nil, pz64_len, pa64_len (B := []) (n := 0) rfl]; try omega) rfl (src_nums (off := 0) (n := 1) (l := [0]) rfl (Nat.le_refl 1)) (rm2 (by have := zn64_64 (0 + 1); omega))), rfl⟩, rfl, (aB (i_nen (b := 56) (zn64_end _))), rfl, fun k0 hk0 => ⟨(aB (ival_ge (by omega))), (aB (ival_lt (by omega))), (aI (ival_eq (by omega))), (aI (i_mul (a := 8) (b := (7 - k0)) (by omega))), (aI (lenb_min (n := 0 * 8) (by omega))), (aI (pb64_hi (by omega)).symm), (app_pa64 k0 rfl (by simp only [List.length_append, List.length_cons, List.length_nil, pz64_len, pa64_len (B := []) (n := 0) rfl]; try omega) rfl (src_nums (off := 0) (n := 1) (l := [(pb64 0 k0)]) rfl (Nat.le_refl 1)) rfl (rm2 (by have := zn64_64 (0 + 1); omega))), (aI (ival_s (by decide) (by omega))), rfl⟩, (aB (ival_gen (by decide))), rfl, ⟨rfl, rfl⟩⟩)⟩
def x_pad64r0 (off bs o : Nat) (lm : Option Nat) (B : List Int) (X : List Int) (ln : Nat) : St := ⟨(.junk :: ((.int .i64 64) :: ((.int .i64 8) :: (jk 4 ((.sl 2 0 0 ln 1 none) :: ((.int .u64 0) :: (jk 40 []))))))), [⟨(.agg [(.sl 1 off bs 0 1 lm)]), .own, false⟩, ⟨(.at o (.nums .u8 B)), .ro, false⟩, ⟨(.nums .u8 X), .grow, false⟩]⟩
def v_pad64r0 (off bs o : Nat) (lm : Option Nat) (B : List Int) (X : List Int) (ln : Nat) (i : Int) : St := ⟨(jk 7 ((.sl 2 0 0 ln 1 none) :: ((.int .u64 0) :: ((.int .i64 i) :: (jk 39 []))))), [⟨(.agg [(.sl 1 off bs 0 1 lm)]), .own, false⟩, ⟨(.at o (.nums .u8 B)), .ro, false⟩, ⟨(.nums .u8 X), .grow, false⟩]⟩
def h_pad64r0 (off bs o : Nat) (lm : Option Nat) (B : List Int) : Hints := ⟨fun it t => match t with
  | 23 => (match (bif eqIt [none] it then some (.val (.int .i64 (Int.ofNat (((0 + 1) + (zn64 (0 + 1))) % 64)))) else none : Option VH), it with | some v, _ => some v | none, [some k0] => some (.val (.int .i64 (Int.ofNat (((0 + 1) + k0) % 64)))) | _, _ => none)
  | 27 => (match (bif eqIt [none] it then some (.val (.bool false)) else none : Option VH), it with | some v, _ => some v | none, [some k0] => some (.val (.bool true)) | _, _ => none)
  | 30 => (match it with | [some k0] => some (.op (.sl 4 0 0 (((0 + 1) + k0) + 1) 1 none) [(⟨(.agg [(.sl 1 off bs 0 1 lm)]), .own, false⟩ : Blk), ⟨(.at o (.nums .u8 B)), .ro, false⟩, ⟨.junk, .dead, true⟩, ⟨(.nums .u8 [0]), .own, false⟩, ⟨(.nums .u8 ((pz64_X ([] : List Int) k0) ++ [0])), .grow, false⟩] ⟨[], [2], true, false⟩) | _ => none)
  | 34 => (match (bif eqIt [none] it then some (.val (.bool false)) else none : Option VH), it with | some v, _ => some v | none, [some k0] => some (.val (.bool true)) | _, _ => none)
  | 38 => (match it with | [some k0] => some (.val (.bool true)) | _ => none)
  | 40 => (match it with | [some k0] => some (.val (.int .i64 (Int.ofNat (7 - k0)))) | _ => none)
  | 41 => (match it with | [some k0] => some (.val (.int .i64 (Int.ofNat (8 * (7 - k0))))) | _ => none)
  | 43 => (match it with | [some k0] => some (.val (.int .u8 (lenb (0 * 8) (8 * (7 - k0))))) | _ => none)
  | 45 => (match it with | [some k0] => some (.val (.int .u8 (pb64 0 k0))) | _ => none)
  | 47 => (match it with | [some k0] => some (.op (.sl 4 0 0 (((0 + 1 + zn64 (0 + 1)) + k0) + 1) 1 none) [(⟨(.agg [(.sl 1 off bs 0 1 lm)]), .own, false⟩ : Blk), ⟨(.at o (.nums .u8 B)), .ro, false⟩, ⟨.junk, .dead, true⟩, ⟨(.nums .u8 [(pb64 0 k0)]), .own, false⟩, ⟨(.nums .u8 (pa64 ([] : List Int) 0 (k0 + 1))), .grow, false⟩] ⟨[], [2], true, false⟩) | _ => none)
  | 36 => (match it with | [some k0] => some (.val (.int .i64 (ival 7 (k0 + 1)))) | _ => none)
  | 48 => bif eqIt [] it then some (.val (.sl 2 0 0 (0 + 1 + zn64 (0 + 1) + 8) 1 none)) else none
  | _ => none, fun it id => match id, it with
  | 0, [] => some ⟨(zn64 (0 + 1)), true, false, fun kk => x_pad64r0 off bs o lm B (pz64_X ([] : List Int) kk) ((0 + 1) + kk)⟩
  | 1, [] => some ⟨8, true, false, fun kk => v_pad64r0 off bs o lm B (pa64 ([] : List Int) 0 kk) ((0 + 1 + zn64 (0 + 1)) + kk) (ival 7 kk)⟩
  | _, _ => none⟩
set_option maxHeartbeats 4000000 in
set_option maxRecDepth 100000 in
theorem run_pad64r0 (off bs o : Nat) (lm : Option Nat) (B : List Int) : specW Try.prog d_pad64A (cH9 Try.prog) (h_pad64r0 off bs o lm B) 1000 47 [(.sl 0 0 0 1 1 none), (.int .i64 64), (.int .i64 8)] [(⟨(.agg [(.sl 1 off bs 0 1 lm)]), .own, false⟩ : Blk), ⟨(.at o (.nums .u8 B)), .ro, false⟩] (fun v M => v = (.sl 2 0 0 (0 + 1 + zn64 (0 + 1) + 8) 1 none) ∧ M = [(⟨(.agg [(.sl 1 off bs 0 1 lm)]), .own, false⟩ : Blk), ⟨(.at o (.nums .u8 B)), .ro, false⟩, ⟨(.nums .u8 (pad64 ([] : List Int) 0)), .grow, false⟩]) =
  ((o ≤ off ∧ off - o ≤ B.length) ∧ (bif Nat.blt (zn64 (0 + 1)) 1000 then (x_pad64r0 off bs o lm B [128] 1 = x_pad64r0 off bs o lm B (pz64_X ([] : List Int) 0) ((0 + 1) + 0) ∧ (∀ k0, k0 < (zn64 (0 + 1)) → ((AV.int .i64 (Int.tmod (Int.ofNat ((0 + 1) + k0)) 64)) = (AV.int .i64 (Int.ofNat (((0 + 1) + k0) % 64))) ∧ (AV.bool ((Int.ofNat (((0 + 1) + k0) % 64)) != 56)) = (AV.bool true) ∧ psem (forget (cH9 Try.prog)) (.append 1 1) [(.sl 2 0 0 ((0 + 1) + k0) 1 none), (.sl 3 0 0 1 1 none)] [(⟨(.agg [(.sl 1 off bs 0 1 lm)]), .own, false⟩ : Blk), ⟨(.at o (.nums .u8 B)), .ro, false⟩, ⟨(.nums .u8 (pz64_X ([] : List Int) k0)), .grow, false⟩, ⟨(.nums .u8 [0]), .own, false⟩] = some ((.sl 4 0 0 (((0 + 1) + k0) + 1) 1 none), [(⟨(.agg [(.sl 1 off bs 0 1 lm)]), .own, false⟩ : Blk), ⟨(.at o (.nums .u8 B)), .ro, false⟩, ⟨.junk, .dead, true⟩, ⟨(.nums .u8 [0]), .own, false⟩, ⟨(.nums .u8 ((pz64_X ([] : List Int) k0) ++ [0])), .grow, false⟩], ⟨[], [2], true, false⟩) ∧ x_pad64r0 off bs o lm B ((pz64_X ([] : List Int) k0) ++ [0]) (((0 + 1) + k0) + 1) = x_pad64r0 off bs o lm B (pz64_X ([] : List Int) (k0 + 1)) ((0 + 1) + (k0 + 1)))) ∧ (AV.int .i64 (Int.tmod (Int.ofNat ((0 + 1) + (zn64 (0 + 1)))) 64)) = (AV.int .i64 (Int.ofNat (((0 + 1) + (zn64 (0 + 1))) % 64))) ∧ (AV.bool ((Int.ofNat (((0 + 1) + (zn64 (0 + 1))) % 64)) != 56)) = (AV.bool false) ∧ v_pad64r0 off bs o lm B (pz64_X ([] : List Int) (zn64 (0 + 1))) ((0 + 1) + (zn64 (0 + 1))) 7 = v_pad64r0 off bs o lm B (pa64 ([] : List Int) 0 0) ((0 + 1 + zn64 (0 + 1)) + 0) (ival 7 0) ∧ (∀ k0, k0 < 8 → ((AV.bool (decide ((ival 7 k0) ≥ 0))) = (AV.bool true) ∧ (AV.bool (decide ((ival 7 k0) < 8))) = (AV.bool true) ∧ (AV.int .i64 (ival 7 k0)) = (AV.int .i64 (Int.ofNat (7 - k0))) ∧ (AV.int .i64 (IntKind.i64.wrap ((8 : Int) * (Int.ofNat (7 - k0))))) = (AV.int .i64 (Int.ofNat (8 * (7 - k0)))) ∧ (AV.int .u8 (IntKind.u8.wrap (Int.fdiv (0 : Int) (2 ^ (Nat.min (8 * (7 - k0)) 64))))) = (AV.int .u8 (lenb (0 * 8) (8 * (7 - k0)))) ∧ (AV.int .u8 (lenb (0 * 8) (8 * (7 - k0)))) = (AV.int .u8 (pb64 0 k0)) ∧ psem (forget (cH9 Try.prog)) (.append 1 1) [(.sl 2 0 0 ((0 + 1 + zn64 (0 + 1)) + k0) 1 none), (.sl 3 0 0 1 1 none)] [(⟨(.agg [(.sl 1 off bs 0 1 lm)]), .own, false⟩ : Blk), ⟨(.at o (.nums .u8 B)), .ro, false⟩, ⟨(.nums .u8 (pa64 ([] : List Int) 0 k0)), .grow, false⟩, ⟨(.nums .u8 [(pb64 0 k0)]), .own, false⟩] = some ((.sl 4 0 0 (((0 + 1 + zn64 (0 + 1)) + k0) + 1) 1 none), [(⟨(.agg [(.sl 1 off bs 0 1 lm)]), .own, false⟩ : Blk), ⟨(.at o (.nums .u8 B)), .ro, false⟩, ⟨.junk, .dead, true⟩, ⟨(.nums .u8 [(pb64 0 k0)]), .own, false⟩, ⟨(.nums .u8 (pa64 ([] : List Int) 0 (k0 + 1))), .grow, false⟩], ⟨[], [2], true, false⟩) ∧ (AV.int .i64 (IntKind.i64.wrap ((ival 7 k0) - (1 : Int)))) = (AV.int .i64 (ival 7 (k0 + 1))) ∧ v_pad64r0 off bs o lm B (pa64 ([] : List Int) 0 (k0 + 1)) (((0 + 1 + zn64 (0 + 1)) + k0) + 1) (ival 7 (k0 + 1)) = v_pad64r0 off bs o lm B (pa64 ([] : List Int) 0 (k0 + 1)) ((0 + 1 + zn64 (0 + 1)) + (k0 + 1)) (ival 7 (k0 + 1)))) ∧ (AV.bool (decide ((ival 7 8) ≥ 0))) = (AV.bool false) ∧ (AV.sl 2 0 0 ((0 + 1 + zn64 (0 + 1)) + 8) 1 none) = (AV.sl 2 0 0 (0 + 1 + zn64 (0 + 1) + 8) 1 none) ∧ ((AV.sl 2 0 0 (0 + 1 + zn64 (0 + 1) + 8) 1 none) = (AV.sl 2 0 0 (0 + 1 + zn64 (0 + 1) + 8) 1 none) ∧ ([(⟨(.agg [(.sl 1 off bs 0 1 lm)]), .own, false⟩ : Blk), ⟨(.at o (.nums .u8 B)), .ro, false⟩, ⟨(.nums .u8 (pa64 ([] : List Int) 0 8)), .grow, false⟩] : Mem) = [(⟨(.agg [(.sl 1 off bs 0 1 lm)]), .own, false⟩ : Blk), ⟨(.at o (.nums .u8 B)), .ro, false⟩, ⟨(.nums .u8 (pad64 ([] : List Int) 0)), .grow, false⟩])) else False)) := by kernel_rfl
set_option maxHeartbeats 4000000 in
set_option maxRecDepth 100000 in
theorem pad64r0_ok {off bs o : Nat} {lm : Option Nat} {B : List Int} (hyp : o ≤ off ∧ off - o ≤ B.length) : ∃ D H N, specW Try.prog D (cH9 Try.prog) H N 47 [(.sl 0 0 0 1 1 none), (.int .i64 64), (.int .i64 8)] [(⟨(.agg [(.sl 1 off bs 0 1 lm)]), .own, false⟩ : Blk), ⟨(.at o (.nums .u8 B)), .ro, false⟩] fun v M => v = (.sl 2 0 0 (0 + 1 + zn64 (0 + 1) + 8) 1 none) ∧ M = [(⟨(.agg [(.sl 1 off bs 0 1 lm)]), .own, false⟩ : Blk), ⟨(.at o (.nums .u8 B)), .ro, false⟩, ⟨(.nums .u8 (pad64 ([] : List Int) 0)), .grow, false⟩] := by
  exact ⟨d_pad64A, _, 1000, Eq.mpr (run_pad64r0 off bs o lm B) ⟨⟨hyp.1, hyp.2⟩, (bifT (blt_ok (Nat.lt_trans (zn64_64 _) (by decide))) ⟨rfl, fun k0 hk0 => ⟨rfl, (aB (i_ne (b := 56) (zn64_lt hk0))), (app_grow (n := 1) rfl (by simp only [List.length_append, List.length_cons, List.length_nil, pz64_len, pa64_len (B := []) (n := 0) rfl]; try omega) rfl (src_nums (off := 0) (n := 1) (l := [0]) rfl (Nat.le_refl 1)) (rm2 (by have := zn64_64 (0 + 1); omega))), rfl⟩, rfl, (aB (i_nen (b := 56) (zn64_end _))), rfl, fun k0 hk0 => ⟨(aB (ival_ge (by omega))), (aB (ival_lt (by omega))), (aI (ival_eq (by omega))), (aI (i_mul (a := 8) (b := (7 - k0)) (by omega))), (aI (lenb_min (n := 0 * 8) (by omega))), (aI (pb64_hi (by omega)).symm), (app_pa64 k0 rfl (by simp only [List.length_append, List.length_cons, List.length_nil, pz64_len, pa64_len (B := []) (n := 0) rfl]; try omega) rfl (src_nums (off := 0) (n := 1) (l := [(pb64 0 k0)]) rfl (Nat.le_refl 1)) rfl (rm2 (by have := zn64_64 (0 + 1); omega))), (aI (ival_s (by decide) (by omega))), rfl⟩, (aB (ival_gen (by decide))), rfl, ⟨rfl, rfl⟩⟩)⟩⟩
def x_pad64r1 (off bs n o : Nat) (lm : Option Nat) (B : List Int) (X : List Int) (ln : Nat) : St := ⟨(.junk :: ((.int .i64 64) :: ((.int .i64 8) :: (jk 4 ((.sl 2 0 0 ln 1 none) :: ((.int .u64 (Int.ofNat ((n + 1) * 8))) :: (jk 40 []))))))), [⟨(.agg [(.sl 1 off bs (n + 1) 1 lm)]), .own, false⟩, ⟨(.at o (.nums .u8 B)), .ro, false⟩, ⟨(.nums .u8 X), .grow, false⟩]⟩
def v_pad64r1 (off bs n o : Nat) (lm : Option Nat) (B : List Int) (X : List Int) (ln : Nat) (i : Int) : St := ⟨(jk 7 ((.sl 2 0 0 ln 1 none) :: ((.int .u64 (Int.ofNat ((n + 1) * 8))) :: ((.int .i64 i) :: (jk 39 []))))), [⟨(.agg [(.sl 1 off bs (n + 1) 1 lm)]), .own, false⟩, ⟨(.at o (.nums .u8 B)), .ro, false⟩, ⟨(.nums .u8 X), .grow, false⟩]⟩
def h_pad64r1 (off bs n o : Nat) (lm : Option Nat) (B : List Int) : Hints := ⟨fun it t => match t with
  | 15 => bif eqIt [] it then some (.val (.int .u64 (Int.ofNat (n + 1)))) else none
  | 16 => bif eqIt [] it then some (.val (.int .u64 (Int.ofNat ((n + 1) * 8)))) else none
  | 19 => bif eqIt [] it then some (.op (.sl 4 0 0 ((n + 1) + 1) 1 none) [(⟨(.agg [(.sl 1 off bs (n + 1) 1 lm)]), .own, false⟩ : Blk), ⟨(.at o (.nums .u8 B)), .ro, false⟩, ⟨.junk, .dead, true⟩, ⟨(.nums .u8 [128]), .own, false⟩, ⟨(.nums .u8 ((seg B (off - o) (n + 1)) ++ [128])), .grow, false⟩] ⟨[], [2], true, false⟩) else none
  | 23 => (match (bif eqIt [none] it then some (.val (.int .i64 (Int.ofNat ((((n + 1) + 1) + (zn64 ((n + 1) + 1))) % 64)))) else none : Option VH), it with | some v, _ => some v | none, [some k0] => some (.val (.int .i64 (Int.ofNat ((((n + 1) + 1) + k0) % 64)))) | _, _ => none)
  | 27 => (match (bif eqIt [none] it then some (.val (.bool false)) else none : Option VH), it with | some v, _ => some v | none, [some k0] => some (.val (.bool true)) | _, _ => none)
  | 30 => (match it with | [some k0] => some (.op (.sl 4 0 0 ((((n + 1) + 1) + k0) + 1) 1 none) [(⟨(.agg [(.sl 1 off bs (n + 1) 1 lm)]), .own, false⟩ : Blk), ⟨(.at o (.nums .u8 B)), .ro, false⟩, ⟨.junk, .dead, true⟩, ⟨(.nums .u8 [0]), .own, false⟩, ⟨(.nums .u8 ((pz64_X (seg B (off - o) (n + 1)) k0) ++ [0])), .grow, false⟩] ⟨[], [2], true, false⟩) | _ => none)
  | 34 => (match (bif eqIt [none] it then some (.val (.bool false)) else none : Option VH), it with | some v, _ => some v | none, [some k0] => some (.val (.bool true)) | _, _ => none)
  | 38 => (match it with | [some k0] => some (.val (.bool true)) | _ => none)
  | 40 => (match it with | [some k0] => some (.val (.int .i64 (Int.ofNat (7 - k0)))) | _ => none)
  | 41 => (match it with | [some k0] => some (.val (.int .i64 (Int.ofNat (8 * (7 - k0))))) | _ => none)
  | 43 => (match it with | [some k0] => some (.val (.int .u8 (lenb ((n + 1) * 8) (8 * (7 - k0))))) | _ => none)
  | 45 => (match it with | [some k0] => some (.val (.int .u8 (pb64 (n + 1) k0))) | _ => none)
  | 47 => (match it with | [some k0] => some (.op (.sl 4 0 0 ((((n + 1) + 1 + zn64 ((n + 1) + 1)) + k0) + 1) 1 none) [(⟨(.agg [(.sl 1 off bs (n + 1) 1 lm)]), .own, false⟩ : Blk), ⟨(.at o (.nums .u8 B)), .ro, false⟩, ⟨.junk, .dead, true⟩, ⟨(.nums .u8 [(pb64 (n + 1) k0)]), .own, false⟩, ⟨(.nums .u8 (pa64 (seg B (off - o) (n + 1)) (n + 1) (k0 + 1))), .grow, false⟩] ⟨[], [2], true, false⟩) | _ => none)
  | 36 => (match it with | [some k0] => some (.val (.int .i64 (ival 7 (k0 + 1)))) | _ => none)
  | 48 => bif eqIt [] it then some (.val (.sl 2 0 0 ((n + 1) + 1 + zn64 ((n + 1) + 1) + 8) 1 none)) else none
  | _ => none, fun it id => match id, it with
  | 0, [] => some ⟨(zn64 ((n + 1) + 1)), true, false, fun kk => x_pad64r1 off bs n o lm B (pz64_X (seg B (off - o) (n + 1)) kk) (((n + 1) + 1) + kk)⟩
  | 1, [] => some ⟨8, true, false, fun kk => v_pad64r1 off bs n o lm B (pa64 (seg B (off - o) (n + 1)) (n + 1) kk) (((n + 1) + 1 + zn64 ((n + 1) + 1)) + kk) (ival 7 kk)⟩
  | _, _ => none⟩
set_option maxHeartbeats 4000000 in
set_option maxRecDepth 100000 in
theorem run_pad64r1 (off bs n o : Nat) (lm : Option Nat) (B : List Int) : specW Try.prog d_pad64A (cH9 Try.prog) (h_pad64r1 off bs n o lm B) 1000 47 [(.sl 0 0 0 1 1 none), (.int .i64 64), (.int .i64 8)] [(⟨(.agg [(.sl 1 off bs (n + 1) 1 lm)]), .own, false⟩ : Blk), ⟨(.at o (.nums .u8 B)), .ro, false⟩] (fun v M => v = (.sl 2 0 0 ((n + 1) + 1 + zn64 ((n + 1) + 1) + 8) 1 none) ∧ M = [(⟨(.agg [(.sl 1 off bs (n + 1) 1 lm)]), .own, false⟩ : Blk), ⟨(.at o (.nums .u8 B)), .ro, false⟩, ⟨(.nums .u8 (pad64 (seg B (off - o) (n + 1)) (n + 1))), .grow, false⟩]) =
  ((o ≤ off ∧ off - o + (n + 1) ≤ B.length ∧ n < 1000000) ∧ (AV.int .u64 (IntKind.u64.wrap (Int.ofNat (n + 1)))) = (AV.int .u64 (Int.ofNat (n + 1))) ∧ (AV.int .u64 (IntKind.u64.wrap ((Int.ofNat (n + 1)) * (8 : Int)))) = (AV.int .u64 (Int.ofNat ((n + 1) * 8))) ∧ psem (forget (cH9 Try.prog)) (.append 1 1) [(.sl 2 0 0 (n + 1) 1 none), (.sl 3 0 0 1 1 none)] [(⟨(.agg [(.sl 1 off bs (n + 1) 1 lm)]), .own, false⟩ : Blk), ⟨(.at o (.nums .u8 B)), .ro, false⟩, ⟨(.nums .u8 (seg B (off - o) (n + 1))), .grow, false⟩, ⟨(.nums .u8 [128]), .own, false⟩] = some ((.sl 4 0 0 ((n + 1) + 1) 1 none), [(⟨(.agg [(.sl 1 off bs (n + 1) 1 lm)]), .own, false⟩ : Blk), ⟨(.at o (.nums .u8 B)), .ro, false⟩, ⟨.junk, .dead, true⟩, ⟨(.nums .u8 [128]), .own, false⟩, ⟨(.nums .u8 ((seg B (off - o) (n + 1)) ++ [128])), .grow, false⟩], ⟨[], [2], true, false⟩) ∧ (bif Nat.blt (zn64 ((n + 1) + 1)) 1000 then (x_pad64r1 off bs n o lm B ((seg B (off - o) (n + 1)) ++ [128]) ((n + 1) + 1) = x_pad64r1 off bs n o lm B (pz64_X (seg B (off - o) (n + 1)) 0) (((n + 1) + 1) + 0) ∧ (∀ k0, k0 < (zn64 ((n + 1) + 1)) → ((AV.int .i64 (Int.tmod (Int.ofNat (((n + 1) + 1) + k0)) 64)) = (AV.int .i64 (Int.ofNat ((((n + 1) + 1) + k0) % 64))) ∧ (AV.bool ((Int.ofNat ((((n + 1) + 1) + k0) % 64)) != 56)) = (AV.bool true) ∧ psem (forget (cH9 Try.prog)) (.append 1 1) [(.sl 2 0 0 (((n + 1) + 1) + k0) 1 none), (.sl 3 0 0 1 1 none)] [(⟨(.agg [(.sl 1 off bs (n + 1) 1 lm)]), .own, false⟩ : Blk), ⟨(.at o (.nums .u8 B)), .ro, false⟩, ⟨(.nums .u8 (pz64_X (seg B (off - o) (n + 1)) k0)), .grow, false⟩, ⟨(.nums .u8 [0]), .own, false⟩] = some ((.sl 4 0 0 ((((n + 1) + 1) + k0) + 1) 1 none), [(⟨(.agg [(.sl 1 off bs (n + 1) 1 lm)]), .own, false⟩ : Blk), ⟨(.at o (.nums .u8 B)), .ro, false⟩, ⟨.junk, .dead, true⟩, ⟨(.nums .u8 [0]), .own, false⟩, ⟨(.nums .u8 ((pz64_X (seg B (off - o) (n + 1)) k0) ++ [0])), .grow, false⟩], ⟨[], [2], true, false⟩) ∧ x_pad64r1 off bs n o lm B ((pz64_X (seg B (off - o) (n + 1)) k0) ++ [0]) ((((n + 1) + 1) + k0) + 1) = x_pad64r1 off bs n o lm B (pz64_X (seg B (off - o) (n + 1)) (k0 + 1)) (((n + 1) + 1) + (k0 + 1)))) ∧ (AV.int .i64 (Int.tmod (Int.ofNat (((n + 1) + 1) + (zn64 ((n + 1) + 1)))) 64)) = (AV.int .i64 (Int.ofNat ((((n + 1) + 1) + (zn64 ((n + 1) + 1))) % 64))) ∧ (AV.bool ((Int.ofNat ((((n + 1) + 1) + (zn64 ((n + 1) + 1))) % 64)) != 56)) = (AV.bool false) ∧ v_pad64r1 off bs n o lm B (pz64_X (seg B (off - o) (n + 1)) (zn64 ((n + 1) + 1))) (((n + 1) + 1) + (zn64 ((n + 1) + 1))) 7 = v_pad64r1 off bs n o lm B (pa64 (seg B (off - o) (n + 1)) (n + 1) 0) (((n + 1) + 1 + zn64 ((n + 1) + 1)) + 0) (ival 7 0) ∧ (∀ k0, k0 < 8 → ((AV.bool (decide ((ival 7 k0) ≥ 0))) = (AV.bool true) ∧ (AV.bool (decide ((ival 7 k0) < 8))) = (AV.bool true) ∧ (AV.int .i64 (ival 7 k0)) = (AV.int .i64 (Int.ofNat (7 - k0))) ∧ (AV.int .i64 (IntKind.i64.wrap ((8 : Int) * (Int.ofNat (7 - k0))))) = (AV.int .i64 (Int.ofNat (8 * (7 - k0)))) ∧ (AV.int .u8 (IntKind.u8.wrap (Int.fdiv (Int.ofNat ((n + 1) * 8)) (2 ^ (Nat.min (8 * (7 - k0)) 64))))) = (AV.int .u8 (lenb ((n + 1) * 8) (8 * (7 - k0)))) ∧ (AV.int .u8 (lenb ((n + 1) * 8) (8 * (7 - k0)))) = (AV.int .u8 (pb64 (n + 1) k0)) ∧ psem (forget (cH9 Try.prog)) (.append 1 1) [(.sl 2 0 0 (((n + 1) + 1 + zn64 ((n + 1) + 1)) + k0) 1 none), (.sl 3 0 0 1 1 none)] [(⟨(.agg [(.sl 1 off bs (n + 1) 1 lm)]), .own, false⟩ : Blk), ⟨(.at o (.nums .u8 B)), .ro, false⟩, ⟨(.nums .u8 (pa64 (seg B (off - o) (n + 1)) (n + 1) k0)), .grow, false⟩, ⟨(.nums .u8 [(pb64 (n + 1) k0)]), .own, false⟩] = some ((.sl 4 0 0 ((((n + 1) + 1 + zn64 ((n + 1) + 1)) + k0) + 1) 1 none), [(⟨(.agg [(.sl 1 off bs (n + 1) 1 lm)]), .own, false⟩ : Blk), ⟨(.at o (.nums .u8 B)), .ro, false⟩, ⟨.junk, .dead, true⟩, ⟨(.nums .u8 [(pb64 (n + 1) k0)]), .own, false⟩, ⟨(.nums .u8 (pa64 (seg B (off - o) (n + 1)) (n + 1) (k0 + 1))), .grow, false⟩], ⟨[], [2], true, false⟩) ∧ (AV.int .i64 (IntKind.i64.wrap ((ival 7 k0) - (1 : Int)))) = (AV.int .i64 (ival 7 (k0 + 1))) ∧ v_pad64r1 off bs n o lm B (pa64 (seg B (off - o) (n + 1)) (n + 1) (k0 + 1)) ((((n + 1) + 1 + zn64 ((n + 1) + 1)) + k0) + 1) (ival 7 (k0 + 1)) = v_pad64r1 off bs n o lm B (pa64 (seg B (off - o) (n + 1)) (n + 1) (k0 + 1)) (((n + 1) + 1 + zn64 ((n + 1) + 1)) + (k0 + 1)) (ival 7 (k0 + 1)))) ∧ (AV.bool (decide ((ival 7 8) ≥ 0))) = (AV.bool false) ∧ (AV.sl 2 0 0 (((n + 1) + 1 + zn64 ((n + 1) + 1)) + 8) 1 none) = (AV.sl 2 0 0 ((n + 1) + 1 + zn64 ((n + 1) + 1) + 8) 1 none) ∧ ((AV.sl 2 0 0 ((n + 1) + 1 + zn64 ((n + 1) + 1) + 8) 1 none) = (AV.sl 2 0 0 ((n + 1) + 1 + zn64 ((n + 1) + 1) + 8) 1 none) ∧ ([(⟨(.agg [(.sl 1 off bs (n + 1) 1 lm)]), .own, false⟩ : Blk), ⟨(.at o (.nums .u8 B)), .ro, false⟩, ⟨(.nums .u8 (pa64 (seg B (off - o) (n + 1)) (n + 1) 8)), .grow, false⟩] : Mem) = [(⟨(.agg [(.sl 1 off bs (n + 1) 1 lm)]), .own, false⟩ : Blk), ⟨(.at o (.nums .u8 B)), .ro, false⟩, ⟨(.nums .u8 (pad64 (seg B (off - o) (n + 1)) (n + 1))), .grow, false⟩])) else False)) := by kernel_rfl
set_option maxHeartbeats 4000000 in
set_option maxRecDepth 100000 in
theorem pad64r1_ok {off bs n o : Nat} {lm : Option Nat} {B : List Int} (hyp : o ≤ off ∧ off - o + (n + 1) ≤ B.length ∧ n < 1000000) : ∃ D H N, specW Try.prog D (cH9 Try.prog) H N 47 [(.sl 0 0 0 1 1 none), (.int .i64 64), (.int .i64 8)] [(⟨(.agg [(.sl 1 off bs (n + 1) 1 lm)]), .own, false⟩ : Blk), ⟨(.at o (.nums .u8 B)), .ro, false⟩] fun v M => v = (.sl 2 0 0 ((n + 1) + 1 + zn64 ((n + 1) + 1) + 8) 1 none) ∧ M = [(⟨(.agg [(.sl 1 off bs (n + 1) 1 lm)]), .own, false⟩ : Blk), ⟨(.at o (.nums .u8 B)), .ro, false⟩, ⟨(.nums .u8 (pad64 (seg B (off - o) (n + 1)) (n + 1))), .grow, false⟩] := by
  have hlen : (seg B (off - o) (n + 1)).length = n + 1 := seg_len (by omega)
  have hn : n < 1000000 := hyp.2.2
  exact ⟨d_pad64A, _, 1000, Eq.mpr (run_pad64r1 off bs n o lm B) ⟨⟨hyp.1, hyp.2.1, hyp.2.2⟩, (aI (u_cv (by omega))), (aI (u_mul (a := (n + 1)) (b := 8) (by omega))), (app_grow (n := 1) rfl (by simp only [List.length_append, List.length_cons, List.length_nil, pz64_len, pa64_len hlen, hlen]; try omega) rfl (src_nums (off := 0) (n := 1) (l := [128]) rfl (Nat.le_refl 1)) (rm2 (by have := zn64_64 ((n + 1) + 1); omega))), (bifT (blt_ok (Nat.lt_trans (zn64_64 _) (by decide))) ⟨rfl, fun k0 hk0 => ⟨rfl, (aB (i_ne (b := 56) (zn64_lt hk0))), (app_grow (n := 1) rfl (by simp only [List.length_append, List.length_cons, List.length_nil, pz64_len, pa64_len hlen, hlen]; try omega) rfl (src_nums (off := 0) (n := 1) (l := [0]) rfl (Nat.le_refl 1)) (rm2 (by have := zn64_64 ((n + 1) + 1); omega))), rfl⟩, rfl, (aB (i_nen (b := 56) (zn64_end _))), rfl, fun k0 hk0 => ⟨(aB (ival_ge (by omega))), (aB (ival_lt (by omega))), (aI (ival_eq (by omega))), (aI (i_mul (a := 8) (b := (7 - k0)) (by omega))), (aI (lenb_min (n := (n + 1) * 8) (by omega))), (aI (pb64_hi (by omega)).symm), (app_pa64 k0 rfl (by simp only [List.length_append, List.length_cons, List.length_nil, pz64_len, pa64_len hlen, hlen]; try omega) rfl (src_nums (off := 0) (n := 1) (l := [(pb64 (n + 1) k0)]) rfl (Nat.le_refl 1)) rfl (rm2 (by have := zn64_64 ((n + 1) + 1); omega))), (aI (ival_s (by decide) (by omega))), rfl⟩, (aB (ival_gen (by decide))), rfl, ⟨rfl, rfl⟩⟩)⟩⟩
theorem pad64r_ok {off bs n o : Nat} {lm : Option Nat} {B : List Int} (hyp : o ≤ off ∧ off - o + n ≤ B.length ∧ n < 1000001) : ∃ D H N, specW Try.prog D (cH9 Try.prog) H N 47 [(.sl 0 0 0 1 1 none), .int .i64 64, .int .i64 8] [(⟨(.agg [(.sl 1 off bs n 1 lm)]), .own, false⟩ : Blk), ⟨(.at o (.nums .u8 B)), .ro, false⟩] fun v M => v = (.sl 2 0 0 (n + 1 + zn64 (n + 1) + 8) 1 none) ∧ M = [(⟨(.agg [(.sl 1 off bs n 1 lm)]), .own, false⟩ : Blk), ⟨(.at o (.nums .u8 B)), .ro, false⟩, ⟨(.nums .u8 (pad64 (seg B (off - o) n) n)), .grow, false⟩] := by
  cases n with
  | zero => exact pad64r0_ok ⟨hyp.1, hyp.2.1⟩
  | succ n => exact pad64r1_ok ⟨hyp.1, hyp.2.1, by have := hyp.2.2; omega⟩
def x_pad128A  (X : List Int) (ln : Nat) : St := ⟨(.junk :: ((.int .i64 128) :: ((.int .i64 16) :: (jk 4 ((.sl 0 0 0 ln 1 none) :: ((.int .u64 0) :: (jk 40 []))))))), [⟨(.nums .u8 X), .grow, false⟩]⟩
def v_pad128A  (X : List Int) (ln : Nat) (i : Int) : St := ⟨(jk 7 ((.sl 0 0 0 ln 1 none) :: ((.int .u64 0) :: ((.int .i64 i) :: (jk 39 []))))), [⟨(.nums .u8 X), .grow, false⟩]⟩
def h_pad128A : Hints := ⟨fun it t => match t with
  | 23 => (match (bif eqIt [none] it then some (.val (.int .i64 (Int.ofNat (((0 + 1) + (zn128 (0 + 1))) % 128)))) else none : Option VH), it with | some v, _ => some v | none, [some k0] => some (.val (.int .i64 (Int.ofNat (((0 + 1) + k0) % 128)))) | _, _ => none)
  | 27 => (match (bif eqIt [none] it then some (.val (.bool false)) else none : Option VH), it with | some v, _ => some v | none, [some k0] => some (.val (.bool true)) | _, _ => none)
  | 30 => (match it with | [some k0] => some (.op (.sl 2 0 0 (((0 + 1) + k0) + 1) 1 none) [(⟨.junk, .dead, true⟩ : Blk), ⟨(.nums .u8 [0]), .own, false⟩, ⟨(.nums .u8 ((pz128_X ([] : List Int) k0) ++ [0])), .grow, false⟩] ⟨[], [0], true, false⟩) | _ => none)
  | 34 => (match (bif eqIt [none] it then some (.val (.bool false)) else none : Option VH), it with | some v, _ => some v | none, [some k0] => some (.val (.bool true)) | _, _ => none)
  | 200038 => (match it with | [some k0] => some .ask | _ => none)
  | 40 => (match it with | [some k0] => some (.val (.int .i64 (Int.ofNat (15 - k0)))) | _ => none)
  | 41 => (match it with | [some k0] => some (.val (.int .i64 (Int.ofNat (8 * (15 - k0))))) | _ => none)
  | 43 => (match it with | [some k0] => some (.val (.int .u8 (lenb (0 * 8) (8 * (15 - k0))))) | _ => none)
  | 45 => (match it with | [some k0] => some (.val (.int .u8 (pb128 0 k0))) | _ => none)
  | 47 => (match it with | [some k0] => some (.op (.sl 2 0 0 (((0 + 1 + zn128 (0 + 1)) + k0) + 1) 1 none) [(⟨.junk, .dead, true⟩ : Blk), ⟨(.nums .u8 [(pb128 0 k0)]), .own, false⟩, ⟨(.nums .u8 (pa128 ([] : List Int) 0 (k0 + 1))), .grow, false⟩] ⟨[], [0], true, false⟩) | _ => none)
  | 36 => (match it with | [some k0] => some (.val (.int .i64 (ival 15 (k0 + 1)))) | _ => none)
  | 48 => bif eqIt [] it then some (.val (.sl 0 0 0 (0 + 1 + zn128 (0 + 1) + 16) 1 none)) else none
  | _ => none, fun it id => match id, it with
  | 0, [] => some ⟨(zn128 (0 + 1)), true, false, fun kk => x_pad128A  (pz128_X ([] : List Int) kk) ((0 + 1) + kk)⟩
  | 1, [] => some ⟨16, true, false, fun kk => v_pad128A  (pa128 ([] : List Int) 0 kk) ((0 + 1 + zn128 (0 + 1)) + kk) (ival 15 kk)⟩
  | _, _ => none⟩
set_option maxHeartbeats 4000000 in
set_option maxRecDepth 100000 in
theorem run_pad128A  : specW Try.prog d_pad64A (cH9 Try.prog) (h_pad128A) 1000 47 [.nilsl, (.int .i64 128), (.int .i64 16)] [] (fun v M => v = (.sl 0 0 0 (0 + 1 + zn128 (0 + 1) + 16) 1 none) ∧ M = [(⟨(.nums .u8 (pad128 ([] : List Int) 0)), .grow, false⟩ : Blk)]) =
  (bif Nat.blt (zn128 (0 + 1)) 1000 then (x_pad128A  [128] 1 = x_pad128A  (pz128_X ([] : List Int) 0) ((0 + 1) + 0) ∧ (∀ k0, k0 < (zn128 (0 + 1)) → ((AV.int .i64 (Int.tmod (Int.ofNat ((0 + 1) + k0)) 128)) = (AV.int .i64 (Int.ofNat (((0 + 1) + k0) % 128))) ∧ (AV.bool ((Int.ofNat (((0 + 1) + k0) % 128)) != 112)) = (AV.bool true) ∧ psem (forget (cH9 Try.prog)) (.append 1 1) [(.sl 0 0 0 ((0 + 1) + k0) 1 none), (.sl 1 0 0 1 1 none)] [(⟨(.nums .u8 (pz128_X ([] : List Int) k0)), .grow, false⟩ : Blk), ⟨(.nums .u8 [0]), .own, false⟩] = some ((.sl 2 0 0 (((0 + 1) + k0) + 1) 1 none), [(⟨.junk, .dead, true⟩ : Blk), ⟨(.nums .u8 [0]), .own, false⟩, ⟨(.nums .u8 ((pz128_X ([] : List Int) k0) ++ [0])), .grow, false⟩], ⟨[], [0], true, false⟩) ∧ x_pad128A  ((pz128_X ([] : List Int) k0) ++ [0]) (((0 + 1) + k0) + 1) = x_pad128A  (pz128_X ([] : List Int) (k0 + 1)) ((0 + 1) + (k0 + 1)))) ∧ (AV.int .i64 (Int.tmod (Int.ofNat ((0 + 1) + (zn128 (0 + 1)))) 128)) = (AV.int .i64 (Int.ofNat (((0 + 1) + (zn128 (0 + 1))) % 128))) ∧ (AV.bool ((Int.ofNat (((0 + 1) + (zn128 (0 + 1))) % 128)) != 112)) = (AV.bool false) ∧ v_pad128A  (pz128_X ([] : List Int) (zn128 (0 + 1))) ((0 + 1) + (zn128 (0 + 1))) 15 = v_pad128A  (pa128 ([] : List Int) 0 0) ((0 + 1 + zn128 (0 + 1)) + 0) (ival 15 0) ∧ (∀ k0, k0 < 16 → ((AV.bool (decide ((ival 15 k0) ≥ 0))) = (AV.bool true) ∧ (((decide ((ival 15 k0) < 8)) = true → ((AV.int .i64 (ival 15 k0)) = (AV.int .i64 (Int.ofNat (15 - k0))) ∧ (AV.int .i64 (IntKind.i64.wrap ((8 : Int) * (Int.ofNat (15 - k0))))) = (AV.int .i64 (Int.ofNat (8 * (15 - k0)))) ∧ (AV.int .u8 (IntKind.u8.wrap (Int.fdiv (0 : Int) (2 ^ (Nat.min (8 * (15 - k0)) 64))))) = (AV.int .u8 (lenb (0 * 8) (8 * (15 - k0)))) ∧ (AV.int .u8 (lenb (0 * 8) (8 * (15 - k0)))) = (AV.int .u8 (pb128 0 k0)) ∧ psem (forget (cH9 Try.prog)) (.append 1 1) [(.sl 0 0 0 ((0 + 1 + zn128 (0 + 1)) + k0) 1 none), (.sl 1 0 0 1 1 none)] [(⟨(.nums .u8 (pa128 ([] : List Int) 0 k0)), .grow, false⟩ : Blk), ⟨(.nums .u8 [(pb128 0 k0)]), .own, false⟩] = some ((.sl 2 0 0 (((0 + 1 + zn128 (0 + 1)) + k0) + 1) 1 none), [(⟨.junk, .dead, true⟩ : Blk), ⟨(.nums .u8 [(pb128 0 k0)]), .own, false⟩, ⟨(.nums .u8 (pa128 ([] : List Int) 0 (k0 + 1))), .grow, false⟩], ⟨[], [0], true, false⟩) ∧ (AV.int .i64 (IntKind.i64.wrap ((ival 15 k0) - (1 : Int)))) = (AV.int .i64 (ival 15 (k0 + 1))) ∧ v_pad128A  (pa128 ([] : List Int) 0 (k0 + 1)) (((0 + 1 + zn128 (0 + 1)) + k0) + 1) (ival 15 (k0 + 1)) = v_pad128A  (pa128 ([] : List Int) 0 (k0 + 1)) ((0 + 1 + zn128 (0 + 1)) + (k0 + 1)) (ival 15 (k0 + 1)))) ∧ ((decide ((ival 15 k0) < 8)) = false → ((AV.int .u8 0) = (AV.int .u8 (pb128 0 k0)) ∧ psem (forget (cH9 Try.prog)) (.append 1 1) [(.sl 0 0 0 ((0 + 1 + zn128 (0 + 1)) + k0) 1 none), (.sl 1 0 0 1 1 none)] [(⟨(.nums .u8 (pa128 ([] : List Int) 0 k0)), .grow, false⟩ : Blk), ⟨(.nums .u8 [(pb128 0 k0)]), .own, false⟩] = some ((.sl 2 0 0 (((0 + 1 + zn128 (0 + 1)) + k0) + 1) 1 none), [(⟨.junk, .dead, true⟩ : Blk), ⟨(.nums .u8 [(pb128 0 k0)]), .own, false⟩, ⟨(.nums .u8 (pa128 ([] : List Int) 0 (k0 + 1))), .grow, false⟩], ⟨[], [0], true, false⟩) ∧ (AV.int .i64 (IntKind.i64.wrap ((ival 15 k0) - (1 : Int)))) = (AV.int .i64 (ival 15 (k0 + 1))) ∧ v_pad128A  (pa128 ([] : List Int) 0 (k0 + 1)) (((0 + 1 + zn128 (0 + 1)) + k0) + 1) (ival 15 (k0 + 1)) = v_pad128A  (pa128 ([] : List Int) 0 (k0 + 1)) ((0 + 1 + zn128 (0 + 1)) + (k0 + 1)) (ival 15 (k0 + 1))))))) ∧ (AV.bool (decide ((ival 15 16) ≥ 0))) = (AV.bool false) ∧ (AV.sl 0 0 0 ((0 + 1 + zn128 (0 + 1)) + 16) 1 none) = (AV.sl 0 0 0 (0 + 1 + zn128 (0 + 1) + 16) 1 none) ∧ ((AV.sl 0 0 0 (0 + 1 + zn128 (0 + 1) + 16) 1 none) = (AV.sl 0 0 0 (0 + 1 + zn128 (0 + 1) + 16) 1 none) ∧ ([(⟨(.nums .u8 (pa128 ([] : List Int) 0 16)), .grow, false⟩ : Blk)] : Mem) = [(⟨(.nums .u8 (pad128 ([] : List Int) 0)), .grow, false⟩ : Blk)])) else False) := by kernel_rfl
set_option maxHeartbeats 4000000 in
set_option maxRecDepth 100000 in
theorem pad128A_ok  : ∃ D H N, specW Try.prog D (cH9 Try.prog) H N 47 [.nilsl, (.int .i64 128), (.int .i64 16)] [] fun v M => v = (.sl 0 0 0 (0 + 1 + zn128 (0 + 1) + 16) 1 none) ∧ M = [(⟨(.nums .u8 (pad128 ([] : List Int) 0)), .grow, false⟩ : Blk)] := by
  exact ⟨d_pad64A, _, 1000, Eq.mpr (run_pad128A) (bifT (blt_ok (Nat.lt_trans (zn128_128 _) (by decide))) ⟨rfl, fun k0 hk0 => ⟨rfl, (aB (i_ne (b := 112) (zn128_lt hk0))), (app_grow (n := 1) rfl (by simp only [List.length_append, List.length_cons, List.length_nil, pz128_len, pa128_len (B := []) (n := 0) rfl]; try omega) rfl (src_nums (off := 0) (n := 1) (l := [0]) rfl (Nat.le_refl 1)) (rm2 (by have := zn128_128 (0 + 1); omega))), rfl⟩, rfl, (aB (i_nen (b := 112) (zn128_end _))), rfl, fun k0 hk0 => ⟨(aB (ival_ge (by omega))), ⟨fun hb0 => have hq := ival_lto hb0; ⟨(aI (ival_eq (by omega))), (aI (i_mul (a := 8) (b := (15 - k0)) (by omega))), (aI (lenb_min (n := 0 * 8) (by omega))), (aI (pb128_hi (by omega)).symm), (app_pa128 k0 rfl (by simp only [List.length_append, List.length_cons, List.length_nil, pz128_len, pa128_len (B := []) (n := 0) rfl]; try omega) rfl (src_nums (off := 0) (n := 1) (l := [(pb128 0 k0)]) rfl (Nat.le_refl 1)) rfl (rm2 (by have := zn128_128 (0 + 1); omega))), (aI (ival_s (by decide) (by omega))), rfl⟩, fun hb0 => have hq := ival_geo hb0; ⟨(aI (pb128_lo (by omega)).symm), (app_pa128 k0 rfl (by simp only [List.length_append, List.length_cons, List.length_nil, pz128_len, pa128_len (B := []) (n := 0) rfl]; try omega) rfl (src_nums (off := 0) (n := 1) (l := [(pb128 0 k0)]) rfl (Nat.le_refl 1)) rfl (rm2 (by have := zn128_128 (0 + 1); omega))), (aI (ival_s (by decide) (by omega))), rfl⟩⟩⟩, (aB (ival_gen (by decide))), rfl, ⟨rfl, rfl⟩⟩)⟩
def x_pad128B  (X : List Int) (ln : Nat) : St := ⟨(.junk :: ((.int .i64 128) :: ((.int .i64 16) :: (jk 4 ((.sl 1 0 0 ln 1 none) :: ((.int .u64 0) :: (jk 40 []))))))), [⟨(.agg [.nilsl]), .own, false⟩, ⟨(.nums .u8 X), .grow, false⟩]⟩
def v_pad128B  (X : List Int) (ln : Nat) (i : Int) : St := ⟨(jk 7 ((.sl 1 0 0 ln 1 none) :: ((.int .u64 0) :: ((.int .i64 i) :: (jk 39 []))))), [⟨(.agg [.nilsl]), .own, false⟩, ⟨(.nums .u8 X), .grow, false⟩]⟩
def h_pad128B : Hints := ⟨fun it t => match t with
  | 23 => (match (bif eqIt [none] it then some (.val (.int .i64 (Int.ofNat (((0 + 1) + (zn128 (0 + 1))) % 128)))) else none : Option VH), it with | some v, _ => some v | none, [some k0] => some (.val (.int .i64 (Int.ofNat (((0 + 1) + k0) % 128)))) | _, _ => none)
  | 27 => (match (bif eqIt [none] it then some (.val (.bool false)) else none : Option VH), it with | some v, _ => some v | none, [some k0] => some (.val (.bool true)) | _, _ => none)
  | 30 => (match it with | [some k0] => some (.op (.sl 3 0 0 (((0 + 1) + k0) + 1) 1 none) [(⟨(.agg [.nilsl]), .own, false⟩ : Blk), ⟨.junk, .dead, true⟩, ⟨(.nums .u8 [0]), .own, false⟩, ⟨(.nums .u8 ((pz128_X ([] : List Int) k0) ++ [0])), .grow, false⟩] ⟨[], [1], true, false⟩) | _ => none)
  | 34 => (match (bif eqIt [none] it then some (.val (.bool false)) else none : Option VH), it with | some v, _ => some v | none, [some k0] => some (.val (.bool true)) | _, _ => none)
  | 200038 => (match it with | [some k0] => some .ask | _ => none)
  | 40 => (match it with | [some k0] => some (.val (.int .i64 (Int.ofNat (15 - k0)))) | _ => none)
  | 41 => (match it with | [some k0] => some (.val (.int .i64 (Int.ofNat (8 * (15 - k0))))) | _ => none)
  | 43 => (match it with | [some k0] => some (.val (.int .u8 (lenb (0 * 8) (8 * (15 - k0))))) | _ => none)
  | 45 => (match it with | [some k0] => some (.val (.int .u8 (pb128 0 k0))) | _ => none)
  | 47 => (match it with | [some k0] => some (.op (.sl 3 0 0 (((0 + 1 + zn128 (0 + 1)) + k0) + 1) 1 none) [(⟨(.agg [.nilsl]), .own, false⟩ : Blk), ⟨.junk, .dead, true⟩, ⟨(.nums .u8 [(pb128 0 k0)]), .own, false⟩, ⟨(.nums .u8 (pa128 ([] : List Int) 0 (k0 + 1))), .grow, false⟩] ⟨[], [1], true, false⟩) | _ => none)
  | 36 => (match it with | [some k0] => some (.val (.int .i64 (ival 15 (k0 + 1)))) | _ => none)
  | 48 => bif eqIt [] it then some (.val (.sl 1 0 0 (0 + 1 + zn128 (0 + 1) + 16) 1 none)) else none
  | _ => none, fun it id => match id, it with
  | 0, [] => some ⟨(zn128 (0 + 1)), true, false, fun kk => x_pad128B  (pz128_X ([] : List Int) kk) ((0 + 1) + kk)⟩
  | 1, [] => some ⟨16, true, false, fun kk => v_pad128B  (pa128 ([] : List Int) 0 kk) ((0 + 1 + zn128 (0 + 1)) + kk) (ival 15 kk)⟩
  | _, _ => none⟩
set_option maxHeartbeats 4000000 in
set_option maxRecDepth 100000 in
theorem run_pad128B  : specW Try.prog d_pad64A (cH9 Try.prog) (h_pad128B) 1000 47 [(.sl 0 0 0 1 1 none), (.int .i64 128), (.int .i64 16)] [(⟨(.agg [.nilsl]), .own, false⟩ : Blk)] (fun v M => v = (.sl 1 0 0 (0 + 1 + zn128 (0 + 1) + 16) 1 none) ∧ M = [(⟨(.agg [.nilsl]), .own, false⟩ : Blk), ⟨(.nums .u8 (pad128 ([] : List Int) 0)), .grow, false⟩]) =
  (bif Nat.blt (zn128 (0 + 1)) 1000 then (x_pad128B  [128] 1 = x_pad128B  (pz128_X ([] : List Int) 0) ((0 + 1) + 0) ∧ (∀ k0, k0 < (zn128 (0 + 1)) → ((AV.int .i64 (Int.tmod (Int.ofNat ((0 + 1) + k0)) 128)) = (AV.int .i64 (Int.ofNat (((0 + 1) + k0) % 128))) ∧ (AV.bool ((Int.ofNat (((0 + 1) + k0) % 128)) != 112)) = (AV.bool true) ∧ psem (forget (cH9 Try.prog)) (.append 1 1) [(.sl 1 0 0 ((0 + 1) + k0) 1 none), (.sl 2 0 0 1 1 none)] [(⟨(.agg [.nilsl]), .own, false⟩ : Blk), ⟨(.nums .u8 (pz128_X ([] : List Int) k0)), .grow, false⟩, ⟨(.nums .u8 [0]), .own, false⟩] = some ((.sl 3 0 0 (((0 + 1) + k0) + 1) 1 none), [(⟨(.agg [.nilsl]), .own, false⟩ : Blk), ⟨.junk, .dead, true⟩, ⟨(.nums .u8 [0]), .own, false⟩, ⟨(.nums .u8 ((pz128_X ([] : List Int) k0) ++ [0])), .grow, false⟩], ⟨[], [1], true, false⟩) ∧ x_pad128B  ((pz128_X ([] : List Int) k0) ++ [0]) (((0 + 1) + k0) + 1) = x_pad128B  (pz128_X ([] : List Int) (k0 + 1)) ((0 + 1) + (k0 + 1)))) ∧ (AV.int .i64 (Int.tmod (Int.ofNat ((0 + 1) + (zn128 (0 + 1)))) 128)) = (AV.int .i64 (Int.ofNat (((0 + 1) + (zn128 (0 + 1))) % 128))) ∧ (AV.bool ((Int.ofNat (((0 + 1) + (zn128 (0 + 1))) % 128)) != 112)) = (AV.bool false) ∧ v_pad128B  (pz128_X ([] : List Int) (zn128 (0 + 1))) ((0 + 1) + (zn128 (0 + 1))) 15 = v_pad128B  (pa128 ([] : List Int) 0 0) ((0 + 1 + zn128 (0 + 1)) + 0) (ival 15 0) ∧ (∀ k0, k0 < 16 → ((AV.bool (decide ((ival 15 k0) ≥ 0))) = (AV.bool true) ∧ (((decide ((ival 15 k0) < 8)) = true → ((AV.int .i64 (ival 15 k0)) = (AV.int .i64 (Int.ofNat (15 - k0))) ∧ (AV.int .i64 (IntKind.i64.wrap ((8 : Int) * (Int.ofNat (15 - k0))))) = (AV.int .i64 (Int.ofNat (8 * (15 - k0)))) ∧ (AV.int .u8 (IntKind.u8.wrap (Int.fdiv (0 : Int) (2 ^ (Nat.min (8 * (15 - k0)) 64))))) = (AV.int .u8 (lenb (0 * 8) (8 * (15 - k0)))) ∧ (AV.int .u8 (lenb (0 * 8) (8 * (15 - k0)))) = (AV.int .u8 (pb128 0 k0)) ∧ psem (forget (cH9 Try.prog)) (.append 1 1) [(.sl 1 0 0 ((0 + 1 + zn128 (0 + 1)) + k0) 1 none), (.sl 2 0 0 1 1 none)] [(⟨(.agg [.nilsl]), .own, false⟩ : Blk), ⟨(.nums .u8 (pa128 ([] : List Int) 0 k0)), .grow, false⟩, ⟨(.nums .u8 [(pb128 0 k0)]), .own, false⟩] = some ((.sl 3 0 0 (((0 + 1 + zn128 (0 + 1)) + k0) + 1) 1 none), [(⟨(.agg [.nilsl]), .own, false⟩ : Blk), ⟨.junk, .dead, true⟩, ⟨(.nums .u8 [(pb128 0 k0)]), .own, false⟩, ⟨(.nums .u8 (pa128 ([] : List Int) 0 (k0 + 1))), .grow, false⟩], ⟨[], [1], true, false⟩) ∧ (AV.int .i64 (IntKind.i64.wrap ((ival 15 k0) - (1 : Int)))) = (AV.int .i64 (ival 15 (k0 + 1))) ∧ v_pad128B  (pa128 ([] : List Int) 0 (k0 + 1)) (((0 + 1 + zn128 (0 + 1)) + k0) + 1) (ival 15 (k0 + 1)) = v_pad128B  (pa128 ([] : List Int) 0 (k0 + 1)) ((0 + 1 + zn128 (0 + 1)) + (k0 + 1)) (ival 15 (k0 + 1)))) ∧ ((decide ((ival 15 k0) < 8)) = false → ((AV.int .u8 0) = (AV.int .u8 (pb128 0 k0)) ∧ psem (forget (cH9 Try.prog)) (.append 1 1) [(.sl 1 0 0 ((0 + 1 + zn128 (0 + 1)) + k0) 1 none), (.sl 2 0 0 1 1 none)] [(⟨(.agg [.nilsl]), .own, false⟩ : Blk), ⟨(.nums .u8 (pa128 ([] : List Int) 0 k0)), .grow, false⟩, ⟨(.nums .u8 [(pb128 0 k0)]), .own, false⟩] = some ((.sl 3 0 0 (((0 + 1 + zn128 (0 + 1)) + k0) + 1) 1 none), [(⟨(.agg [.nilsl]), .own, false⟩ : Blk), ⟨.junk, .dead, true⟩, ⟨(.nums .u8 [(pb128 0 k0)]), .own, false⟩, ⟨(.nums .u8 (pa128 ([] : List Int) 0 (k0 + 1))), .grow, false⟩], ⟨[], [1], true, false⟩) ∧ (AV.int .i64 (IntKind.i64.wrap ((ival 15 k0) - (1 : Int)))) = (AV.int .i64 (ival 15 (k0 + 1))) ∧ v_pad128B  (pa128 ([] : List Int) 0 (k0 + 1)) (((0 + 1 + zn128 (0 + 1)) + k0) + 1) (ival 15 (k0 + 1)) = v_pad128B  (pa128 ([] : List Int) 0 (k0 + 1)) ((0 + 1 + zn128 (0 + 1)) + (k0 + 1)) (ival 15 (k0 + 1))))))) ∧ (AV.bool (decide ((ival 15 16) ≥ 0))) = (AV.bool false) ∧ (AV.sl 1 0 0 ((0 + 1 + zn128 (0 + 1)) + 16) 1 none) = (AV.sl 1 0 0 (0 + 1 + zn128 (0 + 1) + 16) 1 none) ∧ ((AV.sl 1 0 0 (0 + 1 + zn128 (0 + 1) + 16) 1 none) = (AV.sl 1 0 0 (0 + 1 + zn128 (0 + 1) + 16) 1 none) ∧ ([(⟨(.agg [.nilsl]), .own, false⟩ : Blk), ⟨(.nums .u8 (pa128 ([] : List Int) 0 16)), .grow, false⟩] : Mem) = [(⟨(.agg [.nilsl]), .own, false⟩ : Blk), ⟨(.nums .u8 (pad128 ([] : List Int) 0)), .grow, false⟩])) else False) := by kernel_rfl
set_option maxHeartbeats 4000000 in
set_option maxRecDepth 100000 in
theorem pad128B_ok  : ∃ D H N, specW Try.prog D (cH9 Try.prog) H N 47 [(.sl 0 0 0 1 1 none), (.int .i64 128), (.int .i64 16)] [(⟨(.agg [.nilsl]), .own, false⟩ : Blk)] fun v M => v = (.sl 1 0 0 (0 + 1 + zn128 (0 + 1) + 16) 1 none) ∧ M = [(⟨(.agg [.nilsl]), .own, false⟩ : Blk), ⟨(.nums .u8 (pad128 ([] : List Int) 0)), .grow, false⟩] := by
  exact ⟨d_pad64A, _, 1000, Eq.mpr (run_pad128B) (bifT (blt_ok (Nat.lt_trans (zn128_128 _) (by decide))) ⟨rfl, fun k0 hk0 => ⟨rfl, (aB (i_ne (b := 112) (zn128_lt hk0))), (app_grow (n := 1) rfl (by simp only [List.length_append, List.length_cons, List.length_nil, pz128_len, pa128_len (B := []) (n := 0) rfl]; try omega) rfl (src_nums (off := 0) (n := 1) (l := [0]) rfl (Nat.le_refl 1)) (rm2 (by have := zn128_128 (0 + 1); omega))), rfl⟩, rfl, (aB (i_nen (b := 112) (zn128_end _))), rfl, fun k0 hk0 => ⟨(aB (ival_ge (by omega))), ⟨fun hb0 => have hq := ival_lto hb0; ⟨(aI (ival_eq (by omega))), (aI (i_mul (a := 8) (b := (15 - k0)) (by omega))), (aI (lenb_min (n := 0 * 8) (by omega))), (aI (pb128_hi (by omega)).symm), (app_pa128 k0 rfl (by simp only [List.length_append, List.length_cons, List.length_nil, pz128_len, pa128_len (B := []) (n := 0) rfl]; try omega) rfl (src_nums (off := 0) (n := 1) (l := [(pb128 0 k0)]) rfl (Nat.le_refl 1)) rfl (rm2 (by have := zn128_128 (0 + 1); omega))), (aI (ival_s (by decide) (by omega))), rfl⟩, fun hb0 => have hq := ival_geo hb0; ⟨(aI (pb128_lo (by omega)).symm), (app_pa128 k0 rfl (by simp only [List.length_append, List.length_cons, List.length_nil, pz128_len, pa128_len (B := []) (n := 0) rfl]; try omega) rfl (src_nums (off := 0) (n := 1) (l := [(pb128 0 k0)]) rfl (Nat.le_refl 1)) rfl (rm2 (by have := zn128_128 (0 + 1); omega))), (aI (ival_s (by decide) (by omega))), rfl⟩⟩⟩, (aB (ival_gen (by decide))), rfl, ⟨rfl, rfl⟩⟩)⟩
def x_pad128r0 (off bs o : Nat) (lm : Option Nat) (B : List Int) (X : List Int) (ln : Nat) : St := ⟨(.junk :: ((.int .i64 128) :: ((.int .i64 16) :: (jk 4 ((.sl 2 0 0 ln 1 none) :: ((.int .u64 0) :: (jk 40 []))))))), [⟨(.agg [(.sl 1 off bs 0 1 lm)]), .own, false⟩, ⟨(.at o (.nums .u8 B)), .ro, false⟩, ⟨(.nums .u8 X), .grow, false⟩]⟩
def v_pad128r0 (off bs o : Nat) (lm : Option Nat) (B : List Int) (X : List Int) (ln : Nat) (i : Int) : St := ⟨(jk 7 ((.sl 2 0 0 ln 1 none) :: ((.int .u64 0) :: ((.int .i64 i) :: (jk 39 []))))), [⟨(.agg [(.sl 1 off bs 0 1 lm)]), .own, false⟩, ⟨(.at o (.nums .u8 B)), .ro, false⟩, ⟨(.nums .u8 X), .grow, false⟩]⟩
def h_pad128r0 (off bs o : Nat) (lm : Option Nat) (B : List Int) : Hints := ⟨fun it t => match t with
  | 23 => (match (bif eqIt [none] it then some (.val (.int .i64 (Int.ofNat (((0 + 1) + (zn128 (0 + 1))) % 128)))) else none : Option VH), it with | some v, _ => some v | none, [some k0] => some (.val (.int .i64 (Int.ofNat (((0 + 1) + k0) % 128)))) | _, _ => none)
  | 27 => (match (bif eqIt [none] it then some (.val (.bool false)) else none : Option VH), it with | some v, _ => some v | none, [some k0] => some (.val (.bool true)) | _, _ => none)
  | 30 => (match it with | [some k0] => some (.op (.sl 4 0 0 (((0 + 1) + k0) + 1) 1 none) [(⟨(.agg [(.sl 1 off bs 0 1 lm)]), .own, false⟩ : Blk), ⟨(.at o (.nums .u8 B)), .ro, false⟩, ⟨.junk, .dead, true⟩, ⟨(.nums .u8 [0]), .own, false⟩, ⟨(.nums .u8 ((pz128_X ([] : List Int) k0) ++ [0])), .grow, false⟩] ⟨[], [2], true, false⟩) | _ => none)
  | 34 => (match (bif eqIt [none] it then some (.val (.bool false)) else none : Option VH), it with | some v, _ => some v | none, [some k0] => some (.val (.bool true)) | _, _ => none)
  | 200038 => (match it with | [some k0] => some .ask | _ => none)
  | 40 => (match it with | [some k0] => some (.val (.int .i64 (Int.ofNat (15 - k0)))) | _ => none)
  | 41 => (match it with | [some k0] => some (.val (.int .i64 (Int.ofNat (8 * (15 - k0))))) | _ => none)
  | 43 => (match it with | [some k0] => some (.val (.int .u8 (lenb (0 * 8) (8 * (15 - k0))))) | _ => none)
  | 45 => (match it with | [some k0] => some (.val (.int .u8 (pb128 0 k0))) | _ => none)
  | 47 => (match it with | [some k0] => some (.op (.sl 4 0 0 (((0 + 1 + zn128 (0 + 1)) + k0) + 1) 1 none) [(⟨(.agg [(.sl 1 off bs 0 1 lm)]), .own, false⟩ : Blk), ⟨(.at o (.nums .u8 B)), .ro, false⟩, ⟨.junk, .dead, true⟩, ⟨(.nums .u8 [(pb128 0 k0)]), .own, false⟩, ⟨(.nums .u8 (pa128 ([] : List Int) 0 (k0 + 1))), .grow, false⟩] ⟨[], [2], true, false⟩) | _ => none)
  | 36 => (match it with | [some k0] => some (.val (.int .i64 (ival 15 (k0 + 1)))) | _ => none)
  | 48 => bif eqIt [] it then some (.val (.sl 2 0 0 (0 + 1 + zn128 (0 + 1) + 16) 1 none)) else none
  | _ => none, fun it id => match id, it with
  | 0, [] => some ⟨(zn128 (0 + 1)), true, false, fun kk => x_pad128r0 off bs o lm B (pz128_X ([] : List Int) kk) ((0 + 1) + kk)⟩
  | 1, [] => some ⟨16, true, false, fun kk => v_pad128r0 off bs o lm B (pa128 ([] : List Int) 0 kk) ((0 + 1 + zn128 (0 + 1)) + kk) (ival 15 kk)⟩
  | _, _ => none⟩
set_option maxHeartbeats 4000000 in
set_option maxRecDepth 100000 in
theorem run_pad128r0 (off bs o : Nat) (lm : Option Nat) (B : List Int) : specW Try.prog d_pad64A (cH9 Try.prog) (h_pad128r0 off bs o lm B) 1000 47 [(.sl 0 0 0 1 1 none), (.int .i64 128), (.int .i64 16)] [(⟨(.agg [(.sl 1 off bs 0 1 lm)]), .own, false⟩ : Blk), ⟨(.at o (.nums .u8 B)), .ro, false⟩] (fun v M => v = (.sl 2 0 0 (0 + 1 + zn128 (0 + 1) + 16) 1 none) ∧ M = [(⟨(.agg [(.sl 1 off bs 0 1 lm)]), .own, false⟩ : Blk), ⟨(.at o (.nums .u8 B)), .ro, false⟩, ⟨(.nums .u8 (pad128 ([] : List Int) 0)), .grow, false⟩]) =
  ((o ≤ off ∧ off - o ≤ B.length) ∧ (bif Nat.blt (zn128 (0 + 1)) 1000 then (x_pad128r0 off bs o lm B [128] 1 = x_pad128r0 off bs o lm B (pz128_X ([] : List Int) 0) ((0 + 1) + 0) ∧ (∀ k0, k0 < (zn128 (0 + 1)) → ((AV.int .i64 (Int.tmod (Int.ofNat ((0 + 1) + k0)) 128)) = (AV.int .i64 (Int.ofNat (((0 + 1) + k0) % 128))) ∧ (AV.bool ((Int.ofNat (((0 + 1) + k0) % 128)) != 112)) = (AV.bool true) ∧ psem (forget (cH9 Try.prog)) (.append 1 1) [(.sl 2 0 0 ((0 + 1) + k0) 1 none), (.sl 3 0 0 1 1 none)] [(⟨(.agg [(.sl 1 off bs 0 1 lm)]), .own, false⟩ : Blk), ⟨(.at o (.nums .u8 B)), .ro, false⟩, ⟨(.nums .u8 (pz128_X ([] : List Int) k0)), .grow, false⟩, ⟨(.nums .u8 [0]), .own, false⟩] = some ((.sl 4 0 0 (((0 + 1) + k0) + 1) 1 none), [(⟨(.agg [(.sl 1 off bs 0 1 lm)]), .own, false⟩ : Blk), ⟨(.at o (.nums .u8 B)), .ro, false⟩, ⟨.junk, .dead, true⟩, ⟨(.nums .u8 [0]), .own, false⟩, ⟨(.nums .u8 ((pz128_X ([] : List Int) k0) ++ [0])), .grow, false⟩], ⟨[], [2], true, false⟩) ∧ x_pad128r0 off bs o lm B ((pz128_X ([] : List Int) k0) ++ [0]) (((0 + 1) + k0) + 1) = x_pad128r0 off bs o lm B (pz128_X ([] : List Int) (k0 + 1)) ((0 + 1) + (k0 + 1)))) ∧ (AV.int .i64 (Int.tmod (Int.ofNat ((0 + 1) + (zn128 (0 + 1)))) 128)) = (AV.int .i64 (Int.ofNat (((0 + 1) + (zn128 (0 + 1))) % 128))) ∧ (AV.bool ((Int.ofNat (((0 + 1) + (zn128 (0 + 1))) % 128)) != 112)) = (AV.bool false) ∧ v_pad128r0 off bs o lm B (pz128_X ([] : List Int) (zn128 (0 + 1))) ((0 + 1) + (zn128 (0 + 1))) 15 = v_pad128r0 off bs o lm B (pa128 ([] : List Int) 0 0) ((0 + 1 + zn128 (0 + 1)) + 0) (ival 15 0) ∧ (∀ k0, k0 < 16 → ((AV.bool (decide ((ival 15 k0) ≥ 0))) = (AV.bool true) ∧ (((decide ((ival 15 k0) < 8)) = true → ((AV.int .i64 (ival 15 k0)) = (AV.int .i64 (Int.ofNat (15 - k0))) ∧ (AV.int .i64 (IntKind.i64.wrap ((8 : Int) * (Int.ofNat (15 - k0))))) = (AV.int .i64 (Int.ofNat (8 * (15 - k0)))) ∧ (AV.int .u8 (IntKind.u8.wrap (Int.fdiv (0 : Int) (2 ^ (Nat.min (8 * (15 - k0)) 64))))) = (AV.int .u8 (lenb (0 * 8) (8 * (15 - k0)))) ∧ (AV.int .u8 (lenb (0 * 8) (8 * (15 - k0)))) = (AV.int .u8 (pb128 0 k0)) ∧ psem (forget (cH9 Try.prog)) (.append 1 1) [(.sl 2 0 0 ((0 + 1 + zn128 (0 + 1)) + k0) 1 none), (.sl 3 0 0 1 1 none)] [(⟨(.agg [(.sl 1 off bs 0 1 lm)]), .own, false⟩ : Blk), ⟨(.at o (.nums .u8 B)), .ro, false⟩, ⟨(.nums .u8 (pa128 ([] : List Int) 0 k0)), .grow, false⟩, ⟨(.nums .u8 [(pb128 0 k0)]), .own, false⟩] = some ((.sl 4 0 0 (((0 + 1 + zn128 (0 + 1)) + k0) + 1) 1 none), [(⟨(.agg [(.sl 1 off bs 0 1 lm)]), .own, false⟩ : Blk), ⟨(.at o (.nums .u8 B)), .ro, false⟩, ⟨.junk, .dead, true⟩, ⟨(.nums .u8 [(pb128 0 k0)]), .own, false⟩, ⟨(.nums .u8 (pa128 ([] : List Int) 0 (k0 + 1))), .grow, false⟩], ⟨[], [2], true, false⟩) ∧ (AV.int .i64 (IntKind.i64.wrap ((ival 15 k0) - (1 : Int)))) = (AV.int .i64 (ival 15 (k0 + 1))) ∧ v_pad128r0 off bs o lm B (pa128 ([] : List Int) 0 (k0 + 1)) (((0 + 1 + zn128 (0 + 1)) + k0) + 1) (ival 15 (k0 + 1)) = v_pad128r0 off bs o lm B (pa128 ([] : List Int) 0 (k0 + 1)) ((0 + 1 + zn128 (0 + 1)) + (k0 + 1)) (ival 15 (k0 + 1)))) ∧ ((decide ((ival 15 k0) < 8)) = false → ((AV.int .u8 0) = (AV.int .u8 (pb128 0 k0)) ∧ psem (forget (cH9 Try.prog)) (.append 1 1) [(.sl 2 0 0 ((0 + 1 + zn128 (0 + 1)) + k0) 1 none), (.sl 3 0 0 1 1 none)] [(⟨(.agg [(.sl 1 off bs 0 1 lm)]), .own, false⟩ : Blk), ⟨(.at o (.nums .u8 B)), .ro, false⟩, ⟨(.nums .u8 (pa128 ([] : List Int) 0 k0)), .grow, false⟩, ⟨(.nums .u8 [(pb128 0 k0)]), .own, false⟩] = some ((.sl 4 0 0 (((0 + 1 + zn128 (0 + 1)) + k0) + 1) 1 none), [(⟨(.agg [(.sl 1 off bs 0 1 lm)]), .own, false⟩ : Blk), ⟨(.at o (.nums .u8 B)), .ro, false⟩, ⟨.junk, .dead, true⟩, ⟨(.nums .u8 [(pb128 0 k0)]), .own, false⟩, ⟨(.nums .u8 (pa128 ([] : List Int) 0 (k0 + 1))), .grow, false⟩], ⟨[], [2], true, false⟩) ∧ (AV.int .i64 (IntKind.i64.wrap ((ival 15 k0) - (1 : Int)))) = (AV.int .i64 (ival 15 (k0 + 1))) ∧ v_pad128r0 off bs o lm B (pa128 ([] : List Int) 0 (k0 + 1)) (((0 + 1 + zn128 (0 + 1)) + k0) + 1) (ival 15 (k0 + 1)) = v_pad128r0 off bs o lm B (pa128 ([] : List Int) 0 (k0 + 1)) ((0 + 1 + zn128 (0 + 1)) + (k0 + 1)) (ival 15 (k0 + 1))))))) ∧ (AV.bool (decide ((ival 15 16) ≥ 0))) = (AV.bool false) ∧ (AV.sl 2 0 0 ((0 + 1 + zn128 (0 + 1)) + 16) 1 none) = (AV.sl 2 0 0 (0 + 1 + zn128 (0 + 1) + 16) 1 none) ∧ ((AV.sl 2 0 0 (0 + 1 + zn128 (0 + 1) + 16) 1 none) = (AV.sl 2 0 0 (0 + 1 + zn128 (0 + 1) + 16) 1 none) ∧ ([(⟨(.agg [(.sl 1 off bs 0 1 lm)]), .own, false⟩ : Blk), ⟨(.at o (.nums .u8 B)), .ro, false⟩, ⟨(.nums .u8 (pa128 ([] : List Int) 0 16)), .grow, false⟩] : Mem) = [(⟨(.agg [(.sl 1 off bs 0 1 lm)]), .own, false⟩ : Blk), ⟨(.at o (.nums .u8 B)), .ro, false⟩, ⟨(.nums .u8 (pad128 ([] : List Int) 0)), .grow, false⟩])) else False)) := by kernel_rfl
set_option maxHeartbeats 4000000 in
set_option maxRecDepth 100000 in
theorem pad128r0_ok {off bs o : Nat} {lm : Option Nat} {B : List Int} (hyp : o ≤ off ∧ off - o ≤ B.length) : ∃ D H N, specW Try.prog D (cH9 Try.prog) H N 47 [(.sl 0 0 0 1 1 none), (.int .i64 128), (.int .i64 16)] [(⟨(.agg [(.sl 1 off bs 0 1 lm)]), .own, false⟩ : Blk), ⟨(.at o (.nums .u8 B)), .ro, false⟩] fun v M => v = (.sl 2 0 0 (0 + 1 + zn128 (0 + 1) + 16) 1 none) ∧ M = [(⟨(.agg [(.sl 1 off bs 0 1 lm)]), .own, false⟩ : Blk), ⟨(.at o (.nums .u8 B)), .ro, false⟩, ⟨(.nums .u8 (pad128 ([] : List Int) 0)), .grow, false⟩] := by
  exact ⟨d_pad64A, _, 1000, Eq.mpr (run_pad128r0 off bs o lm B) ⟨⟨hyp.1, hyp.2⟩, (bifT (blt_ok (Nat.lt_trans (zn128_128 _) (by decide))) ⟨rfl, fun k0 hk0 => ⟨rfl, (aB (i_ne (b := 112) (zn128_lt hk0))), (app_grow (n := 1) rfl (by simp only [List.length_append, List.length_cons, List.length_nil, pz128_len, pa128_len (B := []) (n := 0) rfl]; try omega) rfl (src_nums (off := 0) (n := 1) (l := [0]) rfl (Nat.le_refl 1)) (rm2 (by have := zn128_128 (0 + 1); omega))), rfl⟩, rfl, (aB (i_nen (b := 112) (zn128_end _))), rfl, fun k0 hk0 => ⟨(aB (ival_ge (by omega))), ⟨fun hb0 => have hq := ival_lto hb0; ⟨(aI (ival_eq (by omega))), (aI (i_mul (a := 8) (b := (15 - k0)) (by omega))), (aI (lenb_min (n := 0 * 8) (by omega))), (aI (pb128_hi (by omega)).symm), (app_pa128 k0 rfl (by simp only [List.length_append, List.length_cons, List.length_nil, pz128_len, pa128_len (B := []) (n := 0) rfl]; try omega) rfl (src_nums (off := 0) (n := 1) (l := [(pb128 0 k0)]) rfl (Nat.le_refl 1)) rfl (rm2 (by have := zn128_128 (0 + 1); omega))), (aI (ival_s (by decide) (by omega))), rfl⟩, fun hb0 => have hq := ival_geo hb0; ⟨(aI (pb128_lo (by omega)).symm), (app_pa128 k0 rfl (by simp only [List.length_append, List.length_cons, List.length_nil, pz128_len, pa128_len (B := []) (n := 0) rfl]; try omega) rfl (src_nums (off := 0) (n := 1) (l := [(pb128 0 k0)]) rfl (Nat.le_refl 1)) rfl (rm2 (by have := zn128_128 (0 + 1); omega))), (aI (ival_s (by decide) (by omega))), rfl⟩⟩⟩, (aB (ival_gen (by decide))), rfl, ⟨rfl, rfl⟩⟩)⟩⟩
def x_pad128r1 (off bs n o : Nat) (lm : Option Nat) (B : List Int) (X : List Int) (ln : Nat) : St := ⟨(.junk :: ((.int .i64 128) :: ((.int .i64 16) :: (jk 4 ((.sl 2 0 0 ln 1 none) :: ((.int .u64 (Int.ofNat ((n + 1) * 8))) :: (jk 40 []))))))), [⟨(.agg [(.sl 1 off bs (n + 1) 1 lm)]), .own, false⟩, ⟨(.at o (.nums .u8 B)), .ro, false⟩, ⟨(.nums .u8 X), .grow, false⟩]⟩
def v_pad128r1 (off bs n o : Nat) (lm : Option Nat) (B : List Int) (X : List Int) (ln : Nat) (i : Int) : St := ⟨(jk 7 ((.sl 2 0 0 ln 1 none) :: ((.int .u64 (Int.ofNat ((n + 1) * 8))) :: ((.int .i64 i) :: (jk 39 []))))), [⟨(.agg [(.sl 1 off bs (n + 1) 1 lm)]), .own, false⟩, ⟨(.at o (.nums .u8 B)), .ro, false⟩, ⟨(.nums .u8 X), .grow, false⟩]⟩
def h_pad128r1 (off bs n o : Nat) (lm : Option Nat) (B : List Int) : Hints := ⟨fun it t => match t with
  | 15 => bif eqIt [] it then some (.val (.int .u64 (Int.ofNat (n + 1)))) else none
  | 16 => bif eqIt [] it then some (.val (.int .u64 (Int.ofNat ((n + 1) * 8)))) else none
  | 19 => bif eqIt [] it then some (.op (.sl 4 0 0 ((n + 1) + 1) 1 none) [(⟨(.agg [(.sl 1 off bs (n + 1) 1 lm)]), .own, false⟩ : Blk), ⟨(.at o (.nums .u8 B)), .ro, false⟩, ⟨.junk, .dead, true⟩, ⟨(.nums .u8 [128]), .own, false⟩, ⟨(.nums .u8 ((seg B (off - o) (n + 1)) ++ [128])), .grow, false⟩] ⟨[], [2], true, false⟩) else none
  | 23 => (match (bif eqIt [none] it then some (.val (.int .i64 (Int.ofNat ((((n + 1) + 1) + (zn128 ((n + 1) + 1))) % 128)))) else none : Option VH), it with | some v, _ => some v | none, [some k0] => some (.val (.int .i64 (Int.ofNat ((((n + 1) + 1) + k0) % 128)))) | _, _ => none)
  | 27 => (match (bif eqIt [none] it then some (.val (.bool false)) else none : Option VH), it with | some v, _ => some v | none, [some k0] => some (.val (.bool true)) | _, _ => none)
  | 30 => (match it with | [some k0] => some (.op (.sl 4 0 0 ((((n + 1) + 1) + k0) + 1) 1 none) [(⟨(.agg [(.sl 1 off bs (n + 1) 1 lm)]), .own, false⟩ : Blk), ⟨(.at o (.nums .u8 B)), .ro, false⟩, ⟨.junk, .dead, true⟩, ⟨(.nums .u8 [0]), .own, false⟩, ⟨(.nums .u8 ((pz128_X (seg B (off - o) (n + 1)) k0) ++ [0])), .grow, false⟩] ⟨[], [2], true, false⟩) | _ => none)
  | 34 => (match (bif eqIt [none] it then some (.val (.bool false)) else none : Option VH), it with | some v, _ => some v | none, [some k0] => some (.val (.bool true)) | _, _ => none)
  | 200038 => (match it with | [some k0] => some .ask | _ => none)
  | 40 => (match it with | [some k0] => some (.val (.int .i64 (Int.ofNat (15 - k0)))) | _ => none)
  | 41 => (match it with | [some k0] => some (.val (.int .i64 (Int.ofNat (8 * (15 - k0))))) | _ => none)
  | 43 => (match it with | [some k0] => some (.val (.int .u8 (lenb ((n + 1) * 8) (8 * (15 - k0))))) | _ => none)
  | 45 => (match it with | [some k0] => some (.val (.int .u8 (pb128 (n + 1) k0))) | _ => none)
  | 47 => (match it with | [some k0] => some (.op (.sl 4 0 0 ((((n + 1) + 1 + zn128 ((n + 1) + 1)) + k0) + 1) 1 none) [(⟨(.agg [(.sl 1 off bs (n + 1) 1 lm)]), .own, false⟩ : Blk), ⟨(.at o (.nums .u8 B)), .ro, false⟩, ⟨.junk, .dead, true⟩, ⟨(.nums .u8 [(pb128 (n + 1) k0)]), .own, false⟩, ⟨(.nums .u8 (pa128 (seg B (off - o) (n + 1)) (n + 1) (k0 + 1))), .grow, false⟩] ⟨[], [2], true, false⟩) | _ => none)
  | 36 => (match it with | [some k0] => some (.val (.int .i64 (ival 15 (k0 + 1)))) | _ => none)
  | 48 => bif eqIt [] it then some (.val (.sl 2 0 0 ((n + 1) + 1 + zn128 ((n + 1) + 1) + 16) 1 none)) else none
  | _ => none, fun it id => match id, it with
  | 0, [] => some ⟨(zn128 ((n + 1) + 1)), true, false, fun kk => x_pad128r1 off bs n o lm B (pz128_X (seg B (off - o) (n + 1)) kk) (((n + 1) + 1) + kk)⟩
  | 1, [] => some ⟨16, true, false, fun kk => v_pad128r1 off bs n o lm B (pa128 (seg B (off - o) (n + 1)) (n + 1) kk) (((n + 1) + 1 + zn128 ((n + 1) + 1)) + kk) (ival 15 kk)⟩
  | _, _ => none⟩
set_option maxHeartbeats 4000000 in
set_option maxRecDepth 100000 in
theorem run_pad128r1 (off bs n o : Nat) (lm : Option Nat) (B : List Int) : specW Try.prog d_pad64A (cH9 Try.prog) (h_pad128r1 off bs n o lm B) 1000 47 [(.sl 0 0 0 1 1 none), (.int .i64 128), (.int .i64 16)] [(⟨(.agg [(.sl 1 off bs (n + 1) 1 lm)]), .own, false⟩ : Blk), ⟨(.at o (.nums .u8 B)), .ro, false⟩] (fun v M => v = (.sl 2 0 0 ((n + 1) + 1 + zn128 ((n + 1) + 1) + 16) 1 none) ∧ M = [(⟨(.agg [(.sl 1 off bs (n + 1) 1 lm)]), .own, false⟩ : Blk), ⟨(.at o (.nums .u8 B)), .ro, false⟩, ⟨(.nums .u8 (pad128 (seg B (off - o) (n + 1)) (n + 1))), .grow, false⟩]) =
  ((o ≤ off ∧ off - o + (n + 1) ≤ B.length ∧ n < 1000000) ∧ (AV.int .u64 (IntKind.u64.wrap (Int.ofNat (n + 1)))) = (AV.int .u64 (Int.ofNat (n + 1))) ∧ (AV.int .u64 (IntKind.u64.wrap ((Int.ofNat (n + 1)) * (8 : Int)))) = (AV.int .u64 (Int.ofNat ((n + 1) * 8))) ∧ psem (forget (cH9 Try.prog)) (.append 1 1) [(.sl 2 0 0 (n + 1) 1 none), (.sl 3 0 0 1 1 none)] [(⟨(.agg [(.sl 1 off bs (n + 1) 1 lm)]), .own, false⟩ : Blk), ⟨(.at o (.nums .u8 B)), .ro, false⟩, ⟨(.nums .u8 (seg B (off - o) (n + 1))), .grow, false⟩, ⟨(.nums .u8 [128]), .own, false⟩] = some ((.sl 4 0 0 ((n + 1) + 1) 1 none), [(⟨(.agg [(.sl 1 off bs (n + 1) 1 lm)]), .own, false⟩ : Blk), ⟨(.at o (.nums .u8 B)), .ro, false⟩, ⟨.junk, .dead, true⟩, ⟨(.nums .u8 [128]), .own, false⟩, ⟨(.nums .u8 ((seg B (off - o) (n + 1)) ++ [128])), .grow, false⟩], ⟨[], [2], true, false⟩) ∧ (bif Nat.blt (zn128 ((n + 1) + 1)) 1000 then (x_pad128r1 off bs n o lm B ((seg B (off - o) (n + 1)) ++ [128]) ((n + 1) + 1) = x_pad128r1 off bs n o lm B (pz128_X (seg B (off - o) (n + 1)) 0) (((n + 1) + 1) + 0) ∧ (∀ k0, k0 < (zn128 ((n + 1) + 1)) → ((AV.int .i64 (Int.tmod (Int.ofNat (((n + 1) + 1) + k0)) 128)) = (AV.int .i64 (Int.ofNat ((((n + 1) + 1) + k0) % 128))) ∧ (AV.bool ((Int.ofNat ((((n + 1) + 1) + k0) % 128)) != 112)) = (AV.bool true) ∧ psem (forget (cH9 Try.prog)) (.append 1 1) [(.sl 2 0 0 (((n + 1) + 1) + k0) 1 none), (.sl 3 0 0 1 1 none)] [(⟨(.agg [(.sl 1 off bs (n + 1) 1 lm)]), .own, false⟩ : Blk), ⟨(.at o (.nums .u8 B)), .ro, false⟩, ⟨(.nums .u8 (pz128_X (seg B (off - o) (n + 1)) k0)), .grow, false⟩, ⟨(.nums .u8 [0]), .own, false⟩] = some ((.sl 4 0 0 ((((n + 1) + 1) + k0) + 1) 1 none), [(⟨(.agg [(.sl 1 off bs (n + 1) 1 lm)]), .own, false⟩ : Blk), ⟨(.at o (.nums .u8 B)), .ro, false⟩, ⟨.junk, .dead, true⟩, ⟨(.nums .u8 [0]), .own, false⟩, ⟨(.nums .u8 ((pz128_X (seg B (off - o) (n + 1)) k0) ++ [0])), .grow, false⟩], ⟨[], [2], true, false⟩) ∧ x_pad128r1 off bs n o lm B ((pz128_X (seg B (off - o) (n + 1)) k0) ++ [0]) ((((n + 1) + 1) + k0) + 1) = x_pad128r1 off bs n o lm B (pz128_X (seg B (off - o) (n + 1)) (k0 + 1)) (((n + 1) + 1) + (k0 + 1)))) ∧ (AV.int .i64 (Int.tmod (Int.ofNat (((n + 1) + 1) + (zn128 ((n + 1) + 1)))) 128)) = (AV.int .i64 (Int.ofNat ((((n + 1) + 1) + (zn128 ((n + 1) + 1))) % 128))) ∧ (AV.bool ((Int.ofNat ((((n + 1) + 1) + (zn128 ((n + 1) + 1))) % 128)) != 112)) = (AV.bool false) ∧ v_pad128r1 off bs n o lm B (pz128_X (seg B (off - o) (n + 1)) (zn128 ((n + 1) + 1))) (((n + 1) + 1) + (zn128 ((n + 1) + 1))) 15 = v_pad128r1 off bs n o lm B (pa128 (seg B (off - o) (n + 1)) (n + 1) 0) (((n + 1) + 1 + zn128 ((n + 1) + 1)) + 0) (ival 15 0) ∧ (∀ k0, k0 < 16 → ((AV.bool (decide ((ival 15 k0) ≥ 0))) = (AV.bool true) ∧ (((decide ((ival 15 k0) < 8)) = true → ((AV.int .i64 (ival 15 k0)) = (AV.int .i64 (Int.ofNat (15 - k0))) ∧ (AV.int .i64 (IntKind.i64.wrap ((8 : Int) * (Int.ofNat (15 - k0))))) = (AV.int .i64 (Int.ofNat (8 * (15 - k0)))) ∧ (AV.int .u8 (IntKind.u8.wrap (Int.fdiv (Int.ofNat ((n + 1) * 8)) (2 ^ (Nat.min (8 * (15 - k0)) 64))))) = (AV.int .u8 (lenb ((n + 1) * 8) (8 * (15 - k0)))) ∧ (AV.int .u8 (lenb ((n + 1) * 8) (8 * (15 - k0)))) = (AV.int .u8 (pb128 (n + 1) k0)) ∧ psem (forget (cH9 Try.prog)) (.append 1 1) [(.sl 2 0 0 (((n + 1) + 1 + zn128 ((n + 1) + 1)) + k0) 1 none), (.sl 3 0 0 1 1 none)] [(⟨(.agg [(.sl 1 off bs (n + 1) 1 lm)]), .own, false⟩ : Blk), ⟨(.at o (.nums .u8 B)), .ro, false⟩, ⟨(.nums .u8 (pa128 (seg B (off - o) (n + 1)) (n + 1) k0)), .grow, false⟩, ⟨(.nums .u8 [(pb128 (n + 1) k0)]), .own, false⟩] = some ((.sl 4 0 0 ((((n + 1) + 1 + zn128 ((n + 1) + 1)) + k0) + 1) 1 none), [(⟨(.agg [(.sl 1 off bs (n + 1) 1 lm)]), .own, false⟩ : Blk), ⟨(.at o (.nums .u8 B)), .ro, false⟩, ⟨.junk, .dead, true⟩, ⟨(.nums .u8 [(pb128 (n + 1) k0)]), .own, false⟩, ⟨(.nums .u8 (pa128 (seg B (off - o) (n + 1)) (n + 1) (k0 + 1))), .grow, false⟩], ⟨[], [2], true, false⟩) ∧ (AV.int .i64 (IntKind.i64.wrap ((ival 15 k0) - (1 : Int)))) = (AV.int .i64 (ival 15 (k0 + 1))) ∧ v_pad128r1 off bs n o lm B (pa128 (seg B (off - o) (n + 1)) (n + 1) (k0 + 1)) ((((n + 1) + 1 + zn128 ((n + 1) + 1)) + k0) + 1) (ival 15 (k0 + 1)) = v_pad128r1 off bs n o lm B (pa128 (seg B (off - o) (n + 1)) (n + 1) (k0 + 1)) (((n + 1) + 1 + zn128 ((n + 1) + 1)) + (k0 + 1)) (ival 15 (k0 + 1)))) ∧ ((decide ((ival 15 k0) < 8)) = false → ((AV.int .u8 0) = (AV.int .u8 (pb128 (n + 1) k0)) ∧ psem (forget (cH9 Try.prog)) (.append 1 1) [(.sl 2 0 0 (((n + 1) + 1 + zn128 ((n + 1) + 1)) + k0) 1 none), (.sl 3 0 0 1 1 none)] [(⟨(.agg [(.sl 1 off bs (n + 1) 1 lm)]), .own, false⟩ : Blk), ⟨(.at o (.nums .u8 B)), .ro, false⟩, ⟨(.nums .u8 (pa128 (seg B (off - o) (n + 1)) (n + 1) k0)), .grow, false⟩, ⟨(.nums .u8 [(pb128 (n + 1) k0)]), .own, false⟩] = some ((.sl 4 0 0 ((((n + 1) + 1 + zn128 ((n + 1) + 1)) + k0) + 1) 1 none), [(⟨(.agg [(.sl 1 off bs (n + 1) 1 lm)]), .own, false⟩ : Blk), ⟨(.at o (.nums .u8 B)), .ro, false⟩, ⟨.junk, .dead, true⟩, ⟨(.nums .u8 [(pb128 (n + 1) k0)]), .own, false⟩, ⟨(.nums .u8 (pa128 (seg B (off - o) (n + 1)) (n + 1) (k0 + 1))), .grow, false⟩], ⟨[], [2], true, false⟩) ∧ (AV.int .i64 (IntKind.i64.wrap ((ival 15 k0) - (1 : Int)))) = (AV.int .i64 (ival 15 (k0 + 1))) ∧ v_pad128r1 off bs n o lm B (pa128 (seg B (off - o) (n + 1)) (n + 1) (k0 + 1)) ((((n + 1) + 1 + zn128 ((n + 1) + 1)) + k0) + 1) (ival 15 (k0 + 1)) = v_pad128r1 off bs n o lm B (pa128 (seg B (off - o) (n + 1)) (n + 1) (k0 + 1)) (((n + 1) + 1 + zn128 ((n + 1) + 1)) + (k0 + 1)) (ival 15 (k0 + 1))))))) ∧ (AV.bool (decide ((ival 15 16) ≥ 0))) = (AV.bool false) ∧ (AV.sl 2 0 0 (((n + 1) + 1 + zn128 ((n + 1) + 1)) + 16) 1 none) = (AV.sl 2 0 0 ((n + 1) + 1 + zn128 ((n + 1) + 1) + 16) 1 none) ∧ ((AV.sl 2 0 0 ((n + 1) + 1 + zn128 ((n + 1) + 1) + 16) 1 none) = (AV.sl 2 0 0 ((n + 1) + 1 + zn128 ((n + 1) + 1) + 16) 1 none) ∧ ([(⟨(.agg [(.sl 1 off bs (n + 1) 1 lm)]), .own, false⟩ : Blk), ⟨(.at o (.nums .u8 B)), .ro, false⟩, ⟨(.nums .u8 (pa128 (seg B (off - o) (n + 1)) (n + 1) 16)), .grow, false⟩] : Mem) = [(⟨(.agg [(.sl 1 off bs (n + 1) 1 lm)]), .own, false⟩ : Blk), ⟨(.at o (.nums .u8 B)), .ro, false⟩, ⟨(.nums .u8 (pad128 (seg B (off - o) (n + 1)) (n + 1))), .grow, false⟩])) else False)) := by kernel_rfl
set_option maxHeartbeats 4000000 in
set_option maxRecDepth 100000 in
theorem pad128r1_ok {off bs n o : Nat} {lm : Option Nat} {B : List Int} (hyp : o ≤ off ∧ off - o + (n + 1) ≤ B.length ∧ n < 1000000) : ∃ D H N, specW Try.prog D (cH9 Try.prog) H N 47 [(.sl 0 0 0 1 1 none), (.int .i64 128), (.int .i64 16)] [(⟨(.agg [(.sl 1 off bs (n + 1) 1 lm)]), .own, false⟩ : Blk), ⟨(.at o (.nums .u8 B)), .ro, false⟩] fun v M => v = (.sl 2 0 0 ((n + 1) + 1 + zn128 ((n + 1) + 1) + 16) 1 none) ∧ M = [(⟨(.agg [(.sl 1 off bs (n + 1) 1 lm)]), .own, false⟩ : Blk), ⟨(.at o (.nums .u8 B)), .ro, false⟩, ⟨(.nums .u8 (pad128 (seg B (off - o) (n + 1)) (n + 1))), .grow, false⟩] := by
  have hlen : (seg B (off - o) (n + 1)).length = n + 1 := seg_len (by omega)
  have hn : n < 1000000 := hyp.2.2
  exact ⟨d_pad64A, _, 1000, Eq.mpr (run_pad128r1 off bs n o lm B) ⟨⟨hyp.1, hyp.2.1, hyp.2.2⟩, (aI (u_cv (by omega))), (aI (u_mul (a := (n + 1)) (b := 8) (by omega))), (app_grow (n := 1) rfl (by simp only [List.length_append, List.length_cons, List.length_nil, pz128_len, pa128_len hlen, hlen]; try omega) rfl (src_nums (off := 0) (n := 1) (l := [128]) rfl (Nat.le_refl 1)) (rm2 (by have := zn128_128 ((n + 1) + 1); omega))), (bifT (blt_ok (Nat.lt_trans (zn128_128 _) (by decide))) ⟨rfl, fun k0 hk0 => ⟨rfl, (aB (i_ne (b := 112) (zn128_lt hk0))), (app_grow (n := 1) rfl (by simp only [List.length_append, List.length_cons, List.length_nil, pz128_len, pa128_len hlen, hlen]; try omega) rfl (src_nums (off := 0) (n := 1) (l := [0]) rfl (Nat.le_refl 1)) (rm2 (by have := zn128_128 ((n + 1) + 1); omega))), rfl⟩, rfl, (aB (i_nen (b := 112) (zn128_end _))), rfl, fun k0 hk0 => ⟨(aB (ival_ge (by omega))), ⟨fun hb0 => have hq := ival_lto hb0; ⟨(aI (ival_eq (by omega))), (aI (i_mul (a := 8) (b := (15 - k0)) (by omega))), (aI (lenb_min (n := (n + 1) * 8) (by omega))), (aI (pb128_hi (by omega)).symm), (app_pa128 k0 rfl (by simp only [List.length_append, List.length_cons, List.length_nil, pz128_len, pa128_len hlen, hlen]; try omega) rfl (src_nums (off := 0) (n := 1) (l := [(pb128 (n + 1) k0)]) rfl (Nat.le_refl 1)) rfl (rm2 (by have := zn128_128 ((n + 1) + 1); omega))), (aI (ival_s (by decide) (by omega))), rfl⟩, fun hb0 => have hq := ival_geo hb0; ⟨(aI (pb128_lo (by omega)).symm), (app_pa128 k0 rfl (by simp only [List.length_append, List.length_cons, List.length_nil, pz128_len, pa128_len hlen, hlen]; try omega) rfl (src_nums (off := 0) (n := 1) (l := [(pb128 (n + 1) k0)]) rfl (Nat.le_refl 1)) rfl (rm2 (by have := zn128_128 ((n + 1) + 1); omega))), (aI (ival_s (by decide) (by omega))), rfl⟩⟩⟩, (aB (ival_gen (by decide))), rfl, ⟨rfl, rfl⟩⟩)⟩⟩
theorem pad128r_ok {off bs n o : Nat} {lm : Option Nat} {B : List Int} (hyp : o ≤ off ∧ off - o + n ≤ B.length ∧ n < 1000001) : ∃ D H N, specW Try.prog D (cH9 Try.prog) H N 47 [(.sl 0 0 0 1 1 none), .int .i64 128, .int .i64 16] [(⟨(.agg [(.sl 1 off bs n 1 lm)]), .own, false⟩ : Blk), ⟨(.at o (.nums .u8 B)), .ro, false⟩] fun v M => v = (.sl 2 0 0 (n + 1 + zn128 (n + 1) + 16) 1 none) ∧ M = [(⟨(.agg [(.sl 1 off bs n 1 lm)]), .own, false⟩ : Blk), ⟨(.at o (.nums .u8 B)), .ro, false⟩, ⟨(.nums .u8 (pad128 (seg B (off - o) n) n)), .grow, false⟩] := by
  cases n with
  | zero => exact pad128r0_ok ⟨hyp.1, hyp.2.1⟩
  | succ n => exact pad128r1_ok ⟨hyp.1, hyp.2.1, by have := hyp.2.2; omega⟩
def s_pad64 (x : AV) (M : Mem) : Option (Option Prop × AV × Mem) := match x, M with
  | .nilsl, [] => some (none, (.sl 0 0 0 (0 + 1 + zn64 (0 + 1) + 8) 1 none), [(⟨(.nums .u8 (pad64 ([] : List Int) 0)), .grow, false⟩ : Blk)])
  | (.sl 0 0 0 1 1 none), [⟨(.agg [.nilsl]), .own, false⟩] => some (none, (.sl 1 0 0 (0 + 1 + zn64 (0 + 1) + 8) 1 none), [(⟨(.agg [.nilsl]), .own, false⟩ : Blk), ⟨(.nums .u8 (pad64 ([] : List Int) 0)), .grow, false⟩])
  | (.sl 0 0 0 1 1 none), [⟨(.agg [(.sl 1 off bs n 1 lm)]), .own, false⟩, ⟨(.at o (.nums .u8 B)), .ro, false⟩] => some (some (o ≤ off ∧ off - o + n ≤ B.length ∧ n < 1000001), (.sl 2 0 0 (n + 1 + zn64 (n + 1) + 8) 1 none), [(⟨(.agg [(.sl 1 off bs n 1 lm)]), .own, false⟩ : Blk), ⟨(.at o (.nums .u8 B)), .ro, false⟩, ⟨(.nums .u8 (pad64 (seg B (off - o) n) n)), .grow, false⟩])
  | _, _ => none
def s_pad128 (x : AV) (M : Mem) : Option (Option Prop × AV × Mem) := match x, M with
  | .nilsl, [] => some (none, (.sl 0 0 0 (0 + 1 + zn128 (0 + 1) + 16) 1 none), [(⟨(.nums .u8 (pad128 ([] : List Int) 0)), .grow, false⟩ : Blk)])
  | (.sl 0 0 0 1 1 none), [⟨(.agg [.nilsl]), .own, false⟩] => some (none, (.sl 1 0 0 (0 + 1 + zn128 (0 + 1) + 16) 1 none), [(⟨(.agg [.nilsl]), .own, false⟩ : Blk), ⟨(.nums .u8 (pad128 ([] : List Int) 0)), .grow, false⟩])
  | (.sl 0 0 0 1 1 none), [⟨(.agg [(.sl 1 off bs n 1 lm)]), .own, false⟩, ⟨(.at o (.nums .u8 B)), .ro, false⟩] => some (some (o ≤ off ∧ off - o + n ≤ B.length ∧ n < 1000001), (.sl 2 0 0 (n + 1 + zn128 (n + 1) + 16) 1 none), [(⟨(.agg [(.sl 1 off bs n 1 lm)]), .own, false⟩ : Blk), ⟨(.at o (.nums .u8 B)), .ro, false⟩, ⟨(.nums .u8 (pad128 (seg B (off - o) n) n)), .grow, false⟩])
  | _, _ => none
def s_pad : Spec := fun a M => match a with
  | [x, .int .i64 (.ofNat bl), .int .i64 (.ofNat il)] => bif Nat.beq bl 64 && Nat.beq il 8 then s_pad64 x M else bif Nat.beq bl 128 && Nat.beq il 16 then s_pad128 x M else none
  | _ => none
theorem s_pad64_ok (x : AV) (M : Mem) (q : Option Prop) (v : AV) (M' : Mem) (h : s_pad64 x M = some (q, v, M')) (hq : holds q) : ∃ D H N, specW Try.prog D (cH9 Try.prog) H N 47 [x, .int .i64 64, .int .i64 8] M fun v2 M2 => v2 = v ∧ M2 = M' := by
  unfold s_pad64 at h
  split at h
  · simp only [Option.some.injEq, Prod.mk.injEq] at h
    obtain ⟨rfl, rfl, rfl⟩ := h
    exact pad64A_ok 
  · simp only [Option.some.injEq, Prod.mk.injEq] at h
    obtain ⟨rfl, rfl, rfl⟩ := h
    exact pad64B_ok 
  · simp only [Option.some.injEq, Prod.mk.injEq] at h
    obtain ⟨rfl, rfl, rfl⟩ := h
    exact pad64r_ok hq
  · cases h
theorem s_pad128_ok (x : AV) (M : Mem) (q : Option Prop) (v : AV) (M' : Mem) (h : s_pad128 x M = some (q, v, M')) (hq : holds q) : ∃ D H N, specW Try.prog D (cH9 Try.prog) H N 47 [x, .int .i64 128, .int .i64 16] M fun v2 M2 => v2 = v ∧ M2 = M' := by
  unfold s_pad128 at h
  split at h
  · simp only [Option.some.injEq, Prod.mk.injEq] at h
    obtain ⟨rfl, rfl, rfl⟩ := h
    exact pad128A_ok 
  · simp only [Option.some.injEq, Prod.mk.injEq] at h
    obtain ⟨rfl, rfl, rfl⟩ := h
    exact pad128B_ok 
  · simp only [Option.some.injEq, Prod.mk.injEq] at h
    obtain ⟨rfl, rfl, rfl⟩ := h
    exact pad128r_ok hq
  · cases h
def cH10 (P : Program) : OrcP := addS (cH9 P) 47 s_pad
theorem cH10_ok : OrcPOK Try.prog (cH10 Try.prog) := by
  unfold cH10
  refine addS_ok mixed cH9_ok cH9_ok ?_
  intro a M q v M' h hq
  unfold s_pad at h
  split at h
  · rename_i x bl il
    cases h1 : (Nat.beq bl 64 && Nat.beq il 8) with
    | true =>
      rw [h1, cond_true] at h
      simp only [Bool.and_eq_true] at h1
      obtain rfl := Nat.eq_of_beq_eq_true h1.1
      obtain rfl := Nat.eq_of_beq_eq_true h1.2
      exact s_pad64_ok x M q v M' h hq
    | false =>
      rw [h1, cond_false] at h
      cases h2 : (Nat.beq bl 128 && Nat.beq il 16) with
      | true =>
        rw [h2, cond_true] at h
        simp only [Bool.and_eq_true] at h2
        obtain rfl := Nat.eq_of_beq_eq_true h2.1
        obtain rfl := Nat.eq_of_beq_eq_true h2.2
        exact s_pad128_ok x M q v M' h hq
      | false => rw [h2] at h; cases h
  · cases h
end Go.Proofs.Ytkeieikhmaeiiaa
