/- field's powers. No condition. -/
import Derived.Test.YtfknmccjfolhpaaFi2
namespace Go.Proofs.Ytfknmccjfolhpaa
open Go Go.RowKit

/-- k rounds of a power by bits, from the highest on, as the program reckons it. -/
def powX (x e : Nat) : Nat → Nat
  | 0 => 1
  | k + 1 => bif e / 2 ^ (255 - k) % 2 == 1 then fMul (fMul (powX x e k) (powX x e k)) x else fMul (powX x e k) (powX x e k)
theorem fMul_lt {x y : Nat} (hx : x < 115792089237316195423570985008687907853269984665640564039457584007913129639936) (hy : y < 115792089237316195423570985008687907853269984665640564039457584007913129639936) : fMul x y < 115792089237316195423570985008687907853269984665640564039457584007913129639936 := by
  have h1 : x * y < 115792089237316195423570985008687907853269984665640564039457584007913129639936 * 115792089237316195423570985008687907853269984665640564039457584007913129639936 := Nat.mul_lt_mul'' hx hy
  unfold fMul fFold upN
  generalize x * y = p at *
  omega
theorem powX_lt {x e : Nat} (hx : x < 115792089237316195423570985008687907853269984665640564039457584007913129639936) : ∀ k, powX x e k < 115792089237316195423570985008687907853269984665640564039457584007913129639936
  | 0 => by show 1 < 115792089237316195423570985008687907853269984665640564039457584007913129639936; decide
  | k + 1 => by
    have ih := powX_lt (e := e) hx k
    simp only [powX]
    cases e / 2 ^ (255 - k) % 2 == 1 with
    | true => exact fMul_lt (fMul_lt ih ih) hx
    | false => exact fMul_lt ih ih
theorem bit_ok {m : List Int} (h : Ws 4 m) {k : Nat} (hk : k < 256) : (IntKind.u64.wrap ((BitVec.ofInt 64 (Int.fdiv (m.getD (0 + ((255 - k) / 64) * 1) 0) (2 ^ (Nat.min ((255 - k) % 64) 64))) &&& BitVec.ofInt 64 (1 : Int)).toNat) == 1) = (Wv m / 2 ^ (255 - k) % 2 == 1) := by
  rw [Nat.zero_add, Nat.mul_one]
  obtain ⟨e1, e2⟩ := Ws_get h (show (255 - k) / 64 < 4 by omega)
  have e3 := Wv_bit (j := (255 - k) / 64) (m := (255 - k) % 64) h.2 (by rw [h.1]; omega) (by omega)
  rw [show 64 * ((255 - k) / 64) + (255 - k) % 64 = 255 - k by omega] at e3
  rw [e3]
  generalize m.getD ((255 - k) / 64) 0 = z at *
  generalize z.toNat = y at *
  subst e1
  have h1 : Int.fdiv (Int.ofNat y) (2 ^ (Nat.min ((255 - k) % 64) 64)) = Int.ofNat (y / 2 ^ ((255 - k) % 64)) := shr_eq (by omega)
  rw [h1]
  have h2 : IntKind.u64.wrap ((BitVec.ofInt 64 (Int.ofNat (y / 2 ^ ((255 - k) % 64))) &&& BitVec.ofInt 64 (1 : Int)).toNat) = Int.ofNat (y / 2 ^ ((255 - k) % 64) % 2) := and_one (Nat.lt_of_le_of_lt (Nat.div_le_self _ _) e2)
  rw [h2]
  generalize y / 2 ^ ((255 - k) % 64) = t
  rcases Nat.mod_two_eq_zero_or_one t with h | h <;> rw [h] <;> rfl
theorem down_ge {n k : Nat} (h : k ≤ n) : decide (((n : Int) - Int.ofNat k) ≥ 0) = true := decide_eq_true (by simp only [Int.ofNat_eq_natCast]; omega)
theorem down_dec {k : Nat} (h : k < 256) : IntKind.i64.wrap ((255 - Int.ofNat k) - 1) = 255 - Int.ofNat (k + 1) := by
  rw [IntKind.wrap_i64]; simp only [Int.ofNat_eq_natCast]; omega
theorem down_nat {k : Nat} (h : k < 256) : (255 - Int.ofNat k) = Int.ofNat (255 - k) := by simp only [Int.ofNat_eq_natCast]; omega
theorem down_quo {k : Nat} (h : k < 256) : IntKind.i64.wrap (Int.tdiv (255 - Int.ofNat k) 64) = Int.ofNat ((255 - k) / 64) := by
  rw [down_nat h]
  show IntKind.i64.wrap (Int.ofNat ((255 - k) / 64)) = _
  exact i64_small _ (by omega)
theorem down_rem {k : Nat} (h : k < 256) : Int.tmod (255 - Int.ofNat k) 64 = Int.ofNat ((255 - k) % 64) := by
  rw [down_nat h]; rfl

def x_powf (l m : List Int) (X : List Int) (k : Nat) : St := ⟨[.junk, .junk, (.ptr 0 0), (.ptr 1 0), (.ptr 2 0), (.ptr 3 0), (.fn 82 [(.ptr 3 0)] []), (.fn 83 [(.ptr 3 0)] []), (.int .i64 (255 - (Int.ofNat k))), .junk, .junk, .junk, .junk, .junk, .junk, .junk, .junk, .junk, .junk, .junk, .junk, .junk, .junk, .junk, .junk, .junk, .junk, .junk, .junk, .junk, .junk], [⟨(.nums .u64 l), .own, false⟩, ⟨(.nums .u64 m), .own, false⟩, ⟨(.nums .u64 [0, 0, 0, 0]), .own, false⟩, ⟨(.nums .u64 X), .own, true⟩]⟩
def h_powf (l m : List Int) : Hints := ⟨fun it t => match t with
  | 13 => (match (bif eqIt [none] it then some (.val (.bool false)) else none : Option VH), it with | some v, _ => some v | none, [some k0] => some (.val (.bool true)) | _, _ => none)
  | 19 => (match it with | [some k0] => some (.val (.int .i64 (Int.ofNat ((255 - k0) / 64)))) | _ => none)
  | 20 => (match it with | [some k0] => some .ask | _ => none)
  | 21 => (match it with | [some k0] => some .ask | _ => none)
  | 23 => (match it with | [some k0] => some (.val (.int .i64 (Int.ofNat ((255 - k0) % 64)))) | _ => none)
  | 26 => (match it with | [some k0] => some (.val (.bool (Wv m / 2 ^ (255 - k0) % 2 == 1))) | _ => none)
  | 200026 => (match it with | [some k0] => some .ask | _ => none)
  | 28 => (match it with | [some k0] => some .ask | _ => none)
  | 15 => (match it with | [some k0] => some (.val (.int .i64 (255 - (Int.ofNat (k0 + 1))))) | _ => none)
  | 30 => bif eqIt [] it then some .ask else none
  | 100004 => bif eqIt [] it then some .ask else none
  | _ => none, fun it id => match id, it with
  | 0, [] => some ⟨256, true, fun kk => x_powf l m (W4 (powX (Wv l) (Wv m) kk)) kk⟩
  | _, _ => none⟩
def d_powf : Nat → Option (List Nat) := fun n => match n with
  | 0 => some [0, 1, 9, 10, 11, 12, 13, 14, 15, 16, 17, 18, 19, 20, 21, 22, 23, 24, 25, 26, 27, 28, 29, 30]
  | _ => none
theorem run_powf (l m : List Int) : specW Try.prog d_powf (cF6 Try.prog) (h_powf l m) 1000 77 [(.nums .u64 l), (.nums .u64 m)] [] (fun v M => v = (.nums .u64 (W4 (powX (Wv l) (Wv m) 256))) ∧ M = []) =
  (x_powf l m [1, 0, 0, 0] 0 = x_powf l m (W4 (powX (Wv l) (Wv m) 0)) 0 ∧ (∀ k0, k0 < 256 → ((AV.bool (decide ((255 - (Int.ofNat k0)) ≥ 0))) = (AV.bool true) ∧ (Ws 4 (W4 (powX (Wv l) (Wv m) k0))) ∧ (AV.int .i64 (IntKind.i64.wrap (Int.tdiv (255 - (Int.ofNat k0)) 64))) = (AV.int .i64 (Int.ofNat ((255 - k0) / 64))) ∧ (inR (Int.ofNat ((255 - k0) / 64)) 4 = some ((255 - k0) / 64)) ∧ ((0 + ((255 - k0) / 64) * 1) < m.length) ∧ (AV.int .i64 (Int.tmod (255 - (Int.ofNat k0)) 64)) = (AV.int .i64 (Int.ofNat ((255 - k0) % 64))) ∧ (AV.bool ((IntKind.u64.wrap ((BitVec.ofInt 64 (Int.fdiv (m.getD (0 + ((255 - k0) / 64) * 1) 0) (2 ^ (Nat.min ((255 - k0) % 64) 64))) &&& BitVec.ofInt 64 (1 : Int)).toNat)) == 1)) = (AV.bool (Wv m / 2 ^ (255 - k0) % 2 == 1)) ∧ (((Wv m / 2 ^ (255 - k0) % 2 == 1) = true → ((0 = 0 ∧ l.length = 4) ∧ (Ws 4 (W4 (fMul (Wv (W4 (powX (Wv l) (Wv m) k0))) (Wv (W4 (powX (Wv l) (Wv m) k0))))) ∧ Ws 4 l) ∧ (AV.int .i64 (IntKind.i64.wrap ((255 - (Int.ofNat k0)) - (1 : Int)))) = (AV.int .i64 (255 - (Int.ofNat (k0 + 1)))) ∧ x_powf l m (W4 (fMul (Wv (W4 (fMul (Wv (W4 (powX (Wv l) (Wv m) k0))) (Wv (W4 (powX (Wv l) (Wv m) k0)))))) (Wv l))) (k0 + 1) = x_powf l m (W4 (powX (Wv l) (Wv m) (k0 + 1))) (k0 + 1))) ∧ ((Wv m / 2 ^ (255 - k0) % 2 == 1) = false → ((AV.int .i64 (IntKind.i64.wrap ((255 - (Int.ofNat k0)) - (1 : Int)))) = (AV.int .i64 (255 - (Int.ofNat (k0 + 1)))) ∧ x_powf l m (W4 (fMul (Wv (W4 (powX (Wv l) (Wv m) k0))) (Wv (W4 (powX (Wv l) (Wv m) k0))))) (k0 + 1) = x_powf l m (W4 (powX (Wv l) (Wv m) (k0 + 1))) (k0 + 1)))))) ∧ (AV.bool (decide ((255 - (Int.ofNat 256)) ≥ 0))) = (AV.bool false) ∧ (0 = 0 ∧ (W4 (powX (Wv l) (Wv m) 256)).length = 4) ∧ (IntKind.u64 = IntKind.u64 ∧ 0 = 0 ∧ (W4 (powX (Wv l) (Wv m) 256)).length = 4 ∧ ([0, 0, 0, 0] : List Int).length = 4) ∧ ((AV.nums .u64 (W4 (powX (Wv l) (Wv m) 256))) = (AV.nums .u64 (W4 (powX (Wv l) (Wv m) 256))) ∧ ([] : Mem) = [])) := by kernel_rfl
theorem powf_ok {l m : List Int} (hyp : Ws 4 l ∧ Ws 4 m) : ∃ D H N, specW Try.prog D (cF6 Try.prog) H N 77 [(.nums .u64 l), (.nums .u64 m)] [] fun v M => v = (.nums .u64 (W4 (powX (Wv l) (Wv m) 256))) ∧ M = [] := by
  obtain ⟨hl, hm⟩ := hyp
  have hX : ∀ k, Wv (W4 (powX (Wv l) (Wv m) k)) = powX (Wv l) (Wv m) k := fun k => by
    rw [Wv_W4]; exact Nat.mod_eq_of_lt (powX_lt (Ws4_lt hl) k)
  refine ⟨d_powf, _, 1000, Eq.mpr (run_powf l m) ⟨?_, fun k0 hk0 => ⟨(aB (down_ge (n := 255) (by omega))), Ws_W4 _, (aI (down_quo hk0)), (inR_ok (by omega)), (by rw [hm.1]; omega), (aI (down_rem hk0)), (aB (bit_ok hm hk0)), ⟨fun hb => ⟨⟨rfl, hl.1⟩, ⟨Ws_W4 _, hl⟩, (aI (down_dec hk0)), ?_⟩, fun hb => ⟨(aI (down_dec hk0)), ?_⟩⟩⟩, rfl, ⟨rfl, rfl⟩, ⟨rfl, rfl, rfl, rfl⟩, ⟨rfl, rfl⟩⟩⟩
  · refine congrArg (fun X => x_powf l m X 0) ?_
    show [1, 0, 0, 0] = W4 1
    decide
  · refine congrArg (fun X => x_powf l m X (k0 + 1)) (congrArg W4 ?_)
    simp only [powX, hb, cond_true, hX, Wv_W4, Nat.mod_eq_of_lt (fMul_lt (powX_lt (Ws4_lt hl) k0) (powX_lt (Ws4_lt hl) k0))]
  · refine congrArg (fun X => x_powf l m X (k0 + 1)) (congrArg W4 ?_)
    simp only [powX, hb, cond_false, hX]
def s_powf : Spec := fun a M => match a, M with
  | [.nums .u64 l, .nums .u64 m], [] => some (some (Ws 4 l ∧ Ws 4 m), .nums .u64 (W4 (powX (Wv l) (Wv m) 256)), [])
  | _, _ => none
def cF7 (P : Program) : OrcP := addS (cF6 P) 77 s_powf
theorem cF7_ok : OrcPOK Try.prog (cF7 Try.prog) := by
  unfold cF7
  refine (addS_ok mixed cF6_ok cF6_ok ?_)
  · intro a M q v M' h hq
    unfold s_powf at h
    split at h
    · simp only [Option.some.injEq, Prod.mk.injEq] at h
      obtain ⟨rfl, rfl, rfl⟩ := h
      exact powf_ok hq
    · cases h
end Go.Proofs.Ytfknmccjfolhpaa
