/- field's sums, differences, products. No condition. -/
import Derived.Test.YtfknmccjfolhpaaFi1
namespace Go.Proofs.Ytfknmccjfolhpaa
open Go Go.RowKit

def s_numf : Spec := fun a M => match a, M with
  | [.nums .u64 l], [] => some (some (Ws 4 l), .nums .u8 (B32 (Wv l % 57896044618658097711785492504343953926634992332820282019728792003956564819949)), [])
  | _, _ => none
def cF3 (P : Program) : OrcP := addS (cF2 P) 60 s_numf
theorem cF3_ok : OrcPOK Try.prog (cF3 Try.prog) := by
  unfold cF3
  refine (addS_ok mixed cF2_ok cF2_ok ?_)
  · intro a M q v M' h hq
    unfold s_numf at h
    split at h
    · simp only [Option.some.injEq, Prod.mk.injEq] at h
      obtain ⟨rfl, rfl, rfl⟩ := h
      exact numf_ok hq
    · cases h
theorem Wv4 (a b c d : Nat) : Wv [Int.ofNat a, Int.ofNat b, Int.ofNat c, Int.ofNat d] = V4 a b c d := by
  have tn : ∀ n : Nat, (Int.ofNat n).toNat = n := fun _ => rfl
  simp only [Wv, V4, tn]; omega
theorem W4_inj {a b c d n : Nat} (h : [Int.ofNat a, Int.ofNat b, Int.ofNat c, Int.ofNat d] = W4 n) : V4 a b c d = n % 115792089237316195423570985008687907853269984665640564039457584007913129639936 := by
  rw [← Wv4, h, Wv_W4]
def fPlus (x y : Nat) : Nat := upN ((x + y) % 115792089237316195423570985008687907853269984665640564039457584007913129639936) (38 * ((x + y) / 115792089237316195423570985008687907853269984665640564039457584007913129639936))
def fLess (x y : Nat) : Nat := fPlus x (57896044618658097711785492504343953926634992332820282019728792003956564819949 - y % 57896044618658097711785492504343953926634992332820282019728792003956564819949)
def fFold (p : Nat) : Nat := p % 115792089237316195423570985008687907853269984665640564039457584007913129639936 + 38 * (p / 115792089237316195423570985008687907853269984665640564039457584007913129639936)
def fMul (x y : Nat) : Nat := upN (fFold (x * y) % 115792089237316195423570985008687907853269984665640564039457584007913129639936) (38 * (fFold (x * y) / 115792089237316195423570985008687907853269984665640564039457584007913129639936))
theorem upN_lt {x n : Nat} (hx : x < 115792089237316195423570985008687907853269984665640564039457584007913129639936) (hn : n < 4294967296) : upN x n < 115792089237316195423570985008687907853269984665640564039457584007913129639936 := by unfold upN; omega
theorem Ws4_lt {l : List Int} (h : Ws 4 l) : Wv l < 115792089237316195423570985008687907853269984665640564039457584007913129639936 := by
  obtain ⟨a, b, c, d, rfl, h2, h3⟩ := Ws4_cases h
  rw [h3]; exact V4_lt h2
def h_pluse (a0 a1 a2 a3 b0 b1 b2 b3 : Nat) : Hints := ⟨fun it t => match t with
  | 19 => lkH [([some 1], .ask), ([some 2], .ask), ([some 3], .ask)] it
  | 26 => bif eqIt [] it then some (.val (.int .u64 (Int.ofNat (38 * (ac a3 b3 (ac a2 b2 (ac a1 b1 (ac a0 b0 0)))))))) else none
  | _ => none, fun it id => match id, it with
  | _, _ => none⟩
theorem run_pluse (a0 a1 a2 a3 b0 b1 b2 b3 : Nat) : specW Try.prog noD (cF3 Try.prog) (h_pluse a0 a1 a2 a3 b0 b1 b2 b3) 1000 59 [(.nums .u64 [(Int.ofNat a0), (Int.ofNat a1), (Int.ofNat a2), (Int.ofNat a3)]), (.nums .u64 [(Int.ofNat b0), (Int.ofNat b1), (Int.ofNat b2), (Int.ofNat b3)])] [] (fun v M => v = (.nums .u64 (W4 (fPlus (V4 a0 a1 a2 a3) (V4 b0 b1 b2 b3)))) ∧ M = []) =
  (((ac a0 b0 0) ≤ 1) ∧ ((ac a1 b1 (ac a0 b0 0)) ≤ 1) ∧ ((ac a2 b2 (ac a1 b1 (ac a0 b0 0))) ≤ 1) ∧ (AV.int .u64 (IntKind.u64.wrap ((38 : Int) * (Int.ofNat (ac a3 b3 (ac a2 b2 (ac a1 b1 (ac a0 b0 0)))))))) = (AV.int .u64 (Int.ofNat (38 * (ac a3 b3 (ac a2 b2 (ac a1 b1 (ac a0 b0 0))))))) ∧ ((In4 (ab a0 b0 0) (ab a1 b1 (ac a0 b0 0)) (ab a2 b2 (ac a1 b1 (ac a0 b0 0))) (ab a3 b3 (ac a2 b2 (ac a1 b1 (ac a0 b0 0))))) ∧ (38 * (ac a3 b3 (ac a2 b2 (ac a1 b1 (ac a0 b0 0))))) < 4294967296) ∧ ((AV.nums .u64 (W4 (upN (V4 (ab a0 b0 0) (ab a1 b1 (ac a0 b0 0)) (ab a2 b2 (ac a1 b1 (ac a0 b0 0))) (ab a3 b3 (ac a2 b2 (ac a1 b1 (ac a0 b0 0))))) (38 * (ac a3 b3 (ac a2 b2 (ac a1 b1 (ac a0 b0 0)))))))) = (AV.nums .u64 (W4 (fPlus (V4 a0 a1 a2 a3) (V4 b0 b1 b2 b3)))) ∧ ([] : Mem) = [])) := by kernel_rfl
theorem pluse_ok {a0 a1 a2 a3 b0 b1 b2 b3 : Nat} (hyp : In4 a0 a1 a2 a3 ∧ In4 b0 b1 b2 b3) : ∃ D H N, specW Try.prog D (cF3 Try.prog) H N 59 [(.nums .u64 [(Int.ofNat a0), (Int.ofNat a1), (Int.ofNat a2), (Int.ofNat a3)]), (.nums .u64 [(Int.ofNat b0), (Int.ofNat b1), (Int.ofNat b2), (Int.ofNat b3)])] [] fun v M => v = (.nums .u64 (W4 (fPlus (V4 a0 a1 a2 a3) (V4 b0 b1 b2 b3)))) ∧ M = [] := by
  obtain ⟨ha, hb⟩ := hyp
  obtain ⟨e1, e2, c1, c2, c3⟩ := add_words ha hb
  have hA := V4_lt ha
  have hB := V4_lt hb
  have i0 := ab_eq ha.1 hb.1 (show 0 ≤ 1 by omega)
  have i1 := ab_eq ha.2.1 hb.2.1 c1
  have i2 := ab_eq ha.2.2.1 hb.2.2.1 c2
  have i3 := ab_eq ha.2.2.2 hb.2.2.2 c3
  have hin : In4 (ab a0 b0 0) (ab a1 b1 (ac a0 b0 0)) (ab a2 b2 (ac a1 b1 (ac a0 b0 0))) (ab a3 b3 (ac a2 b2 (ac a1 b1 (ac a0 b0 0)))) := ⟨i0.2.1, i1.2.1, i2.2.1, i3.2.1⟩
  have hv := W4_inj e1
  have c4 := i3.2.2
  refine ⟨noD, _, 1000, Eq.mpr (run_pluse a0 a1 a2 a3 b0 b1 b2 b3) ⟨c1, c2, c3, (aI (m38 (by omega))), ⟨hin, (by omega)⟩, ⟨?_, rfl⟩⟩⟩
  · rw [hv, e2]; rfl
def s_plusf : Spec := fun a M => match a, M with
  | [.nums .u64 l, .nums .u64 m], [] => some (some (Ws 4 l ∧ Ws 4 m), .nums .u64 (W4 (fPlus (Wv l) (Wv m))), [])
  | _, _ => none
theorem plusf_ok {l m : List Int} (h : Ws 4 l ∧ Ws 4 m) : ∃ D H N, specW Try.prog D (cF3 Try.prog) H N 59 [.nums .u64 l, .nums .u64 m] [] fun v M => v = .nums .u64 (W4 (fPlus (Wv l) (Wv m))) ∧ M = [] := by
  obtain ⟨a0, a1, a2, a3, rfl, ha, ea⟩ := Ws4_cases h.1
  obtain ⟨b0, b1, b2, b3, rfl, hb, eb⟩ := Ws4_cases h.2
  rw [ea, eb]
  exact pluse_ok ⟨ha, hb⟩
def cF4 (P : Program) : OrcP := addS (cF3 P) 59 s_plusf
theorem cF4_ok : OrcPOK Try.prog (cF4 Try.prog) := by
  unfold cF4
  refine (addS_ok mixed cF3_ok cF3_ok ?_)
  · intro a M q v M' h hq
    unfold s_plusf at h
    split at h
    · simp only [Option.some.injEq, Prod.mk.injEq] at h
      obtain ⟨rfl, rfl, rfl⟩ := h
      exact plusf_ok hq
    · cases h
def h_lessf (l m : List Int) : Hints := ⟨fun it t => match t with
  | 9 => bif eqIt [] it then some .ask else none
  | 14 => bif eqIt [] it then some .ask else none
  | _ => none, fun it id => match id, it with
  | _, _ => none⟩
theorem run_lessf (l m : List Int) : specW Try.prog noD (cF4 Try.prog) (h_lessf l m) 1000 62 [(.nums .u64 l), (.nums .u64 m)] [] (fun v M => v = (.nums .u64 (W4 (fLess (Wv l) (Wv m)))) ∧ M = []) =
  ((0 = 0 ∧ m.length = 4) ∧ (Ws 4 m) ∧ ((In4 18446744073709551597 18446744073709551615 18446744073709551615 9223372036854775807) ∧ (In4 (w0 (Wv m % 57896044618658097711785492504343953926634992332820282019728792003956564819949)) (w1 (Wv m % 57896044618658097711785492504343953926634992332820282019728792003956564819949)) (w2 (Wv m % 57896044618658097711785492504343953926634992332820282019728792003956564819949)) (w3 (Wv m % 57896044618658097711785492504343953926634992332820282019728792003956564819949)))) ∧ (0 = 0 ∧ l.length = 4) ∧ (Ws 4 l ∧ Ws 4 (W4 ((V4 18446744073709551597 18446744073709551615 18446744073709551615 9223372036854775807) + 115792089237316195423570985008687907853269984665640564039457584007913129639936 - (V4 (w0 (Wv m % 57896044618658097711785492504343953926634992332820282019728792003956564819949)) (w1 (Wv m % 57896044618658097711785492504343953926634992332820282019728792003956564819949)) (w2 (Wv m % 57896044618658097711785492504343953926634992332820282019728792003956564819949)) (w3 (Wv m % 57896044618658097711785492504343953926634992332820282019728792003956564819949)))))) ∧ ((AV.nums .u64 (W4 (fPlus (Wv l) (Wv (W4 ((V4 18446744073709551597 18446744073709551615 18446744073709551615 9223372036854775807) + 115792089237316195423570985008687907853269984665640564039457584007913129639936 - (V4 (w0 (Wv m % 57896044618658097711785492504343953926634992332820282019728792003956564819949)) (w1 (Wv m % 57896044618658097711785492504343953926634992332820282019728792003956564819949)) (w2 (Wv m % 57896044618658097711785492504343953926634992332820282019728792003956564819949)) (w3 (Wv m % 57896044618658097711785492504343953926634992332820282019728792003956564819949))))))))) = (AV.nums .u64 (W4 (fLess (Wv l) (Wv m)))) ∧ ([] : Mem) = [])) := by kernel_rfl
theorem lessf_ok {l m : List Int} (hyp : Ws 4 l ∧ Ws 4 m) : ∃ D H N, specW Try.prog D (cF4 Try.prog) H N 62 [(.nums .u64 l), (.nums .u64 m)] [] fun v M => v = (.nums .u64 (W4 (fLess (Wv l) (Wv m)))) ∧ M = [] := by
  obtain ⟨hl, hm⟩ := hyp
  refine ⟨noD, _, 1000, Eq.mpr (run_lessf l m) ⟨⟨rfl, hm.1⟩, hm, ⟨In4_P, In4_w _⟩, ⟨rfl, hl.1⟩, ⟨hl, Ws_W4 _⟩, ⟨?_, rfl⟩⟩⟩
  rw [Wv_W4, V4_P, V4_mod]
  have : (57896044618658097711785492504343953926634992332820282019728792003956564819949 + 115792089237316195423570985008687907853269984665640564039457584007913129639936 - Wv m % 57896044618658097711785492504343953926634992332820282019728792003956564819949 % 115792089237316195423570985008687907853269984665640564039457584007913129639936) % 115792089237316195423570985008687907853269984665640564039457584007913129639936 = 57896044618658097711785492504343953926634992332820282019728792003956564819949 - Wv m % 57896044618658097711785492504343953926634992332820282019728792003956564819949 := by
    have := Nat.mod_lt (Wv m) (show 57896044618658097711785492504343953926634992332820282019728792003956564819949 > 0 by decide)
    generalize Wv m % 57896044618658097711785492504343953926634992332820282019728792003956564819949 = r at *
    omega
  rw [this]; rfl
def s_lessf : Spec := fun a M => match a, M with
  | [.nums .u64 l, .nums .u64 m], [] => some (some (Ws 4 l ∧ Ws 4 m), .nums .u64 (W4 (fLess (Wv l) (Wv m))), [])
  | _, _ => none
theorem fold_words {l h t0 t1 t2 t3 t4 t5 t6 t7 o0 o1 o2 o3 g0 g1 g2 g3 : Nat} (hl : l < 115792089237316195423570985008687907853269984665640564039457584007913129639936) (el : l = V4 t0 t1 t2 t3) (eh : h = V4 t4 t5 t6 t7) (f0 : t4 * 38 + t0 + 0 = o0 + 18446744073709551616 * g0) (f1 : t5 * 38 + t1 + g0 = o1 + 18446744073709551616 * g1) (f2 : t6 * 38 + t2 + g1 = o2 + 18446744073709551616 * g2) (f3 : t7 * 38 + t3 + g2 = o3 + 18446744073709551616 * g3) : fFold (l + 115792089237316195423570985008687907853269984665640564039457584007913129639936 * h) = V4 o0 o1 o2 o3 + 115792089237316195423570985008687907853269984665640564039457584007913129639936 * g3 := by
  unfold fFold
  rw [Nat.add_mul_mod_self_left, Nat.mod_eq_of_lt hl, Nat.add_mul_div_left _ _ (by decide), Nat.div_eq_of_lt hl, Nat.zero_add, el, eh]
  simp only [V4]; omega
theorem fold_small {l h o g : Nat} (hl : l < 115792089237316195423570985008687907853269984665640564039457584007913129639936) (hh : h < 115792089237316195423570985008687907853269984665640564039457584007913129639936) (e : fFold (l + 115792089237316195423570985008687907853269984665640564039457584007913129639936 * h) = o + 115792089237316195423570985008687907853269984665640564039457584007913129639936 * g) : g ≤ 38 := by
  unfold fFold at e
  rw [Nat.add_mul_mod_self_left, Nat.mod_eq_of_lt hl, Nat.add_mul_div_left _ _ (by decide), Nat.div_eq_of_lt hl, Nat.zero_add] at e
  omega
def h_timese (a0 a1 a2 a3 b0 b1 b2 b3 l00 h00 l01 h01 l02 h02 l03 h03 l10 h10 l11 h11 l12 h12 l13 h13 l20 h20 l21 h21 l22 h22 l23 h23 l30 h30 l31 h31 l32 h32 l33 h33 o0 g0 o1 g1 o2 g2 o3 g3 : Nat) : Hints := ⟨fun it t => match t with
  | 46 => lkH [([some 0, some 0], (.val (.int .u64 (Int.ofNat ((a0 * b0) / 18446744073709551616 + ac ((a0 * b0) % 18446744073709551616) 0 0))))), ([some 1, some 0], (.val (.int .u64 (Int.ofNat ((a0 * b1) / 18446744073709551616 + ac ((a0 * b1) % 18446744073709551616) 0 0))))), ([some 2, some 0], (.val (.int .u64 (Int.ofNat ((a0 * b2) / 18446744073709551616 + ac ((a0 * b2) % 18446744073709551616) 0 0))))), ([some 3, some 0], (.val (.int .u64 (Int.ofNat ((a0 * b3) / 18446744073709551616 + ac ((a0 * b3) % 18446744073709551616) 0 0))))), ([some 0, some 1], (.val (.int .u64 (Int.ofNat ((a1 * b0) / 18446744073709551616 + ac ((a1 * b0) % 18446744073709551616) l01 0))))), ([some 1, some 1], (.val (.int .u64 (Int.ofNat ((a1 * b1) / 18446744073709551616 + ac ((a1 * b1) % 18446744073709551616) l02 0))))), ([some 2, some 1], (.val (.int .u64 (Int.ofNat ((a1 * b2) / 18446744073709551616 + ac ((a1 * b2) % 18446744073709551616) l03 0))))), ([some 3, some 1], (.val (.int .u64 (Int.ofNat ((a1 * b3) / 18446744073709551616 + ac ((a1 * b3) % 18446744073709551616) h03 0))))), ([some 0, some 2], (.val (.int .u64 (Int.ofNat ((a2 * b0) / 18446744073709551616 + ac ((a2 * b0) % 18446744073709551616) l11 0))))), ([some 1, some 2], (.val (.int .u64 (Int.ofNat ((a2 * b1) / 18446744073709551616 + ac ((a2 * b1) % 18446744073709551616) l12 0))))), ([some 2, some 2], (.val (.int .u64 (Int.ofNat ((a2 * b2) / 18446744073709551616 + ac ((a2 * b2) % 18446744073709551616) l13 0))))), ([some 3, some 2], (.val (.int .u64 (Int.ofNat ((a2 * b3) / 18446744073709551616 + ac ((a2 * b3) % 18446744073709551616) h13 0))))), ([some 0, some 3], (.val (.int .u64 (Int.ofNat ((a3 * b0) / 18446744073709551616 + ac ((a3 * b0) % 18446744073709551616) l21 0))))), ([some 1, some 3], (.val (.int .u64 (Int.ofNat ((a3 * b1) / 18446744073709551616 + ac ((a3 * b1) % 18446744073709551616) l22 0))))), ([some 2, some 3], (.val (.int .u64 (Int.ofNat ((a3 * b2) / 18446744073709551616 + ac ((a3 * b2) % 18446744073709551616) l23 0))))), ([some 3, some 3], (.val (.int .u64 (Int.ofNat ((a3 * b3) / 18446744073709551616 + ac ((a3 * b3) % 18446744073709551616) h23 0)))))] it
  | 50 => lkH [([some 0, some 0], (.val (.tup [(.int .u64 (Int.ofNat l00)), (.int .u64 (Int.ofNat (ac (ab ((a0 * b0) % 18446744073709551616) 0 0) 0 0)))]))), ([some 1, some 0], (.val (.tup [(.int .u64 (Int.ofNat l01)), (.int .u64 (Int.ofNat (ac (ab ((a0 * b1) % 18446744073709551616) 0 0) h00 0)))]))), ([some 2, some 0], (.val (.tup [(.int .u64 (Int.ofNat l02)), (.int .u64 (Int.ofNat (ac (ab ((a0 * b2) % 18446744073709551616) 0 0) h01 0)))]))), ([some 3, some 0], (.val (.tup [(.int .u64 (Int.ofNat l03)), (.int .u64 (Int.ofNat (ac (ab ((a0 * b3) % 18446744073709551616) 0 0) h02 0)))]))), ([some 0, some 1], (.val (.tup [(.int .u64 (Int.ofNat l10)), (.int .u64 (Int.ofNat (ac (ab ((a1 * b0) % 18446744073709551616) l01 0) 0 0)))]))), ([some 1, some 1], (.val (.tup [(.int .u64 (Int.ofNat l11)), (.int .u64 (Int.ofNat (ac (ab ((a1 * b1) % 18446744073709551616) l02 0) h10 0)))]))), ([some 2, some 1], (.val (.tup [(.int .u64 (Int.ofNat l12)), (.int .u64 (Int.ofNat (ac (ab ((a1 * b2) % 18446744073709551616) l03 0) h11 0)))]))), ([some 3, some 1], (.val (.tup [(.int .u64 (Int.ofNat l13)), (.int .u64 (Int.ofNat (ac (ab ((a1 * b3) % 18446744073709551616) h03 0) h12 0)))]))), ([some 0, some 2], (.val (.tup [(.int .u64 (Int.ofNat l20)), (.int .u64 (Int.ofNat (ac (ab ((a2 * b0) % 18446744073709551616) l11 0) 0 0)))]))), ([some 1, some 2], (.val (.tup [(.int .u64 (Int.ofNat l21)), (.int .u64 (Int.ofNat (ac (ab ((a2 * b1) % 18446744073709551616) l12 0) h20 0)))]))), ([some 2, some 2], (.val (.tup [(.int .u64 (Int.ofNat l22)), (.int .u64 (Int.ofNat (ac (ab ((a2 * b2) % 18446744073709551616) l13 0) h21 0)))]))), ([some 3, some 2], (.val (.tup [(.int .u64 (Int.ofNat l23)), (.int .u64 (Int.ofNat (ac (ab ((a2 * b3) % 18446744073709551616) h13 0) h22 0)))]))), ([some 0, some 3], (.val (.tup [(.int .u64 (Int.ofNat l30)), (.int .u64 (Int.ofNat (ac (ab ((a3 * b0) % 18446744073709551616) l21 0) 0 0)))]))), ([some 1, some 3], (.val (.tup [(.int .u64 (Int.ofNat l31)), (.int .u64 (Int.ofNat (ac (ab ((a3 * b1) % 18446744073709551616) l22 0) h30 0)))]))), ([some 2, some 3], (.val (.tup [(.int .u64 (Int.ofNat l32)), (.int .u64 (Int.ofNat (ac (ab ((a3 * b2) % 18446744073709551616) l23 0) h31 0)))]))), ([some 3, some 3], (.val (.tup [(.int .u64 (Int.ofNat l33)), (.int .u64 (Int.ofNat (ac (ab ((a3 * b3) % 18446744073709551616) h23 0) h32 0)))])))] it
  | 59 => lkH [([some 0, some 0], (.val (.int .u64 (Int.ofNat h00)))), ([some 1, some 0], (.val (.int .u64 (Int.ofNat h01)))), ([some 2, some 0], (.val (.int .u64 (Int.ofNat h02)))), ([some 3, some 0], (.val (.int .u64 (Int.ofNat h03)))), ([some 0, some 1], (.val (.int .u64 (Int.ofNat h10)))), ([some 1, some 1], (.val (.int .u64 (Int.ofNat h11)))), ([some 2, some 1], (.val (.int .u64 (Int.ofNat h12)))), ([some 3, some 1], (.val (.int .u64 (Int.ofNat h13)))), ([some 0, some 2], (.val (.int .u64 (Int.ofNat h20)))), ([some 1, some 2], (.val (.int .u64 (Int.ofNat h21)))), ([some 2, some 2], (.val (.int .u64 (Int.ofNat h22)))), ([some 3, some 2], (.val (.int .u64 (Int.ofNat h23)))), ([some 0, some 3], (.val (.int .u64 (Int.ofNat h30)))), ([some 1, some 3], (.val (.int .u64 (Int.ofNat h31)))), ([some 2, some 3], (.val (.int .u64 (Int.ofNat h32)))), ([some 3, some 3], (.val (.int .u64 (Int.ofNat h33))))] it
  | 88 => lkH [([some 0], (.val (.int .u64 (Int.ofNat ((l31 * 38) / 18446744073709551616 + ac ((l31 * 38) % 18446744073709551616) l00 0))))), ([some 1], (.val (.int .u64 (Int.ofNat ((l32 * 38) / 18446744073709551616 + ac ((l32 * 38) % 18446744073709551616) l10 0))))), ([some 2], (.val (.int .u64 (Int.ofNat ((l33 * 38) / 18446744073709551616 + ac ((l33 * 38) % 18446744073709551616) l20 0))))), ([some 3], (.val (.int .u64 (Int.ofNat ((h33 * 38) / 18446744073709551616 + ac ((h33 * 38) % 18446744073709551616) l30 0)))))] it
  | 92 => lkH [([some 0], (.val (.tup [(.int .u64 (Int.ofNat o0)), (.int .u64 (Int.ofNat (ac (ab ((l31 * 38) % 18446744073709551616) l00 0) 0 0)))]))), ([some 1], (.val (.tup [(.int .u64 (Int.ofNat o1)), (.int .u64 (Int.ofNat (ac (ab ((l32 * 38) % 18446744073709551616) l10 0) g0 0)))]))), ([some 2], (.val (.tup [(.int .u64 (Int.ofNat o2)), (.int .u64 (Int.ofNat (ac (ab ((l33 * 38) % 18446744073709551616) l20 0) g1 0)))]))), ([some 3], (.val (.tup [(.int .u64 (Int.ofNat o3)), (.int .u64 (Int.ofNat (ac (ab ((h33 * 38) % 18446744073709551616) l30 0) g2 0)))])))] it
  | 99 => lkH [([some 0], (.val (.int .u64 (Int.ofNat g0)))), ([some 1], (.val (.int .u64 (Int.ofNat g1)))), ([some 2], (.val (.int .u64 (Int.ofNat g2)))), ([some 3], (.val (.int .u64 (Int.ofNat g3))))] it
  | 104 => bif eqIt [] it then some (.val (.int .u64 (Int.ofNat (38 * g3)))) else none
  | _ => none, fun it id => match id, it with
  | _, _ => none⟩
theorem run_timese (a0 a1 a2 a3 b0 b1 b2 b3 l00 h00 l01 h01 l02 h02 l03 h03 l10 h10 l11 h11 l12 h12 l13 h13 l20 h20 l21 h21 l22 h22 l23 h23 l30 h30 l31 h31 l32 h32 l33 h33 o0 g0 o1 g1 o2 g2 o3 g3 : Nat) : specW Try.prog noD (cF4 Try.prog) (h_timese a0 a1 a2 a3 b0 b1 b2 b3 l00 h00 l01 h01 l02 h02 l03 h03 l10 h10 l11 h11 l12 h12 l13 h13 l20 h20 l21 h21 l22 h22 l23 h23 l30 h30 l31 h31 l32 h32 l33 h33 o0 g0 o1 g1 o2 g2 o3 g3) 1000 61 [(.nums .u64 [(Int.ofNat a0), (Int.ofNat a1), (Int.ofNat a2), (Int.ofNat a3)]), (.nums .u64 [(Int.ofNat b0), (Int.ofNat b1), (Int.ofNat b2), (Int.ofNat b3)])] [] (fun v M => v = (.nums .u64 (W4 (upN (V4 o0 o1 o2 o3) (38 * g3)))) ∧ M = []) =
  ((a0 < 18446744073709551616 ∧ b0 < 18446744073709551616) ∧ (AV.int .u64 (IntKind.u64.wrap ((Int.ofNat (a0 * b0 / 18446744073709551616)) + (Int.ofNat (ac (a0 * b0 % 18446744073709551616) 0 0))))) = (AV.int .u64 (Int.ofNat ((a0 * b0) / 18446744073709551616 + ac ((a0 * b0) % 18446744073709551616) 0 0))) ∧ (AV.tup [(.int .u64 (Int.ofNat (ab (ab (a0 * b0 % 18446744073709551616) 0 0) 0 0))), (.int .u64 (Int.ofNat (ac (ab (a0 * b0 % 18446744073709551616) 0 0) 0 0)))]) = (AV.tup [(.int .u64 (Int.ofNat l00)), (.int .u64 (Int.ofNat (ac (ab ((a0 * b0) % 18446744073709551616) 0 0) 0 0)))]) ∧ (AV.int .u64 (IntKind.u64.wrap ((Int.ofNat ((a0 * b0) / 18446744073709551616 + ac ((a0 * b0) % 18446744073709551616) 0 0)) + (Int.ofNat (ac (ab ((a0 * b0) % 18446744073709551616) 0 0) 0 0))))) = (AV.int .u64 (Int.ofNat h00)) ∧ (a0 < 18446744073709551616 ∧ b1 < 18446744073709551616) ∧ (AV.int .u64 (IntKind.u64.wrap ((Int.ofNat (a0 * b1 / 18446744073709551616)) + (Int.ofNat (ac (a0 * b1 % 18446744073709551616) 0 0))))) = (AV.int .u64 (Int.ofNat ((a0 * b1) / 18446744073709551616 + ac ((a0 * b1) % 18446744073709551616) 0 0))) ∧ (AV.tup [(.int .u64 (Int.ofNat (ab (ab (a0 * b1 % 18446744073709551616) 0 0) h00 0))), (.int .u64 (Int.ofNat (ac (ab (a0 * b1 % 18446744073709551616) 0 0) h00 0)))]) = (AV.tup [(.int .u64 (Int.ofNat l01)), (.int .u64 (Int.ofNat (ac (ab ((a0 * b1) % 18446744073709551616) 0 0) h00 0)))]) ∧ (AV.int .u64 (IntKind.u64.wrap ((Int.ofNat ((a0 * b1) / 18446744073709551616 + ac ((a0 * b1) % 18446744073709551616) 0 0)) + (Int.ofNat (ac (ab ((a0 * b1) % 18446744073709551616) 0 0) h00 0))))) = (AV.int .u64 (Int.ofNat h01)) ∧ (a0 < 18446744073709551616 ∧ b2 < 18446744073709551616) ∧ (AV.int .u64 (IntKind.u64.wrap ((Int.ofNat (a0 * b2 / 18446744073709551616)) + (Int.ofNat (ac (a0 * b2 % 18446744073709551616) 0 0))))) = (AV.int .u64 (Int.ofNat ((a0 * b2) / 18446744073709551616 + ac ((a0 * b2) % 18446744073709551616) 0 0))) ∧ (AV.tup [(.int .u64 (Int.ofNat (ab (ab (a0 * b2 % 18446744073709551616) 0 0) h01 0))), (.int .u64 (Int.ofNat (ac (ab (a0 * b2 % 18446744073709551616) 0 0) h01 0)))]) = (AV.tup [(.int .u64 (Int.ofNat l02)), (.int .u64 (Int.ofNat (ac (ab ((a0 * b2) % 18446744073709551616) 0 0) h01 0)))]) ∧ (AV.int .u64 (IntKind.u64.wrap ((Int.ofNat ((a0 * b2) / 18446744073709551616 + ac ((a0 * b2) % 18446744073709551616) 0 0)) + (Int.ofNat (ac (ab ((a0 * b2) % 18446744073709551616) 0 0) h01 0))))) = (AV.int .u64 (Int.ofNat h02)) ∧ (a0 < 18446744073709551616 ∧ b3 < 18446744073709551616) ∧ (AV.int .u64 (IntKind.u64.wrap ((Int.ofNat (a0 * b3 / 18446744073709551616)) + (Int.ofNat (ac (a0 * b3 % 18446744073709551616) 0 0))))) = (AV.int .u64 (Int.ofNat ((a0 * b3) / 18446744073709551616 + ac ((a0 * b3) % 18446744073709551616) 0 0))) ∧ (AV.tup [(.int .u64 (Int.ofNat (ab (ab (a0 * b3 % 18446744073709551616) 0 0) h02 0))), (.int .u64 (Int.ofNat (ac (ab (a0 * b3 % 18446744073709551616) 0 0) h02 0)))]) = (AV.tup [(.int .u64 (Int.ofNat l03)), (.int .u64 (Int.ofNat (ac (ab ((a0 * b3) % 18446744073709551616) 0 0) h02 0)))]) ∧ (AV.int .u64 (IntKind.u64.wrap ((Int.ofNat ((a0 * b3) / 18446744073709551616 + ac ((a0 * b3) % 18446744073709551616) 0 0)) + (Int.ofNat (ac (ab ((a0 * b3) % 18446744073709551616) 0 0) h02 0))))) = (AV.int .u64 (Int.ofNat h03)) ∧ (a1 < 18446744073709551616 ∧ b0 < 18446744073709551616) ∧ (AV.int .u64 (IntKind.u64.wrap ((Int.ofNat (a1 * b0 / 18446744073709551616)) + (Int.ofNat (ac (a1 * b0 % 18446744073709551616) l01 0))))) = (AV.int .u64 (Int.ofNat ((a1 * b0) / 18446744073709551616 + ac ((a1 * b0) % 18446744073709551616) l01 0))) ∧ (AV.tup [(.int .u64 (Int.ofNat (ab (ab (a1 * b0 % 18446744073709551616) l01 0) 0 0))), (.int .u64 (Int.ofNat (ac (ab (a1 * b0 % 18446744073709551616) l01 0) 0 0)))]) = (AV.tup [(.int .u64 (Int.ofNat l10)), (.int .u64 (Int.ofNat (ac (ab ((a1 * b0) % 18446744073709551616) l01 0) 0 0)))]) ∧ (AV.int .u64 (IntKind.u64.wrap ((Int.ofNat ((a1 * b0) / 18446744073709551616 + ac ((a1 * b0) % 18446744073709551616) l01 0)) + (Int.ofNat (ac (ab ((a1 * b0) % 18446744073709551616) l01 0) 0 0))))) = (AV.int .u64 (Int.ofNat h10)) ∧ (a1 < 18446744073709551616 ∧ b1 < 18446744073709551616) ∧ (AV.int .u64 (IntKind.u64.wrap ((Int.ofNat (a1 * b1 / 18446744073709551616)) + (Int.ofNat (ac (a1 * b1 % 18446744073709551616) l02 0))))) = (AV.int .u64 (Int.ofNat ((a1 * b1) / 18446744073709551616 + ac ((a1 * b1) % 18446744073709551616) l02 0))) ∧ (AV.tup [(.int .u64 (Int.ofNat (ab (ab (a1 * b1 % 18446744073709551616) l02 0) h10 0))), (.int .u64 (Int.ofNat (ac (ab (a1 * b1 % 18446744073709551616) l02 0) h10 0)))]) = (AV.tup [(.int .u64 (Int.ofNat l11)), (.int .u64 (Int.ofNat (ac (ab ((a1 * b1) % 18446744073709551616) l02 0) h10 0)))]) ∧ (AV.int .u64 (IntKind.u64.wrap ((Int.ofNat ((a1 * b1) / 18446744073709551616 + ac ((a1 * b1) % 18446744073709551616) l02 0)) + (Int.ofNat (ac (ab ((a1 * b1) % 18446744073709551616) l02 0) h10 0))))) = (AV.int .u64 (Int.ofNat h11)) ∧ (a1 < 18446744073709551616 ∧ b2 < 18446744073709551616) ∧ (AV.int .u64 (IntKind.u64.wrap ((Int.ofNat (a1 * b2 / 18446744073709551616)) + (Int.ofNat (ac (a1 * b2 % 18446744073709551616) l03 0))))) = (AV.int .u64 (Int.ofNat ((a1 * b2) / 18446744073709551616 + ac ((a1 * b2) % 18446744073709551616) l03 0))) ∧ (AV.tup [(.int .u64 (Int.ofNat (ab (ab (a1 * b2 % 18446744073709551616) l03 0) h11 0))), (.int .u64 (Int.ofNat (ac (ab (a1 * b2 % 18446744073709551616) l03 0) h11 0)))]) = (AV.tup [(.int .u64 (Int.ofNat l12)), (.int .u64 (Int.ofNat (ac (ab ((a1 * b2) % 18446744073709551616) l03 0) h11 0)))]) ∧ (AV.int .u64 (IntKind.u64.wrap ((Int.ofNat ((a1 * b2) / 18446744073709551616 + ac ((a1 * b2) % 18446744073709551616) l03 0)) + (Int.ofNat (ac (ab ((a1 * b2) % 18446744073709551616) l03 0) h11 0))))) = (AV.int .u64 (Int.ofNat h12)) ∧ (a1 < 18446744073709551616 ∧ b3 < 18446744073709551616) ∧ (AV.int .u64 (IntKind.u64.wrap ((Int.ofNat (a1 * b3 / 18446744073709551616)) + (Int.ofNat (ac (a1 * b3 % 18446744073709551616) h03 0))))) = (AV.int .u64 (Int.ofNat ((a1 * b3) / 18446744073709551616 + ac ((a1 * b3) % 18446744073709551616) h03 0))) ∧ (AV.tup [(.int .u64 (Int.ofNat (ab (ab (a1 * b3 % 18446744073709551616) h03 0) h12 0))), (.int .u64 (Int.ofNat (ac (ab (a1 * b3 % 18446744073709551616) h03 0) h12 0)))]) = (AV.tup [(.int .u64 (Int.ofNat l13)), (.int .u64 (Int.ofNat (ac (ab ((a1 * b3) % 18446744073709551616) h03 0) h12 0)))]) ∧ (AV.int .u64 (IntKind.u64.wrap ((Int.ofNat ((a1 * b3) / 18446744073709551616 + ac ((a1 * b3) % 18446744073709551616) h03 0)) + (Int.ofNat (ac (ab ((a1 * b3) % 18446744073709551616) h03 0) h12 0))))) = (AV.int .u64 (Int.ofNat h13)) ∧ (a2 < 18446744073709551616 ∧ b0 < 18446744073709551616) ∧ (AV.int .u64 (IntKind.u64.wrap ((Int.ofNat (a2 * b0 / 18446744073709551616)) + (Int.ofNat (ac (a2 * b0 % 18446744073709551616) l11 0))))) = (AV.int .u64 (Int.ofNat ((a2 * b0) / 18446744073709551616 + ac ((a2 * b0) % 18446744073709551616) l11 0))) ∧ (AV.tup [(.int .u64 (Int.ofNat (ab (ab (a2 * b0 % 18446744073709551616) l11 0) 0 0))), (.int .u64 (Int.ofNat (ac (ab (a2 * b0 % 18446744073709551616) l11 0) 0 0)))]) = (AV.tup [(.int .u64 (Int.ofNat l20)), (.int .u64 (Int.ofNat (ac (ab ((a2 * b0) % 18446744073709551616) l11 0) 0 0)))]) ∧ (AV.int .u64 (IntKind.u64.wrap ((Int.ofNat ((a2 * b0) / 18446744073709551616 + ac ((a2 * b0) % 18446744073709551616) l11 0)) + (Int.ofNat (ac (ab ((a2 * b0) % 18446744073709551616) l11 0) 0 0))))) = (AV.int .u64 (Int.ofNat h20)) ∧ (a2 < 18446744073709551616 ∧ b1 < 18446744073709551616) ∧ (AV.int .u64 (IntKind.u64.wrap ((Int.ofNat (a2 * b1 / 18446744073709551616)) + (Int.ofNat (ac (a2 * b1 % 18446744073709551616) l12 0))))) = (AV.int .u64 (Int.ofNat ((a2 * b1) / 18446744073709551616 + ac ((a2 * b1) % 18446744073709551616) l12 0))) ∧ (AV.tup [(.int .u64 (Int.ofNat (ab (ab (a2 * b1 % 18446744073709551616) l12 0) h20 0))), (.int .u64 (Int.ofNat (ac (ab (a2 * b1 % 18446744073709551616) l12 0) h20 0)))]) = (AV.tup [(.int .u64 (Int.ofNat l21)), (.int .u64 (Int.ofNat (ac (ab ((a2 * b1) % 18446744073709551616) l12 0) h20 0)))]) ∧ (AV.int .u64 (IntKind.u64.wrap ((Int.ofNat ((a2 * b1) / 18446744073709551616 + ac ((a2 * b1) % 18446744073709551616) l12 0)) + (Int.ofNat (ac (ab ((a2 * b1) % 18446744073709551616) l12 0) h20 0))))) = (AV.int .u64 (Int.ofNat h21)) ∧ (a2 < 18446744073709551616 ∧ b2 < 18446744073709551616) ∧ (AV.int .u64 (IntKind.u64.wrap ((Int.ofNat (a2 * b2 / 18446744073709551616)) + (Int.ofNat (ac (a2 * b2 % 18446744073709551616) l13 0))))) = (AV.int .u64 (Int.ofNat ((a2 * b2) / 18446744073709551616 + ac ((a2 * b2) % 18446744073709551616) l13 0))) ∧ (AV.tup [(.int .u64 (Int.ofNat (ab (ab (a2 * b2 % 18446744073709551616) l13 0) h21 0))), (.int .u64 (Int.ofNat (ac (ab (a2 * b2 % 18446744073709551616) l13 0) h21 0)))]) = (AV.tup [(.int .u64 (Int.ofNat l22)), (.int .u64 (Int.ofNat (ac (ab ((a2 * b2) % 18446744073709551616) l13 0) h21 0)))]) ∧ (AV.int .u64 (IntKind.u64.wrap ((Int.ofNat ((a2 * b2) / 18446744073709551616 + ac ((a2 * b2) % 18446744073709551616) l13 0)) + (Int.ofNat (ac (ab ((a2 * b2) % 18446744073709551616) l13 0) h21 0))))) = (AV.int .u64 (Int.ofNat h22)) ∧ (a2 < 18446744073709551616 ∧ b3 < 18446744073709551616) ∧ (AV.int .u64 (IntKind.u64.wrap ((Int.ofNat (a2 * b3 / 18446744073709551616)) + (Int.ofNat (ac (a2 * b3 % 18446744073709551616) h13 0))))) = (AV.int .u64 (Int.ofNat ((a2 * b3) / 18446744073709551616 + ac ((a2 * b3) % 18446744073709551616) h13 0))) ∧ (AV.tup [(.int .u64 (Int.ofNat (ab (ab (a2 * b3 % 18446744073709551616) h13 0) h22 0))), (.int .u64 (Int.ofNat (ac (ab (a2 * b3 % 18446744073709551616) h13 0) h22 0)))]) = (AV.tup [(.int .u64 (Int.ofNat l23)), (.int .u64 (Int.ofNat (ac (ab ((a2 * b3) % 18446744073709551616) h13 0) h22 0)))]) ∧ (AV.int .u64 (IntKind.u64.wrap ((Int.ofNat ((a2 * b3) / 18446744073709551616 + ac ((a2 * b3) % 18446744073709551616) h13 0)) + (Int.ofNat (ac (ab ((a2 * b3) % 18446744073709551616) h13 0) h22 0))))) = (AV.int .u64 (Int.ofNat h23)) ∧ (a3 < 18446744073709551616 ∧ b0 < 18446744073709551616) ∧ (AV.int .u64 (IntKind.u64.wrap ((Int.ofNat (a3 * b0 / 18446744073709551616)) + (Int.ofNat (ac (a3 * b0 % 18446744073709551616) l21 0))))) = (AV.int .u64 (Int.ofNat ((a3 * b0) / 18446744073709551616 + ac ((a3 * b0) % 18446744073709551616) l21 0))) ∧ (AV.tup [(.int .u64 (Int.ofNat (ab (ab (a3 * b0 % 18446744073709551616) l21 0) 0 0))), (.int .u64 (Int.ofNat (ac (ab (a3 * b0 % 18446744073709551616) l21 0) 0 0)))]) = (AV.tup [(.int .u64 (Int.ofNat l30)), (.int .u64 (Int.ofNat (ac (ab ((a3 * b0) % 18446744073709551616) l21 0) 0 0)))]) ∧ (AV.int .u64 (IntKind.u64.wrap ((Int.ofNat ((a3 * b0) / 18446744073709551616 + ac ((a3 * b0) % 18446744073709551616) l21 0)) + (Int.ofNat (ac (ab ((a3 * b0) % 18446744073709551616) l21 0) 0 0))))) = (AV.int .u64 (Int.ofNat h30)) ∧ (a3 < 18446744073709551616 ∧ b1 < 18446744073709551616) ∧ (AV.int .u64 (IntKind.u64.wrap ((Int.ofNat (a3 * b1 / 18446744073709551616)) + (Int.ofNat (ac (a3 * b1 % 18446744073709551616) l22 0))))) = (AV.int .u64 (Int.ofNat ((a3 * b1) / 18446744073709551616 + ac ((a3 * b1) % 18446744073709551616) l22 0))) ∧ (AV.tup [(.int .u64 (Int.ofNat (ab (ab (a3 * b1 % 18446744073709551616) l22 0) h30 0))), (.int .u64 (Int.ofNat (ac (ab (a3 * b1 % 18446744073709551616) l22 0) h30 0)))]) = (AV.tup [(.int .u64 (Int.ofNat l31)), (.int .u64 (Int.ofNat (ac (ab ((a3 * b1) % 18446744073709551616) l22 0) h30 0)))]) ∧ (AV.int .u64 (IntKind.u64.wrap ((Int.ofNat ((a3 * b1) / 18446744073709551616 + ac ((a3 * b1) % 18446744073709551616) l22 0)) + (Int.ofNat (ac (ab ((a3 * b1) % 18446744073709551616) l22 0) h30 0))))) = (AV.int .u64 (Int.ofNat h31)) ∧ (a3 < 18446744073709551616 ∧ b2 < 18446744073709551616) ∧ (AV.int .u64 (IntKind.u64.wrap ((Int.ofNat (a3 * b2 / 18446744073709551616)) + (Int.ofNat (ac (a3 * b2 % 18446744073709551616) l23 0))))) = (AV.int .u64 (Int.ofNat ((a3 * b2) / 18446744073709551616 + ac ((a3 * b2) % 18446744073709551616) l23 0))) ∧ (AV.tup [(.int .u64 (Int.ofNat (ab (ab (a3 * b2 % 18446744073709551616) l23 0) h31 0))), (.int .u64 (Int.ofNat (ac (ab (a3 * b2 % 18446744073709551616) l23 0) h31 0)))]) = (AV.tup [(.int .u64 (Int.ofNat l32)), (.int .u64 (Int.ofNat (ac (ab ((a3 * b2) % 18446744073709551616) l23 0) h31 0)))]) ∧ (AV.int .u64 (IntKind.u64.wrap ((Int.ofNat ((a3 * b2) / 18446744073709551616 + ac ((a3 * b2) % 18446744073709551616) l23 0)) + (Int.ofNat (ac (ab ((a3 * b2) % 18446744073709551616) l23 0) h31 0))))) = (AV.int .u64 (Int.ofNat h32)) ∧ (a3 < 18446744073709551616 ∧ b3 < 18446744073709551616) ∧ (AV.int .u64 (IntKind.u64.wrap ((Int.ofNat (a3 * b3 / 18446744073709551616)) + (Int.ofNat (ac (a3 * b3 % 18446744073709551616) h23 0))))) = (AV.int .u64 (Int.ofNat ((a3 * b3) / 18446744073709551616 + ac ((a3 * b3) % 18446744073709551616) h23 0))) ∧ (AV.tup [(.int .u64 (Int.ofNat (ab (ab (a3 * b3 % 18446744073709551616) h23 0) h32 0))), (.int .u64 (Int.ofNat (ac (ab (a3 * b3 % 18446744073709551616) h23 0) h32 0)))]) = (AV.tup [(.int .u64 (Int.ofNat l33)), (.int .u64 (Int.ofNat (ac (ab ((a3 * b3) % 18446744073709551616) h23 0) h32 0)))]) ∧ (AV.int .u64 (IntKind.u64.wrap ((Int.ofNat ((a3 * b3) / 18446744073709551616 + ac ((a3 * b3) % 18446744073709551616) h23 0)) + (Int.ofNat (ac (ab ((a3 * b3) % 18446744073709551616) h23 0) h32 0))))) = (AV.int .u64 (Int.ofNat h33)) ∧ (l31 < 18446744073709551616 ∧ 38 < 18446744073709551616) ∧ (AV.int .u64 (IntKind.u64.wrap ((Int.ofNat (l31 * 38 / 18446744073709551616)) + (Int.ofNat (ac (l31 * 38 % 18446744073709551616) l00 0))))) = (AV.int .u64 (Int.ofNat ((l31 * 38) / 18446744073709551616 + ac ((l31 * 38) % 18446744073709551616) l00 0))) ∧ (AV.tup [(.int .u64 (Int.ofNat (ab (ab (l31 * 38 % 18446744073709551616) l00 0) 0 0))), (.int .u64 (Int.ofNat (ac (ab (l31 * 38 % 18446744073709551616) l00 0) 0 0)))]) = (AV.tup [(.int .u64 (Int.ofNat o0)), (.int .u64 (Int.ofNat (ac (ab ((l31 * 38) % 18446744073709551616) l00 0) 0 0)))]) ∧ (AV.int .u64 (IntKind.u64.wrap ((Int.ofNat ((l31 * 38) / 18446744073709551616 + ac ((l31 * 38) % 18446744073709551616) l00 0)) + (Int.ofNat (ac (ab ((l31 * 38) % 18446744073709551616) l00 0) 0 0))))) = (AV.int .u64 (Int.ofNat g0)) ∧ (l32 < 18446744073709551616 ∧ 38 < 18446744073709551616) ∧ (AV.int .u64 (IntKind.u64.wrap ((Int.ofNat (l32 * 38 / 18446744073709551616)) + (Int.ofNat (ac (l32 * 38 % 18446744073709551616) l10 0))))) = (AV.int .u64 (Int.ofNat ((l32 * 38) / 18446744073709551616 + ac ((l32 * 38) % 18446744073709551616) l10 0))) ∧ (AV.tup [(.int .u64 (Int.ofNat (ab (ab (l32 * 38 % 18446744073709551616) l10 0) g0 0))), (.int .u64 (Int.ofNat (ac (ab (l32 * 38 % 18446744073709551616) l10 0) g0 0)))]) = (AV.tup [(.int .u64 (Int.ofNat o1)), (.int .u64 (Int.ofNat (ac (ab ((l32 * 38) % 18446744073709551616) l10 0) g0 0)))]) ∧ (AV.int .u64 (IntKind.u64.wrap ((Int.ofNat ((l32 * 38) / 18446744073709551616 + ac ((l32 * 38) % 18446744073709551616) l10 0)) + (Int.ofNat (ac (ab ((l32 * 38) % 18446744073709551616) l10 0) g0 0))))) = (AV.int .u64 (Int.ofNat g1)) ∧ (l33 < 18446744073709551616 ∧ 38 < 18446744073709551616) ∧ (AV.int .u64 (IntKind.u64.wrap ((Int.ofNat (l33 * 38 / 18446744073709551616)) + (Int.ofNat (ac (l33 * 38 % 18446744073709551616) l20 0))))) = (AV.int .u64 (Int.ofNat ((l33 * 38) / 18446744073709551616 + ac ((l33 * 38) % 18446744073709551616) l20 0))) ∧ (AV.tup [(.int .u64 (Int.ofNat (ab (ab (l33 * 38 % 18446744073709551616) l20 0) g1 0))), (.int .u64 (Int.ofNat (ac (ab (l33 * 38 % 18446744073709551616) l20 0) g1 0)))]) = (AV.tup [(.int .u64 (Int.ofNat o2)), (.int .u64 (Int.ofNat (ac (ab ((l33 * 38) % 18446744073709551616) l20 0) g1 0)))]) ∧ (AV.int .u64 (IntKind.u64.wrap ((Int.ofNat ((l33 * 38) / 18446744073709551616 + ac ((l33 * 38) % 18446744073709551616) l20 0)) + (Int.ofNat (ac (ab ((l33 * 38) % 18446744073709551616) l20 0) g1 0))))) = (AV.int .u64 (Int.ofNat g2)) ∧ (h33 < 18446744073709551616 ∧ 38 < 18446744073709551616) ∧ (AV.int .u64 (IntKind.u64.wrap ((Int.ofNat (h33 * 38 / 18446744073709551616)) + (Int.ofNat (ac (h33 * 38 % 18446744073709551616) l30 0))))) = (AV.int .u64 (Int.ofNat ((h33 * 38) / 18446744073709551616 + ac ((h33 * 38) % 18446744073709551616) l30 0))) ∧ (AV.tup [(.int .u64 (Int.ofNat (ab (ab (h33 * 38 % 18446744073709551616) l30 0) g2 0))), (.int .u64 (Int.ofNat (ac (ab (h33 * 38 % 18446744073709551616) l30 0) g2 0)))]) = (AV.tup [(.int .u64 (Int.ofNat o3)), (.int .u64 (Int.ofNat (ac (ab ((h33 * 38) % 18446744073709551616) l30 0) g2 0)))]) ∧ (AV.int .u64 (IntKind.u64.wrap ((Int.ofNat ((h33 * 38) / 18446744073709551616 + ac ((h33 * 38) % 18446744073709551616) l30 0)) + (Int.ofNat (ac (ab ((h33 * 38) % 18446744073709551616) l30 0) g2 0))))) = (AV.int .u64 (Int.ofNat g3)) ∧ (AV.int .u64 (IntKind.u64.wrap ((38 : Int) * (Int.ofNat g3)))) = (AV.int .u64 (Int.ofNat (38 * g3))) ∧ ((In4 o0 o1 o2 o3) ∧ (38 * g3) < 4294967296) ∧ ((AV.nums .u64 (W4 (upN (V4 o0 o1 o2 o3) (38 * g3)))) = (AV.nums .u64 (W4 (upN (V4 o0 o1 o2 o3) (38 * g3)))) ∧ ([] : Mem) = [])) := by kernel_rfl
theorem timese_ok {a0 a1 a2 a3 b0 b1 b2 b3 : Nat} (h : In4 a0 a1 a2 a3 ∧ In4 b0 b1 b2 b3) : ∃ D H N, specW Try.prog D (cF4 Try.prog) H N 61 [.nums .u64 [Int.ofNat a0, Int.ofNat a1, Int.ofNat a2, Int.ofNat a3], .nums .u64 [Int.ofNat b0, Int.ofNat b1, Int.ofNat b2, Int.ofNat b3]] [] fun v M => v = .nums .u64 (W4 (fMul (V4 a0 a1 a2 a3) (V4 b0 b1 b2 b3))) ∧ M = [] := by
  obtain ⟨ha, hb⟩ := h
  obtain ⟨l00, h00, e00, b00⟩ := dm (a0 * b0 + 0 + 0)
  have m00 := mstep ha.1 hb.1 (show 0 < 18446744073709551616 by omega) (show 0 < 18446744073709551616 by omega) e00 b00
  obtain ⟨l01, h01, e01, b01⟩ := dm (a0 * b1 + 0 + h00)
  have m01 := mstep ha.1 hb.2.1 (show 0 < 18446744073709551616 by omega) m00.1 e01 b01
  obtain ⟨l02, h02, e02, b02⟩ := dm (a0 * b2 + 0 + h01)
  have m02 := mstep ha.1 hb.2.2.1 (show 0 < 18446744073709551616 by omega) m01.1 e02 b02
  obtain ⟨l03, h03, e03, b03⟩ := dm (a0 * b3 + 0 + h02)
  have m03 := mstep ha.1 hb.2.2.2 (show 0 < 18446744073709551616 by omega) m02.1 e03 b03
  obtain ⟨l10, h10, e10, b10⟩ := dm (a1 * b0 + l01 + 0)
  have m10 := mstep ha.2.1 hb.1 b01 (show 0 < 18446744073709551616 by omega) e10 b10
  obtain ⟨l11, h11, e11, b11⟩ := dm (a1 * b1 + l02 + h10)
  have m11 := mstep ha.2.1 hb.2.1 b02 m10.1 e11 b11
  obtain ⟨l12, h12, e12, b12⟩ := dm (a1 * b2 + l03 + h11)
  have m12 := mstep ha.2.1 hb.2.2.1 b03 m11.1 e12 b12
  obtain ⟨l13, h13, e13, b13⟩ := dm (a1 * b3 + h03 + h12)
  have m13 := mstep ha.2.1 hb.2.2.2 m03.1 m12.1 e13 b13
  obtain ⟨l20, h20, e20, b20⟩ := dm (a2 * b0 + l11 + 0)
  have m20 := mstep ha.2.2.1 hb.1 b11 (show 0 < 18446744073709551616 by omega) e20 b20
  obtain ⟨l21, h21, e21, b21⟩ := dm (a2 * b1 + l12 + h20)
  have m21 := mstep ha.2.2.1 hb.2.1 b12 m20.1 e21 b21
  obtain ⟨l22, h22, e22, b22⟩ := dm (a2 * b2 + l13 + h21)
  have m22 := mstep ha.2.2.1 hb.2.2.1 b13 m21.1 e22 b22
  obtain ⟨l23, h23, e23, b23⟩ := dm (a2 * b3 + h13 + h22)
  have m23 := mstep ha.2.2.1 hb.2.2.2 m13.1 m22.1 e23 b23
  obtain ⟨l30, h30, e30, b30⟩ := dm (a3 * b0 + l21 + 0)
  have m30 := mstep ha.2.2.2 hb.1 b21 (show 0 < 18446744073709551616 by omega) e30 b30
  obtain ⟨l31, h31, e31, b31⟩ := dm (a3 * b1 + l22 + h30)
  have m31 := mstep ha.2.2.2 hb.2.1 b22 m30.1 e31 b31
  obtain ⟨l32, h32, e32, b32⟩ := dm (a3 * b2 + l23 + h31)
  have m32 := mstep ha.2.2.2 hb.2.2.1 b23 m31.1 e32 b32
  obtain ⟨l33, h33, e33, b33⟩ := dm (a3 * b3 + h23 + h32)
  have m33 := mstep ha.2.2.2 hb.2.2.2 m23.1 m32.1 e33 b33
  have hr := rows (row (p0 := 0) (p1 := 0) (p2 := 0) (p3 := 0) e00 e01 e02 e03) (row e10 e11 e12 e13) (row e20 e21 e22 e23) (row e30 e31 e32 e33)
  obtain ⟨o0, g0, f0, d0⟩ := dm (l31 * 38 + l00 + 0)
  have n0 := mstep b31 (show 38 < 18446744073709551616 by omega) b00 (show 0 < 18446744073709551616 by omega) f0 d0
  obtain ⟨o1, g1, f1, d1⟩ := dm (l32 * 38 + l10 + g0)
  have n1 := mstep b32 (show 38 < 18446744073709551616 by omega) b10 n0.1 f1 d1
  obtain ⟨o2, g2, f2, d2⟩ := dm (l33 * 38 + l20 + g1)
  have n2 := mstep b33 (show 38 < 18446744073709551616 by omega) b20 n1.1 f2 d2
  obtain ⟨o3, g3, f3, d3⟩ := dm (h33 * 38 + l30 + g2)
  have n3 := mstep m33.1 (show 38 < 18446744073709551616 by omega) b30 n2.1 f3 d3
  have h0 : V4 0 0 0 0 = 0 := rfl
  rw [h0, Nat.add_zero] at hr
  have hlo : V4 l00 l10 l20 l30 < 115792089237316195423570985008687907853269984665640564039457584007913129639936 := V4_lt ⟨b00, b10, b20, b30⟩
  have hhi : V4 l31 l32 l33 h33 < 115792089237316195423570985008687907853269984665640564039457584007913129639936 := V4_lt ⟨b31, b32, b33, m33.1⟩
  have hfold : fFold (V4 a0 a1 a2 a3 * V4 b0 b1 b2 b3) = V4 o0 o1 o2 o3 + 115792089237316195423570985008687907853269984665640564039457584007913129639936 * g3 := by
    rw [hr]; exact fold_words hlo rfl rfl f0 f1 f2 f3
  have hin : In4 o0 o1 o2 o3 := ⟨d0, d1, d2, d3⟩
  have ho := V4_lt hin
  have hg : g3 ≤ 38 := fold_small hlo hhi (by rw [← hr]; exact hfold)
  have hm : fMul (V4 a0 a1 a2 a3) (V4 b0 b1 b2 b3) = upN (V4 o0 o1 o2 o3) (38 * g3) := by
    unfold fMul
    rw [hfold, Nat.add_mul_mod_self_left, Nat.mod_eq_of_lt ho, Nat.add_mul_div_left _ _ (by decide), Nat.div_eq_of_lt ho, Nat.zero_add]
  rw [hm]
  exact ⟨noD, _, 1000, Eq.mpr (run_timese a0 a1 a2 a3 b0 b1 b2 b3 l00 h00 l01 h01 l02 h02 l03 h03 l10 h10 l11 h11 l12 h12 l13 h13 l20 h20 l21 h21 l22 h22 l23 h23 l30 h30 l31 h31 l32 h32 l33 h33 o0 g0 o1 g1 o2 g2 o3 g3) ⟨⟨ha.1, hb.1⟩, (congrArg (AV.int .u64) m00.2.1), (by rw [m00.2.2.1]), (congrArg (AV.int .u64) m00.2.2.2), ⟨ha.1, hb.2.1⟩, (congrArg (AV.int .u64) m01.2.1), (by rw [m01.2.2.1]), (congrArg (AV.int .u64) m01.2.2.2), ⟨ha.1, hb.2.2.1⟩, (congrArg (AV.int .u64) m02.2.1), (by rw [m02.2.2.1]), (congrArg (AV.int .u64) m02.2.2.2), ⟨ha.1, hb.2.2.2⟩, (congrArg (AV.int .u64) m03.2.1), (by rw [m03.2.2.1]), (congrArg (AV.int .u64) m03.2.2.2), ⟨ha.2.1, hb.1⟩, (congrArg (AV.int .u64) m10.2.1), (by rw [m10.2.2.1]), (congrArg (AV.int .u64) m10.2.2.2), ⟨ha.2.1, hb.2.1⟩, (congrArg (AV.int .u64) m11.2.1), (by rw [m11.2.2.1]), (congrArg (AV.int .u64) m11.2.2.2), ⟨ha.2.1, hb.2.2.1⟩, (congrArg (AV.int .u64) m12.2.1), (by rw [m12.2.2.1]), (congrArg (AV.int .u64) m12.2.2.2), ⟨ha.2.1, hb.2.2.2⟩, (congrArg (AV.int .u64) m13.2.1), (by rw [m13.2.2.1]), (congrArg (AV.int .u64) m13.2.2.2), ⟨ha.2.2.1, hb.1⟩, (congrArg (AV.int .u64) m20.2.1), (by rw [m20.2.2.1]), (congrArg (AV.int .u64) m20.2.2.2), ⟨ha.2.2.1, hb.2.1⟩, (congrArg (AV.int .u64) m21.2.1), (by rw [m21.2.2.1]), (congrArg (AV.int .u64) m21.2.2.2), ⟨ha.2.2.1, hb.2.2.1⟩, (congrArg (AV.int .u64) m22.2.1), (by rw [m22.2.2.1]), (congrArg (AV.int .u64) m22.2.2.2), ⟨ha.2.2.1, hb.2.2.2⟩, (congrArg (AV.int .u64) m23.2.1), (by rw [m23.2.2.1]), (congrArg (AV.int .u64) m23.2.2.2), ⟨ha.2.2.2, hb.1⟩, (congrArg (AV.int .u64) m30.2.1), (by rw [m30.2.2.1]), (congrArg (AV.int .u64) m30.2.2.2), ⟨ha.2.2.2, hb.2.1⟩, (congrArg (AV.int .u64) m31.2.1), (by rw [m31.2.2.1]), (congrArg (AV.int .u64) m31.2.2.2), ⟨ha.2.2.2, hb.2.2.1⟩, (congrArg (AV.int .u64) m32.2.1), (by rw [m32.2.2.1]), (congrArg (AV.int .u64) m32.2.2.2), ⟨ha.2.2.2, hb.2.2.2⟩, (congrArg (AV.int .u64) m33.2.1), (by rw [m33.2.2.1]), (congrArg (AV.int .u64) m33.2.2.2), ⟨b31, (by omega)⟩, (congrArg (AV.int .u64) n0.2.1), (by rw [n0.2.2.1]), (congrArg (AV.int .u64) n0.2.2.2), ⟨b32, (by omega)⟩, (congrArg (AV.int .u64) n1.2.1), (by rw [n1.2.2.1]), (congrArg (AV.int .u64) n1.2.2.2), ⟨b33, (by omega)⟩, (congrArg (AV.int .u64) n2.2.1), (by rw [n2.2.2.1]), (congrArg (AV.int .u64) n2.2.2.2), ⟨m33.1, (by omega)⟩, (congrArg (AV.int .u64) n3.2.1), (by rw [n3.2.2.1]), (congrArg (AV.int .u64) n3.2.2.2), (aI (m38 hg)), ⟨hin, (by omega)⟩, ⟨rfl, rfl⟩⟩⟩
def s_timesf : Spec := fun a M => match a, M with
  | [.nums .u64 l, .nums .u64 m], [] => some (some (Ws 4 l ∧ Ws 4 m), .nums .u64 (W4 (fMul (Wv l) (Wv m))), [])
  | _, _ => none
theorem timesf_ok {l m : List Int} (h : Ws 4 l ∧ Ws 4 m) : ∃ D H N, specW Try.prog D (cF4 Try.prog) H N 61 [.nums .u64 l, .nums .u64 m] [] fun v M => v = .nums .u64 (W4 (fMul (Wv l) (Wv m))) ∧ M = [] := by
  obtain ⟨a0, a1, a2, a3, rfl, ha, ea⟩ := Ws4_cases h.1
  obtain ⟨b0, b1, b2, b3, rfl, hb, eb⟩ := Ws4_cases h.2
  rw [ea, eb]
  exact timese_ok ⟨ha, hb⟩
def cF5 (P : Program) : OrcP := addS (addS (cF4 P) 62 s_lessf) 61 s_timesf
theorem cF5_ok : OrcPOK Try.prog (cF5 Try.prog) := by
  unfold cF5
  refine (addS_ok mixed (addS_ok mixed cF4_ok cF4_ok ?_) cF4_ok ?_)
  · intro a M q v M' h hq
    unfold s_lessf at h
    split at h
    · simp only [Option.some.injEq, Prod.mk.injEq] at h
      obtain ⟨rfl, rfl, rfl⟩ := h
      exact lessf_ok hq
    · cases h
  · intro a M q v M' h hq
    unfold s_timesf at h
    split at h
    · simp only [Option.some.injEq, Prod.mk.injEq] at h
      obtain ⟨rfl, rfl, rfl⟩ := h
      exact timesf_ok hq
    · cases h
def h_squaref (l : List Int) (dr : Bool) : Hints := ⟨fun it t => match t with
  | 5 => bif eqIt [] it then some .ask else none
  | 8 => bif eqIt [] it then some .ask else none
  | 100010 => bif eqIt [] it then some .ask else none
  | _ => none, fun it id => match id, it with
  | _, _ => none⟩
theorem run_squaref (l : List Int) (dr : Bool) : specW Try.prog noD (cF5 Try.prog) (h_squaref l dr) 1000 82 [(.ptr 0 0)] [(⟨(.nums .u64 l), .own, dr⟩ : Blk)] (fun v M => v = (.tup []) ∧ M = [⟨.nums .u64 (W4 (fMul (Wv l) (Wv l))), .own, true⟩]) =
  ((0 = 0 ∧ l.length = 4) ∧ (0 = 0 ∧ l.length = 4) ∧ (Ws 4 l ∧ Ws 4 l) ∧ (IntKind.u64 = IntKind.u64 ∧ 0 = 0 ∧ (W4 (fMul (Wv l) (Wv l))).length = 4 ∧ l.length = 4) ∧ ((AV.tup []) = (AV.tup []) ∧ ([(⟨(.nums .u64 (W4 (fMul (Wv l) (Wv l)))), .own, true⟩ : Blk)] : Mem) = [⟨.nums .u64 (W4 (fMul (Wv l) (Wv l))), .own, true⟩])) := by kernel_rfl
theorem squaref_ok {l : List Int} {dr : Bool} (hl : Ws 4 l) : ∃ D H N, specW Try.prog D (cF5 Try.prog) H N 82 [(.ptr 0 0)] [(⟨(.nums .u64 l), .own, dr⟩ : Blk)] fun v M => v = (.tup []) ∧ M = [⟨.nums .u64 (W4 (fMul (Wv l) (Wv l))), .own, true⟩] := by
  refine ⟨noD, _, 1000, Eq.mpr (run_squaref l dr) ⟨⟨rfl, hl.1⟩, ⟨rfl, hl.1⟩, ⟨hl, hl⟩, ⟨rfl, rfl, rfl, hl.1⟩, ⟨rfl, rfl⟩⟩⟩
def h_byf (l m : List Int) (dr : Bool) : Hints := ⟨fun it t => match t with
  | 7 => bif eqIt [] it then some .ask else none
  | 8 => bif eqIt [] it then some .ask else none
  | 100010 => bif eqIt [] it then some .ask else none
  | _ => none, fun it id => match id, it with
  | _, _ => none⟩
theorem run_byf (l m : List Int) (dr : Bool) : specW Try.prog noD (cF5 Try.prog) (h_byf l m dr) 1000 83 [(.ptr 0 0), (.nums .u64 m)] [(⟨(.nums .u64 l), .own, dr⟩ : Blk)] (fun v M => v = (.tup []) ∧ M = [⟨.nums .u64 (W4 (fMul (Wv l) (Wv m))), .own, true⟩]) =
  ((0 = 0 ∧ l.length = 4) ∧ (0 = 0 ∧ m.length = 4) ∧ (Ws 4 l ∧ Ws 4 m) ∧ (IntKind.u64 = IntKind.u64 ∧ 0 = 0 ∧ (W4 (fMul (Wv l) (Wv m))).length = 4 ∧ l.length = 4) ∧ ((AV.tup []) = (AV.tup []) ∧ ([(⟨(.nums .u64 (W4 (fMul (Wv l) (Wv m)))), .own, true⟩ : Blk)] : Mem) = [⟨.nums .u64 (W4 (fMul (Wv l) (Wv m))), .own, true⟩])) := by kernel_rfl
theorem byf_ok {l m : List Int} {dr : Bool} (hyp : Ws 4 l ∧ Ws 4 m) : ∃ D H N, specW Try.prog D (cF5 Try.prog) H N 83 [(.ptr 0 0), (.nums .u64 m)] [(⟨(.nums .u64 l), .own, dr⟩ : Blk)] fun v M => v = (.tup []) ∧ M = [⟨.nums .u64 (W4 (fMul (Wv l) (Wv m))), .own, true⟩] := by
  obtain ⟨hl, hm⟩ := hyp
  refine ⟨noD, _, 1000, Eq.mpr (run_byf l m dr) ⟨⟨rfl, hl.1⟩, ⟨rfl, hm.1⟩, ⟨hl, hm⟩, ⟨rfl, rfl, rfl, hl.1⟩, ⟨rfl, rfl⟩⟩⟩
def s_squaref : Spec := fun a M => match a, M with
  | [.ptr 0 0], [⟨.nums .u64 l, .own, _⟩] => some (some (Ws 4 l), .tup [], [⟨.nums .u64 (W4 (fMul (Wv l) (Wv l))), .own, true⟩])
  | _, _ => none
def s_byf : Spec := fun a M => match a, M with
  | [.ptr 0 0, .nums .u64 m], [⟨.nums .u64 l, .own, _⟩] => some (some (Ws 4 l ∧ Ws 4 m), .tup [], [⟨.nums .u64 (W4 (fMul (Wv l) (Wv m))), .own, true⟩])
  | _, _ => none
def cF6 (P : Program) : OrcP := addS (addS (cF5 P) 82 s_squaref) 83 s_byf
theorem cF6_ok : OrcPOK Try.prog (cF6 Try.prog) := by
  unfold cF6
  refine (addS_ok mixed (addS_ok mixed cF5_ok cF5_ok ?_) cF5_ok ?_)
  · intro a M q v M' h hq
    unfold s_squaref at h
    split at h
    · simp only [Option.some.injEq, Prod.mk.injEq] at h
      obtain ⟨rfl, rfl, rfl⟩ := h
      exact squaref_ok hq
    · cases h
  · intro a M q v M' h hq
    unfold s_byf at h
    split at h
    · simp only [Option.some.injEq, Prod.mk.injEq] at h
      obtain ⟨rfl, rfl, rfl⟩ := h
      exact byf_ok hq
    · cases h
end Go.Proofs.Ytfknmccjfolhpaa
