/- A point so often; the exported functions of curve, and the reference's. No condition. -/
import Derived.Test.YtfdhfhgljhnhlaaCuA
import Derived.Test.YtfdhfhgljhnhlaaBi
namespace Go.Proofs.Ytfdhfhgljhnhlaa
open Go Go.RowKit
def h_loadc (la : List Int) : Hints := ⟨fun it t => match t with
  | 8 => bif eqIt [] it then some .ask else none
  | 18 => bif eqIt [] it then some (.val (.nums .u64 (W4 (fMul (sxN (V la)) (syN (V la)))))) else none
  | _ => none, fun it id => match id, it with
  | _, _ => none⟩
theorem run_loadc (la : List Int) : specW Try.prog noD (cC3 Try.prog) (h_loadc la) 1000 91 [(.nums .u8 la)] [] (fun v M => v = (.tup [.nums .u64 (W16 (flatF (sxN (V la)) (syN (V la)))), .bool (okN (V la))]) ∧ M = []) =
  ((0 = 0 ∧ la.length = 32) ∧ (By la) ∧ (Ws 4 (W4 (sxN (V la))) ∧ Ws 4 (W4 (syN (V la)))) ∧ (AV.nums .u64 (W4 (fMul (Wv (W4 (sxN (V la)))) (Wv (W4 (syN (V la))))))) = (AV.nums .u64 (W4 (fMul (sxN (V la)) (syN (V la))))) ∧ ((AV.tup [(.nums .u64 (W16 ⟨(sxN (V la)), (syN (V la)), 1, (fMul (sxN (V la)) (syN (V la)))⟩)), (.bool (okN (V la)))]) = (AV.tup [.nums .u64 (W16 (flatF (sxN (V la)) (syN (V la)))), .bool (okN (V la))]) ∧ ([] : Mem) = [])) := by kernel_rfl
theorem loadc_ok {la : List Int} (ha : By la) : ∃ D H N, specW Try.prog D (cC3 Try.prog) H N 91 [(.nums .u8 la)] [] fun v M => v = (.tup [.nums .u64 (W16 (flatF (sxN (V la)) (syN (V la)))), .bool (okN (V la))]) ∧ M = [] := by
  refine ⟨noD, _, 1000, Eq.mpr (run_loadc la) ⟨⟨rfl, ha.1⟩, ha, ⟨Ws_W4 _, Ws_W4 _⟩, (by rw [@WvW (syN (V la)) (LtPB (syN_lt _)), @WvW (sxN (V la)) (LtPB (sxN_lt _))]), ⟨rfl, rfl⟩⟩⟩
def s_loadc : Spec := fun a M => match a, M with
  | [.nums .u8 l], [] => some (some (By l), .tup [.nums .u64 (W16 (flatF (sxN (V l)) (syN (V l)))), .bool (okN (V l))], [])
  | _, _ => none
def cC4 (P : Program) : OrcP := addS (addS (addS (cC3 P) 91 s_loadc) 22 s_bit) 23 s_bit
theorem cC4_ok : OrcPOK Try.prog (cC4 Try.prog) := by
  unfold cC4
  refine (addS_ok mixed (addS_ok mixed (addS_ok mixed cC3_ok cC3_ok ?_) cB_ok ?_) cB_ok ?_)
  · intro a M q v M' h hq
    unfold s_loadc at h
    split at h
    · simp only [Option.some.injEq, Prod.mk.injEq] at h
      obtain ⟨rfl, rfl, rfl⟩ := h
      exact loadc_ok hq
    · cases h
  · intro a M q v M' h hq
    unfold s_bit at h
    split at h
    · simp only [Option.some.injEq, Prod.mk.injEq] at h
      obtain ⟨rfl, rfl, rfl⟩ := h
      exact sbit_ok hq
    · cases h
  · intro a M q v M' h hq
    unfold s_bit at h
    split at h
    · simp only [Option.some.injEq, Prod.mk.injEq] at h
      obtain ⟨rfl, rfl, rfl⟩ := h
      exact sbitr_ok hq
    · cases h
theorem sx_ok {n : Nat} (h : okN n = true) : sxN n = xN n := by unfold sxN; rw [h, cond_true]
theorem sy_ok {n : Nat} (h : okN n = true) : syN n = yN n := by unfold syN; rw [h, cond_true]
theorem sx_no {n : Nat} (h : okN n = false) : sxN n = 0 := by unfold sxN; rw [h, cond_false]
theorem sy_no {n : Nat} (h : okN n = false) : syN n = 0 := by unfold syN; rw [h, cond_false]
theorem repF {n : Nat} (h : okN n = true) : RepQ (flatF (sxN n) (syN n)) (ptN n) := by
  rw [sx_ok h, sy_ok h]
  exact repQ_flatF (ptN_x h).symm (ptN_y h).symm
theorem opR_flat {n : Nat} (h : okN n = true) : opR n = flatN (xN n) (yN n) := by
  unfold opR ozN
  rw [sx_ok h, sy_ok h, h]; rfl
theorem repR {n : Nat} (h : okN n = true) : RepQ (opR n) (ptN n) := by
  rw [opR_flat h]
  exact repQ_pt h
theorem opR_lt (n : Nat) : LtP (opR n) := ⟨sxN_lt _, syN_lt _, ozN_lt _, rM_lt _ _⟩
theorem opR_ltQ (n : Nat) : LtP (Qv (W16 (opR n))) := by rw [QvW (LtP_B (opR_lt n))]; exact opR_lt n
theorem flatF_lt (n : Nat) : LtB (flatF (sxN n) (syN n)) := ⟨LtPB (sxN_lt _), LtPB (syN_lt _), by show 1 < 115792089237316195423570985008687907853269984665640564039457584007913129639936; decide, fMul_lt (LtPB (sxN_lt _)) (LtPB (syN_lt _))⟩
noncomputable def addE (a b : Nat) : Nat := bif okN a && okN b then encP (padd (ptN a) (ptN b)) else 0
noncomputable def timesE (k a : Nat) : Nat := bif okN a then encP (smul k (ptN a)) else 0
def negE (a : Nat) : Nat := bif okN a then encN (xOf true (xN a)) (yN a) else 0
def onN (x y : Nat) : Bool := (y * y + (57896044618658097711785492504343953926634992332820282019728792003956564819949 - x * x % 57896044618658097711785492504343953926634992332820282019728792003956564819949)) % 57896044618658097711785492504343953926634992332820282019728792003956564819949 == (dN * (x * x * (y * y)) + 1) % 57896044618658097711785492504343953926634992332820282019728792003956564819949
def ofN (x y : Nat) : Nat := bif onN x y then encN (x % 57896044618658097711785492504343953926634992332820282019728792003956564819949) (y % 57896044618658097711785492504343953926634992332820282019728792003956564819949) else 0
theorem tF_eq {k a : Nat} (hk : k < 115792089237316195423570985008687907853269984665640564039457584007913129639936) (h : okN a = true) : packN (tF k (flatF (sxN a) (syN a)) 256) = timesE k a := by
  unfold timesE
  rw [pack_ok (repQ_tF_all hk (repF h)), h, cond_true]
theorem tR_eq {k a : Nat} (hk : k < 115792089237316195423570985008687907853269984665640564039457584007913129639936) (h : okN a = true) : packN (tR k (opR a) 256) = timesE k a := by
  unfold timesE
  rw [pack_ok (repQ_tR_all hk (opR_lt a) (repR h)), h, cond_true]
theorem aF_eq {a b : Nat} (h1 : okN a = true) (h2 : okN b = true) : packN (sumF (flatF (sxN a) (syN a)) (flatF (sxN b) (syN b))) = addE a b := by
  unfold addE
  rw [pack_ok (repQ_sumF (repF h1) (repF h2)), h1, h2, Bool.and_self, cond_true]
theorem aR_eq {a b : Nat} (h1 : okN a = true) (h2 : okN b = true) : packN (sumR (opR a) (opR b)) = addE a b := by
  unfold addE
  rw [pack_ok (repQ_sumR (opR_lt a) (opR_lt b) (repR h1) (repR h2)), h1, h2, Bool.and_self, cond_true]
theorem B32_z : B32 0 = List.replicate 32 0 := by decide
theorem timesE_no {k a : Nat} (h : okN a = false) : B32 (timesE k a) = (List.replicate 32 0) := by
  unfold timesE; rw [h, cond_false]; exact B32_z
theorem negE_no {a : Nat} (h : okN a = false) : B32 (negE a) = (List.replicate 32 0) := by
  unfold negE; rw [h, cond_false]; exact B32_z
theorem addE_no {a b : Nat} (h : (okN a && okN b) = false) : B32 (addE a b) = (List.replicate 32 0) := by
  unfold addE; rw [h, cond_false]; exact B32_z
theorem ofN_no {x y : Nat} (h : onN x y = false) : B32 (ofN x y) = (List.replicate 32 0) := by
  unfold ofN; rw [h, cond_false]; exact B32_z
theorem zI_1 : zI 1 = 1 := by decide +kernel
theorem pack_flat {x y : Nat} (hx : x < 57896044618658097711785492504343953926634992332820282019728792003956564819949) (hy : y < 57896044618658097711785492504343953926634992332820282019728792003956564819949) : packN (flatN x y) = encN x y := by
  unfold packN flatN
  simp only [zI_1, Nat.mul_one]
  rw [Nat.mod_eq_of_lt hx, Nat.mod_eq_of_lt hy]
theorem bitK_ok {v k : Nat} (hk : k < 256) : bitB v (255 - Int.ofNat k) = (v / 2 ^ (255 - k) % 2 == 1) := by
  unfold bitB
  have e : (255 - Int.ofNat k) = Int.ofNat (255 - k) := by simp only [Int.ofNat_eq_natCast]; omega
  rw [e, decide_eq_true (by simp only [Int.ofNat_eq_natCast]; omega : 0 ≤ Int.ofNat (255 - k)), decide_eq_true (by simp only [Int.ofNat_eq_natCast]; omega : Int.ofNat (255 - k) < 256)]
  rfl
theorem beq_kap {a b c d : Nat} (h1 : kap a = kap c) (h2 : kap b = kap d) : (a % 57896044618658097711785492504343953926634992332820282019728792003956564819949 == b % 57896044618658097711785492504343953926634992332820282019728792003956564819949) = (c % 57896044618658097711785492504343953926634992332820282019728792003956564819949 == d % 57896044618658097711785492504343953926634992332820282019728792003956564819949) := by
  rw [kap_inj h1, kap_inj h2]
theorem kap_dn (n : Nat) : kap (57896044618658097711785492504343953926634992332820282019728792003956564819949 - n % 57896044618658097711785492504343953926634992332820282019728792003956564819949) = - kap n := by rw [kap_neg (Nat.mod_lt _ (by decide)), kap_mod]
theorem on_f {x y : Nat} : (fLess (fMul y y) (fMul x x) % 57896044618658097711785492504343953926634992332820282019728792003956564819949 == fPlus (fMul (fMul (fMul x x) (fMul y y)) dN) 1 % 57896044618658097711785492504343953926634992332820282019728792003956564819949) = onN x y := by
  unfold onN
  refine beq_kap ?_ ?_
  · rw [kap_fLess, kap_fMul, kap_fMul, kap_add, kap_dn, kap_mul, kap_mul]
    generalize kap x = u
    generalize kap y = v
    grind -lia -linarith
  · rw [kap_fPlus, kap_fMul, kap_fMul, kap_fMul, kap_fMul, kap_add, kap_mul, kap_mul, kap_mul, kap_mul]
    generalize kap x = u
    generalize kap y = v
    generalize kap dN = d
    grind -lia -linarith
theorem on_r {x y : Nat} : (rS (rM (y % 57896044618658097711785492504343953926634992332820282019728792003956564819949) (y % 57896044618658097711785492504343953926634992332820282019728792003956564819949)) (rM (x % 57896044618658097711785492504343953926634992332820282019728792003956564819949) (x % 57896044618658097711785492504343953926634992332820282019728792003956564819949)) == rA 1 (rM dN (rM (rM (x % 57896044618658097711785492504343953926634992332820282019728792003956564819949) (x % 57896044618658097711785492504343953926634992332820282019728792003956564819949)) (rM (y % 57896044618658097711785492504343953926634992332820282019728792003956564819949) (y % 57896044618658097711785492504343953926634992332820282019728792003956564819949))))) = onN x y := by
  have e1 : rS (rM (y % 57896044618658097711785492504343953926634992332820282019728792003956564819949) (y % 57896044618658097711785492504343953926634992332820282019728792003956564819949)) (rM (x % 57896044618658097711785492504343953926634992332820282019728792003956564819949) (x % 57896044618658097711785492504343953926634992332820282019728792003956564819949)) = rS (rM (y % 57896044618658097711785492504343953926634992332820282019728792003956564819949) (y % 57896044618658097711785492504343953926634992332820282019728792003956564819949)) (rM (x % 57896044618658097711785492504343953926634992332820282019728792003956564819949) (x % 57896044618658097711785492504343953926634992332820282019728792003956564819949)) % 57896044618658097711785492504343953926634992332820282019728792003956564819949 := (Nat.mod_eq_of_lt (rS_lt _ _)).symm
  have e2 : rA 1 (rM dN (rM (rM (x % 57896044618658097711785492504343953926634992332820282019728792003956564819949) (x % 57896044618658097711785492504343953926634992332820282019728792003956564819949)) (rM (y % 57896044618658097711785492504343953926634992332820282019728792003956564819949) (y % 57896044618658097711785492504343953926634992332820282019728792003956564819949)))) = rA 1 (rM dN (rM (rM (x % 57896044618658097711785492504343953926634992332820282019728792003956564819949) (x % 57896044618658097711785492504343953926634992332820282019728792003956564819949)) (rM (y % 57896044618658097711785492504343953926634992332820282019728792003956564819949) (y % 57896044618658097711785492504343953926634992332820282019728792003956564819949)))) % 57896044618658097711785492504343953926634992332820282019728792003956564819949 := (Nat.mod_eq_of_lt (rA_lt _ _)).symm
  rw [e1, e2]
  unfold onN
  refine beq_kap ?_ ?_
  · rw [kap_rS _ (rM_lt _ _), kap_rM, kap_rM, kap_mod, kap_mod, kap_add, kap_dn, kap_mul, kap_mul]
    generalize kap x = u
    generalize kap y = v
    grind -lia -linarith
  · rw [kap_rA, kap_rM, kap_rM, kap_rM, kap_rM, kap_mod, kap_mod, kap_add, kap_mul, kap_mul, kap_mul, kap_mul]
    generalize kap x = u
    generalize kap y = v
    generalize kap dN = d
    grind -lia -linarith
def h_zeroc : Hints := ⟨fun it t => match t with
  | 100000 => bif eqIt [] it then some .ask else none
  | _ => none, fun it id => match id, it with
  | _, _ => none⟩
theorem run_zeroc  : specW Try.prog noD (cC4 Try.prog) (h_zeroc) 1000 48 [] [] (fun v M => v = (.nums .u8 (B32 (1))) ∧ M = []) =
  ((Ws 4 ([0, 0, 0, 0] : List Int) ∧ Ws 4 ([1, 0, 0, 0] : List Int)) ∧ (IntKind.u8 = IntKind.u8 ∧ 0 = 0 ∧ (B32 (encN (Wv ([0, 0, 0, 0] : List Int) % 57896044618658097711785492504343953926634992332820282019728792003956564819949) (Wv ([1, 0, 0, 0] : List Int) % 57896044618658097711785492504343953926634992332820282019728792003956564819949))).length = 32 ∧ ([0, 0, 0, 0, 0, 0, 0, 0, 0, 0, 0, 0, 0, 0, 0, 0, 0, 0, 0, 0, 0, 0, 0, 0, 0, 0, 0, 0, 0, 0, 0, 0] : List Int).length = 32) ∧ ((AV.nums .u8 (B32 (encN (Wv ([0, 0, 0, 0] : List Int) % 57896044618658097711785492504343953926634992332820282019728792003956564819949) (Wv ([1, 0, 0, 0] : List Int) % 57896044618658097711785492504343953926634992332820282019728792003956564819949)))) = (AV.nums .u8 (B32 (1))) ∧ ([] : Mem) = [])) := by kernel_rfl
theorem zeroc_ok  (_h : True) : ∃ D H N, specW Try.prog D (cC4 Try.prog) H N 48 [] [] fun v M => v = (.nums .u8 (B32 (1))) ∧ M = [] := by
  refine ⟨noD, _, 1000, Eq.mpr (run_zeroc) ⟨⟨⟨rfl, by decide⟩, ⟨rfl, by decide⟩⟩, ⟨rfl, rfl, B32_len _, rfl⟩, ⟨?_, rfl⟩⟩⟩
  exact congrArg (AV.nums .u8) (by decide)
def h_basec : Hints := ⟨fun it t => match t with
  | 3 => bif eqIt [] it then some (.val (.nums .u64 (W4 (powX 5 57896044618658097711785492504343953926634992332820282019728792003956564819947 256)))) else none
  | 6 => bif eqIt [] it then some (.val (.nums .u64 (W4 (fMul 4 (powX 5 57896044618658097711785492504343953926634992332820282019728792003956564819947 256))))) else none
  | 7 => bif eqIt [] it then some (.val (.nums .u8 (B32 ((fMul 4 (powX 5 57896044618658097711785492504343953926634992332820282019728792003956564819947 256)) % 57896044618658097711785492504343953926634992332820282019728792003956564819949)))) else none
  | 100000 => bif eqIt [] it then some .ask else none
  | _ => none, fun it id => match id, it with
  | _, _ => none⟩
theorem run_basec  : specW Try.prog noD (cC4 Try.prog) (h_basec) 1000 59 [] [] (fun v M => v = (.nums .u8 (B32 (baseN))) ∧ M = []) =
  ((Ws 4 ([5, 0, 0, 0] : List Int)) ∧ (AV.nums .u64 (W4 (powX (Wv ([5, 0, 0, 0] : List Int)) 57896044618658097711785492504343953926634992332820282019728792003956564819947 256))) = (AV.nums .u64 (W4 (powX 5 57896044618658097711785492504343953926634992332820282019728792003956564819947 256))) ∧ (Ws 4 ([4, 0, 0, 0] : List Int) ∧ Ws 4 (W4 (powX 5 57896044618658097711785492504343953926634992332820282019728792003956564819947 256))) ∧ (AV.nums .u64 (W4 (fMul (Wv ([4, 0, 0, 0] : List Int)) (Wv (W4 (powX 5 57896044618658097711785492504343953926634992332820282019728792003956564819947 256)))))) = (AV.nums .u64 (W4 (fMul 4 (powX 5 57896044618658097711785492504343953926634992332820282019728792003956564819947 256)))) ∧ (Ws 4 (W4 (fMul 4 (powX 5 57896044618658097711785492504343953926634992332820282019728792003956564819947 256)))) ∧ (AV.nums .u8 (B32 (Wv (W4 (fMul 4 (powX 5 57896044618658097711785492504343953926634992332820282019728792003956564819947 256))) % 57896044618658097711785492504343953926634992332820282019728792003956564819949))) = (AV.nums .u8 (B32 ((fMul 4 (powX 5 57896044618658097711785492504343953926634992332820282019728792003956564819947 256)) % 57896044618658097711785492504343953926634992332820282019728792003956564819949))) ∧ (IntKind.u8 = IntKind.u8 ∧ 0 = 0 ∧ (B32 ((fMul 4 (powX 5 57896044618658097711785492504343953926634992332820282019728792003956564819947 256)) % 57896044618658097711785492504343953926634992332820282019728792003956564819949)).length = 32 ∧ ([0, 0, 0, 0, 0, 0, 0, 0, 0, 0, 0, 0, 0, 0, 0, 0, 0, 0, 0, 0, 0, 0, 0, 0, 0, 0, 0, 0, 0, 0, 0, 0] : List Int).length = 32) ∧ ((AV.nums .u8 (B32 ((fMul 4 (powX 5 57896044618658097711785492504343953926634992332820282019728792003956564819947 256)) % 57896044618658097711785492504343953926634992332820282019728792003956564819949))) = (AV.nums .u8 (B32 (baseN))) ∧ ([] : Mem) = [])) := by kernel_rfl
theorem basec_ok  (_h : True) : ∃ D H N, specW Try.prog D (cC4 Try.prog) H N 59 [] [] fun v M => v = (.nums .u8 (B32 (baseN))) ∧ M = [] := by
  refine ⟨noD, _, 1000, Eq.mpr (run_basec) ⟨⟨rfl, by decide⟩, (by rw [(show Wv [5, 0, 0, 0] = 5 by decide)]), ⟨⟨rfl, by decide⟩, Ws_W4 _⟩, (by rw [(show Wv [4, 0, 0, 0] = 4 by decide), @WvW (powX 5 57896044618658097711785492504343953926634992332820282019728792003956564819947 256) (powX_lt (by decide) _)]), Ws_W4 _, (by rw [@WvW (fMul 4 (powX 5 57896044618658097711785492504343953926634992332820282019728792003956564819947 256)) (fMul_lt (by decide) (powX_lt (by decide) _))]), ⟨rfl, rfl, B32_len _, rfl⟩, ⟨?_, rfl⟩⟩⟩
  exact congrArg (AV.nums .u8) (by decide +kernel)
def h_goodc (la : List Int) : Hints := ⟨fun it t => match t with
  | 7 => bif eqIt [] it then some .ask else none
  | _ => none, fun it id => match id, it with
  | _, _ => none⟩
theorem run_goodc (la : List Int) : specW Try.prog noD (cC4 Try.prog) (h_goodc la) 1000 45 [(.nums .u8 la)] [] (fun v M => v = (.bool (okN (V la))) ∧ M = []) =
  ((0 = 0 ∧ la.length = 32) ∧ (By la) ∧ ((AV.bool (okN (V la))) = (AV.bool (okN (V la))) ∧ ([] : Mem) = [])) := by kernel_rfl
theorem goodc_ok {la : List Int} (ha : By la) : ∃ D H N, specW Try.prog D (cC4 Try.prog) H N 45 [(.nums .u8 la)] [] fun v M => v = (.bool (okN (V la))) ∧ M = [] := by
  refine ⟨noD, _, 1000, Eq.mpr (run_goodc la) ⟨⟨rfl, ha.1⟩, ha, ⟨rfl, rfl⟩⟩⟩
def h_goodcr (la : List Int) : Hints := ⟨fun it t => match t with
  | 6 => bif eqIt [] it then some .ask else none
  | _ => none, fun it id => match id, it with
  | _, _ => none⟩
theorem run_goodcr (la : List Int) : specW Try.prog noD (cC4 Try.prog) (h_goodcr la) 1000 58 [(.nums .u8 la)] [] (fun v M => v = (.bool (okN (V la))) ∧ M = []) =
  ((0 = 0 ∧ la.length = 32) ∧ (By la) ∧ ((AV.bool (okN (V la))) = (AV.bool (okN (V la))) ∧ ([] : Mem) = [])) := by kernel_rfl
theorem goodcr_ok {la : List Int} (ha : By la) : ∃ D H N, specW Try.prog D (cC4 Try.prog) H N 58 [(.nums .u8 la)] [] fun v M => v = (.bool (okN (V la))) ∧ M = [] := by
  refine ⟨noD, _, 1000, Eq.mpr (run_goodcr la) ⟨⟨rfl, ha.1⟩, ha, ⟨rfl, rfl⟩⟩⟩
def h_xyc (la : List Int) : Hints := ⟨fun it t => match t with
  | 9 => bif eqIt [] it then some .ask else none
  | 15 => bif eqIt [] it then some (.val (.nums .u8 (B32 ((sxN (V la)) % 57896044618658097711785492504343953926634992332820282019728792003956564819949)))) else none
  | 17 => bif eqIt [] it then some (.val (.nums .u8 (B32 ((syN (V la)) % 57896044618658097711785492504343953926634992332820282019728792003956564819949)))) else none
  | 100002 => bif eqIt [] it then some .ask else none
  | 100003 => bif eqIt [] it then some .ask else none
  | _ => none, fun it id => match id, it with
  | _, _ => none⟩
theorem run_xyc (la : List Int) : specW Try.prog noD (cC4 Try.prog) (h_xyc la) 1000 53 [(.nums .u8 la)] [] (fun v M => v = (.tup [.nums .u8 (B32 (sxN (V la))), .nums .u8 (B32 (syN (V la))), .bool (okN (V la))]) ∧ M = []) =
  ((0 = 0 ∧ la.length = 32) ∧ (By la) ∧ (Ws 4 (W4 (sxN (V la)))) ∧ (AV.nums .u8 (B32 (Wv (W4 (sxN (V la))) % 57896044618658097711785492504343953926634992332820282019728792003956564819949))) = (AV.nums .u8 (B32 ((sxN (V la)) % 57896044618658097711785492504343953926634992332820282019728792003956564819949))) ∧ (Ws 4 (W4 (syN (V la)))) ∧ (AV.nums .u8 (B32 (Wv (W4 (syN (V la))) % 57896044618658097711785492504343953926634992332820282019728792003956564819949))) = (AV.nums .u8 (B32 ((syN (V la)) % 57896044618658097711785492504343953926634992332820282019728792003956564819949))) ∧ (IntKind.u8 = IntKind.u8 ∧ 0 = 0 ∧ (B32 ((sxN (V la)) % 57896044618658097711785492504343953926634992332820282019728792003956564819949)).length = 32 ∧ ([0, 0, 0, 0, 0, 0, 0, 0, 0, 0, 0, 0, 0, 0, 0, 0, 0, 0, 0, 0, 0, 0, 0, 0, 0, 0, 0, 0, 0, 0, 0, 0] : List Int).length = 32) ∧ (IntKind.u8 = IntKind.u8 ∧ 0 = 0 ∧ (B32 ((syN (V la)) % 57896044618658097711785492504343953926634992332820282019728792003956564819949)).length = 32 ∧ ([0, 0, 0, 0, 0, 0, 0, 0, 0, 0, 0, 0, 0, 0, 0, 0, 0, 0, 0, 0, 0, 0, 0, 0, 0, 0, 0, 0, 0, 0, 0, 0] : List Int).length = 32) ∧ ((AV.tup [(.nums .u8 (B32 ((sxN (V la)) % 57896044618658097711785492504343953926634992332820282019728792003956564819949))), (.nums .u8 (B32 ((syN (V la)) % 57896044618658097711785492504343953926634992332820282019728792003956564819949))), (.bool (okN (V la)))]) = (AV.tup [.nums .u8 (B32 (sxN (V la))), .nums .u8 (B32 (syN (V la))), .bool (okN (V la))]) ∧ ([] : Mem) = [])) := by kernel_rfl
theorem xyc_ok {la : List Int} (ha : By la) : ∃ D H N, specW Try.prog D (cC4 Try.prog) H N 53 [(.nums .u8 la)] [] fun v M => v = (.tup [.nums .u8 (B32 (sxN (V la))), .nums .u8 (B32 (syN (V la))), .bool (okN (V la))]) ∧ M = [] := by
  refine ⟨noD, _, 1000, Eq.mpr (run_xyc la) ⟨⟨rfl, ha.1⟩, ha, Ws_W4 _, (by rw [@WvW (sxN (V la)) (LtPB (sxN_lt _))]), Ws_W4 _, (by rw [@WvW (syN (V la)) (LtPB (syN_lt _))]), ⟨rfl, rfl, B32_len _, rfl⟩, ⟨rfl, rfl, B32_len _, rfl⟩, ⟨?_, rfl⟩⟩⟩
  rw [Nat.mod_eq_of_lt (sxN_lt _), Nat.mod_eq_of_lt (syN_lt _)]
def h_xycr (la : List Int) : Hints := ⟨fun it t => match t with
  | 8 => bif eqIt [] it then some .ask else none
  | 14 => bif eqIt [] it then some (.val (.nums .u8 (B32 (sxN (V la))))) else none
  | 17 => bif eqIt [] it then some (.val (.nums .u8 (B32 (syN (V la))))) else none
  | 100002 => bif eqIt [] it then some .ask else none
  | 100003 => bif eqIt [] it then some .ask else none
  | _ => none, fun it id => match id, it with
  | _, _ => none⟩
theorem run_xycr (la : List Int) : specW Try.prog noD (cC4 Try.prog) (h_xycr la) 1000 54 [(.nums .u8 la)] [] (fun v M => v = (.tup [.nums .u8 (B32 (sxN (V la))), .nums .u8 (B32 (syN (V la))), .bool (okN (V la))]) ∧ M = []) =
  ((0 = 0 ∧ la.length = 32) ∧ (By la) ∧ (Ws 4 (W4 (sxN (V la)))) ∧ (AV.nums .u8 (B32 (Wv (W4 (sxN (V la)))))) = (AV.nums .u8 (B32 (sxN (V la)))) ∧ (Ws 4 (W4 (syN (V la)))) ∧ (AV.nums .u8 (B32 (Wv (W4 (syN (V la)))))) = (AV.nums .u8 (B32 (syN (V la)))) ∧ (IntKind.u8 = IntKind.u8 ∧ 0 = 0 ∧ (B32 (sxN (V la))).length = 32 ∧ ([0, 0, 0, 0, 0, 0, 0, 0, 0, 0, 0, 0, 0, 0, 0, 0, 0, 0, 0, 0, 0, 0, 0, 0, 0, 0, 0, 0, 0, 0, 0, 0] : List Int).length = 32) ∧ (IntKind.u8 = IntKind.u8 ∧ 0 = 0 ∧ (B32 (syN (V la))).length = 32 ∧ ([0, 0, 0, 0, 0, 0, 0, 0, 0, 0, 0, 0, 0, 0, 0, 0, 0, 0, 0, 0, 0, 0, 0, 0, 0, 0, 0, 0, 0, 0, 0, 0] : List Int).length = 32) ∧ ((AV.tup [(.nums .u8 (B32 (sxN (V la)))), (.nums .u8 (B32 (syN (V la)))), (.bool (okN (V la)))]) = (AV.tup [.nums .u8 (B32 (sxN (V la))), .nums .u8 (B32 (syN (V la))), .bool (okN (V la))]) ∧ ([] : Mem) = [])) := by kernel_rfl
theorem xycr_ok {la : List Int} (ha : By la) : ∃ D H N, specW Try.prog D (cC4 Try.prog) H N 54 [(.nums .u8 la)] [] fun v M => v = (.tup [.nums .u8 (B32 (sxN (V la))), .nums .u8 (B32 (syN (V la))), .bool (okN (V la))]) ∧ M = [] := by
  refine ⟨noD, _, 1000, Eq.mpr (run_xycr la) ⟨⟨rfl, ha.1⟩, ha, Ws_W4 _, (by rw [@WvW (sxN (V la)) (LtPB (sxN_lt _))]), Ws_W4 _, (by rw [@WvW (syN (V la)) (LtPB (syN_lt _))]), ⟨rfl, rfl, B32_len _, rfl⟩, ⟨rfl, rfl, B32_len _, rfl⟩, ⟨rfl, rfl⟩⟩⟩
def h_negc (la : List Int) : Hints := ⟨fun it t => match t with
  | 8 => bif eqIt [] it then some .ask else none
  | 200014 => bif eqIt [] it then some .ask else none
  | 100002 => bif eqIt [] it then some .ask else none
  | 18 => bif eqIt [] it then some (.val (.nums .u64 (W4 (fLess 0 (sxN (V la)))))) else none
  | 20 => bif eqIt [] it then some (.val (.nums .u8 (B32 (encN ((fLess 0 (sxN (V la))) % 57896044618658097711785492504343953926634992332820282019728792003956564819949) ((syN (V la)) % 57896044618658097711785492504343953926634992332820282019728792003956564819949))))) else none
  | _ => none, fun it id => match id, it with
  | _, _ => none⟩
theorem run_negc (la : List Int) : specW Try.prog noD (cC4 Try.prog) (h_negc la) 1000 50 [(.nums .u8 la)] [] (fun v M => v = (.tup [.nums .u8 (B32 (negE (V la))), .bool (okN (V la))]) ∧ M = []) =
  ((0 = 0 ∧ la.length = 32) ∧ (By la) ∧ (((!(okN (V la))) = true → ((IntKind.u8 = IntKind.u8 ∧ 0 = 0 ∧ ([0, 0, 0, 0, 0, 0, 0, 0, 0, 0, 0, 0, 0, 0, 0, 0, 0, 0, 0, 0, 0, 0, 0, 0, 0, 0, 0, 0, 0, 0, 0, 0] : List Int).length = 32 ∧ ([0, 0, 0, 0, 0, 0, 0, 0, 0, 0, 0, 0, 0, 0, 0, 0, 0, 0, 0, 0, 0, 0, 0, 0, 0, 0, 0, 0, 0, 0, 0, 0] : List Int).length = 32) ∧ ((AV.tup [(.nums .u8 (List.replicate 32 0)), (.bool false)]) = (AV.tup [.nums .u8 (B32 (negE (V la))), .bool (okN (V la))]) ∧ ([] : Mem) = []))) ∧ ((!(okN (V la))) = false → ((Ws 4 ([0, 0, 0, 0] : List Int) ∧ Ws 4 (W4 (sxN (V la)))) ∧ (AV.nums .u64 (W4 (fLess (Wv ([0, 0, 0, 0] : List Int)) (Wv (W4 (sxN (V la))))))) = (AV.nums .u64 (W4 (fLess 0 (sxN (V la))))) ∧ (Ws 4 (W4 (fLess 0 (sxN (V la)))) ∧ Ws 4 (W4 (syN (V la)))) ∧ (AV.nums .u8 (B32 (encN (Wv (W4 (fLess 0 (sxN (V la)))) % 57896044618658097711785492504343953926634992332820282019728792003956564819949) (Wv (W4 (syN (V la))) % 57896044618658097711785492504343953926634992332820282019728792003956564819949)))) = (AV.nums .u8 (B32 (encN ((fLess 0 (sxN (V la))) % 57896044618658097711785492504343953926634992332820282019728792003956564819949) ((syN (V la)) % 57896044618658097711785492504343953926634992332820282019728792003956564819949)))) ∧ (IntKind.u8 = IntKind.u8 ∧ 0 = 0 ∧ (B32 (encN ((fLess 0 (sxN (V la))) % 57896044618658097711785492504343953926634992332820282019728792003956564819949) ((syN (V la)) % 57896044618658097711785492504343953926634992332820282019728792003956564819949))).length = 32 ∧ ([0, 0, 0, 0, 0, 0, 0, 0, 0, 0, 0, 0, 0, 0, 0, 0, 0, 0, 0, 0, 0, 0, 0, 0, 0, 0, 0, 0, 0, 0, 0, 0] : List Int).length = 32) ∧ ((AV.tup [(.nums .u8 (B32 (encN ((fLess 0 (sxN (V la))) % 57896044618658097711785492504343953926634992332820282019728792003956564819949) ((syN (V la)) % 57896044618658097711785492504343953926634992332820282019728792003956564819949)))), (.bool true)]) = (AV.tup [.nums .u8 (B32 (negE (V la))), .bool (okN (V la))]) ∧ ([] : Mem) = []))))) := by kernel_rfl
theorem negc_ok {la : List Int} (ha : By la) : ∃ D H N, specW Try.prog D (cC4 Try.prog) H N 50 [(.nums .u8 la)] [] fun v M => v = (.tup [.nums .u8 (B32 (negE (V la))), .bool (okN (V la))]) ∧ M = [] := by
  refine ⟨noD, _, 1000, Eq.mpr (run_negc la) ⟨⟨rfl, ha.1⟩, ha, ⟨fun hb => ⟨⟨rfl, rfl, rfl, rfl⟩, ⟨?_, rfl⟩⟩, fun hb => ⟨⟨⟨rfl, by decide⟩, Ws_W4 _⟩, (by rw [(show Wv [0, 0, 0, 0] = 0 by decide), @WvW (sxN (V la)) (LtPB (sxN_lt _))]), ⟨Ws_W4 _, Ws_W4 _⟩, (by rw [@WvW (syN (V la)) (LtPB (syN_lt _)), @WvW (fLess 0 (sxN (V la))) (fLess_lt (by decide))]), ⟨rfl, rfl, B32_len _, rfl⟩, ⟨?_, rfl⟩⟩⟩⟩⟩
  · have hb := notT hb
    rw [negE_no hb, hb]
  · have hb := notF hb
    rw [sx_ok hb, sy_ok hb, xOf_f (xN_lt _), Nat.mod_eq_of_lt (okN_lt hb).1, hb]
    unfold negE
    rw [hb, cond_true]
def h_negcr (la : List Int) : Hints := ⟨fun it t => match t with
  | 7 => bif eqIt [] it then some .ask else none
  | 200012 => bif eqIt [] it then some .ask else none
  | 100002 => bif eqIt [] it then some .ask else none
  | 17 => bif eqIt [] it then some (.val (.nums .u64 (W4 (rS 0 (sxN (V la)))))) else none
  | 21 => bif eqIt [] it then some (.val (.nums .u8 (B32 (packN (Qv (W16 (flatN (rS 0 (sxN (V la))) (syN (V la))))))))) else none
  | _ => none, fun it id => match id, it with
  | _, _ => none⟩
theorem run_negcr (la : List Int) : specW Try.prog noD (cC4 Try.prog) (h_negcr la) 1000 56 [(.nums .u8 la)] [] (fun v M => v = (.tup [.nums .u8 (B32 (negE (V la))), .bool (okN (V la))]) ∧ M = []) =
  ((0 = 0 ∧ la.length = 32) ∧ (By la) ∧ (((!(okN (V la))) = true → ((IntKind.u8 = IntKind.u8 ∧ 0 = 0 ∧ ([0, 0, 0, 0, 0, 0, 0, 0, 0, 0, 0, 0, 0, 0, 0, 0, 0, 0, 0, 0, 0, 0, 0, 0, 0, 0, 0, 0, 0, 0, 0, 0] : List Int).length = 32 ∧ ([0, 0, 0, 0, 0, 0, 0, 0, 0, 0, 0, 0, 0, 0, 0, 0, 0, 0, 0, 0, 0, 0, 0, 0, 0, 0, 0, 0, 0, 0, 0, 0] : List Int).length = 32) ∧ ((AV.tup [(.nums .u8 (List.replicate 32 0)), (.bool false)]) = (AV.tup [.nums .u8 (B32 (negE (V la))), .bool (okN (V la))]) ∧ ([] : Mem) = []))) ∧ ((!(okN (V la))) = false → ((Ws 4 ([0, 0, 0, 0] : List Int) ∧ Ws 4 (W4 (sxN (V la))) ∧ Wv ([0, 0, 0, 0] : List Int) < 57896044618658097711785492504343953926634992332820282019728792003956564819949 ∧ Wv (W4 (sxN (V la))) < 57896044618658097711785492504343953926634992332820282019728792003956564819949) ∧ (AV.nums .u64 (W4 (rS (Wv ([0, 0, 0, 0] : List Int)) (Wv (W4 (sxN (V la))))))) = (AV.nums .u64 (W4 (rS 0 (sxN (V la))))) ∧ (Ws 4 (W4 (rS 0 (sxN (V la)))) ∧ Ws 4 (W4 (syN (V la)))) ∧ (Ws 16 (W16 (flatN (Wv (W4 (rS 0 (sxN (V la))))) (Wv (W4 (syN (V la))))))) ∧ (AV.nums .u8 (B32 (packN (Qv (W16 (flatN (Wv (W4 (rS 0 (sxN (V la))))) (Wv (W4 (syN (V la)))))))))) = (AV.nums .u8 (B32 (packN (Qv (W16 (flatN (rS 0 (sxN (V la))) (syN (V la)))))))) ∧ (IntKind.u8 = IntKind.u8 ∧ 0 = 0 ∧ (B32 (packN (Qv (W16 (flatN (rS 0 (sxN (V la))) (syN (V la))))))).length = 32 ∧ ([0, 0, 0, 0, 0, 0, 0, 0, 0, 0, 0, 0, 0, 0, 0, 0, 0, 0, 0, 0, 0, 0, 0, 0, 0, 0, 0, 0, 0, 0, 0, 0] : List Int).length = 32) ∧ ((AV.tup [(.nums .u8 (B32 (packN (Qv (W16 (flatN (rS 0 (sxN (V la))) (syN (V la)))))))), (.bool true)]) = (AV.tup [.nums .u8 (B32 (negE (V la))), .bool (okN (V la))]) ∧ ([] : Mem) = []))))) := by kernel_rfl
theorem negcr_ok {la : List Int} (ha : By la) : ∃ D H N, specW Try.prog D (cC4 Try.prog) H N 56 [(.nums .u8 la)] [] fun v M => v = (.tup [.nums .u8 (B32 (negE (V la))), .bool (okN (V la))]) ∧ M = [] := by
  refine ⟨noD, _, 1000, Eq.mpr (run_negcr la) ⟨⟨rfl, ha.1⟩, ha, ⟨fun hb => ⟨⟨rfl, rfl, rfl, rfl⟩, ⟨?_, rfl⟩⟩, fun hb => ⟨⟨⟨rfl, by decide⟩, Ws_W4 _, (by decide), (WvP (LtPB (sxN_lt _)) (sxN_lt _))⟩, (by rw [(show Wv [0, 0, 0, 0] = 0 by decide), @WvW (sxN (V la)) (LtPB (sxN_lt _))]), ⟨Ws_W4 _, Ws_W4 _⟩, Ws_W16 _, (by rw [@WvW (syN (V la)) (LtPB (syN_lt _)), @WvW (rS 0 (sxN (V la))) (LtPB (rS_lt _ _))]), ⟨rfl, rfl, B32_len _, rfl⟩, ⟨?_, rfl⟩⟩⟩⟩⟩
  · have hb := notT hb
    rw [negE_no hb, hb]
  · have hb := notF hb
    rw [QvW (LtP_B (flat_lt (rS_lt _ _) (syN_lt _))), pack_flat (rS_lt _ _) (syN_lt _), sx_ok hb, sy_ok hb, rS_x, hb]
    unfold negE
    rw [hb, cond_true]
def h_ofc (la lb : List Int) : Hints := ⟨fun it t => match t with
  | 10 => bif eqIt [] it then some .ask else none
  | 12 => bif eqIt [] it then some .ask else none
  | 100006 => bif eqIt [] it then some .ask else none
  | 100007 => bif eqIt [] it then some .ask else none
  | 14 => bif eqIt [] it then some .ask else none
  | 15 => bif eqIt [] it then some .ask else none
  | 16 => bif eqIt [] it then some (.val (.nums .u64 (W4 (fMul (V la) (V la))))) else none
  | 17 => bif eqIt [] it then some .ask else none
  | 18 => bif eqIt [] it then some .ask else none
  | 19 => bif eqIt [] it then some (.val (.nums .u64 (W4 (fMul (V lb) (V lb))))) else none
  | 22 => bif eqIt [] it then some (.val (.nums .u64 (W4 (fLess (fMul (V lb) (V lb)) (fMul (V la) (V la)))))) else none
  | 23 => bif eqIt [] it then some (.val (.nums .u64 (W4 ((fLess (fMul (V lb) (V lb)) (fMul (V la) (V la))) % 57896044618658097711785492504343953926634992332820282019728792003956564819949)))) else none
  | 26 => bif eqIt [] it then some (.val (.nums .u64 (W4 (fMul (fMul (V la) (V la)) (fMul (V lb) (V lb)))))) else none
  | 28 => bif eqIt [] it then some (.val (.nums .u64 (W4 (fMul (fMul (fMul (V la) (V la)) (fMul (V lb) (V lb))) dN)))) else none
  | 30 => bif eqIt [] it then some (.val (.nums .u64 (W4 (fPlus (fMul (fMul (fMul (V la) (V la)) (fMul (V lb) (V lb))) dN) 1)))) else none
  | 31 => bif eqIt [] it then some (.val (.nums .u64 (W4 ((fPlus (fMul (fMul (fMul (V la) (V la)) (fMul (V lb) (V lb))) dN) 1) % 57896044618658097711785492504343953926634992332820282019728792003956564819949)))) else none
  | 32 => bif eqIt [] it then some (.val (.bool (!(onN (V la) (V lb))))) else none
  | 200032 => bif eqIt [] it then some .ask else none
  | 100004 => bif eqIt [] it then some .ask else none
  | 34 => bif eqIt [] it then some .ask else none
  | 35 => bif eqIt [] it then some .ask else none
  | 36 => bif eqIt [] it then some (.val (.nums .u8 (B32 (encN ((V la) % 57896044618658097711785492504343953926634992332820282019728792003956564819949) ((V lb) % 57896044618658097711785492504343953926634992332820282019728792003956564819949))))) else none
  | _ => none, fun it id => match id, it with
  | _, _ => none⟩
theorem run_ofc (la lb : List Int) : specW Try.prog noD (cC4 Try.prog) (h_ofc la lb) 1000 51 [(.nums .u8 la), (.nums .u8 lb)] [] (fun v M => v = (.tup [.nums .u8 (B32 (ofN (V la) (V lb))), .bool (onN (V la) (V lb))]) ∧ M = []) =
  ((0 = 0 ∧ la.length = 32) ∧ (By la) ∧ (0 = 0 ∧ lb.length = 32) ∧ (By lb) ∧ (IntKind.u64 = IntKind.u64 ∧ 0 = 0 ∧ (W4 (V la)).length = 4 ∧ ([0, 0, 0, 0] : List Int).length = 4) ∧ (IntKind.u64 = IntKind.u64 ∧ 0 = 0 ∧ (W4 (V lb)).length = 4 ∧ ([0, 0, 0, 0] : List Int).length = 4) ∧ (0 = 0 ∧ (W4 (V la)).length = 4) ∧ (0 = 0 ∧ (W4 (V la)).length = 4) ∧ (Ws 4 (W4 (V la)) ∧ Ws 4 (W4 (V la))) ∧ (AV.nums .u64 (W4 (fMul (Wv (W4 (V la))) (Wv (W4 (V la)))))) = (AV.nums .u64 (W4 (fMul (V la) (V la)))) ∧ (0 = 0 ∧ (W4 (V lb)).length = 4) ∧ (0 = 0 ∧ (W4 (V lb)).length = 4) ∧ (Ws 4 (W4 (V lb)) ∧ Ws 4 (W4 (V lb))) ∧ (AV.nums .u64 (W4 (fMul (Wv (W4 (V lb))) (Wv (W4 (V lb)))))) = (AV.nums .u64 (W4 (fMul (V lb) (V lb)))) ∧ (Ws 4 (W4 (fMul (V lb) (V lb))) ∧ Ws 4 (W4 (fMul (V la) (V la)))) ∧ (AV.nums .u64 (W4 (fLess (Wv (W4 (fMul (V lb) (V lb)))) (Wv (W4 (fMul (V la) (V la))))))) = (AV.nums .u64 (W4 (fLess (fMul (V lb) (V lb)) (fMul (V la) (V la))))) ∧ (Ws 4 (W4 (fLess (fMul (V lb) (V lb)) (fMul (V la) (V la))))) ∧ (AV.nums .u64 (W4 (Wv (W4 (fLess (fMul (V lb) (V lb)) (fMul (V la) (V la)))) % 57896044618658097711785492504343953926634992332820282019728792003956564819949))) = (AV.nums .u64 (W4 ((fLess (fMul (V lb) (V lb)) (fMul (V la) (V la))) % 57896044618658097711785492504343953926634992332820282019728792003956564819949))) ∧ (Ws 4 (W4 (fMul (V la) (V la))) ∧ Ws 4 (W4 (fMul (V lb) (V lb)))) ∧ (AV.nums .u64 (W4 (fMul (Wv (W4 (fMul (V la) (V la)))) (Wv (W4 (fMul (V lb) (V lb))))))) = (AV.nums .u64 (W4 (fMul (fMul (V la) (V la)) (fMul (V lb) (V lb))))) ∧ (Ws 4 (W4 (fMul (fMul (V la) (V la)) (fMul (V lb) (V lb)))) ∧ Ws 4 ([8496970652267935907, 31536524315187371, 10144147576115030168, 5909686906226998899] : List Int)) ∧ (AV.nums .u64 (W4 (fMul (Wv (W4 (fMul (fMul (V la) (V la)) (fMul (V lb) (V lb))))) (Wv ([8496970652267935907, 31536524315187371, 10144147576115030168, 5909686906226998899] : List Int))))) = (AV.nums .u64 (W4 (fMul (fMul (fMul (V la) (V la)) (fMul (V lb) (V lb))) dN))) ∧ (Ws 4 (W4 (fMul (fMul (fMul (V la) (V la)) (fMul (V lb) (V lb))) dN)) ∧ Ws 4 ([1, 0, 0, 0] : List Int)) ∧ (AV.nums .u64 (W4 (fPlus (Wv (W4 (fMul (fMul (fMul (V la) (V la)) (fMul (V lb) (V lb))) dN))) (Wv ([1, 0, 0, 0] : List Int))))) = (AV.nums .u64 (W4 (fPlus (fMul (fMul (fMul (V la) (V la)) (fMul (V lb) (V lb))) dN) 1))) ∧ (Ws 4 (W4 (fPlus (fMul (fMul (fMul (V la) (V la)) (fMul (V lb) (V lb))) dN) 1))) ∧ (AV.nums .u64 (W4 (Wv (W4 (fPlus (fMul (fMul (fMul (V la) (V la)) (fMul (V lb) (V lb))) dN) 1)) % 57896044618658097711785492504343953926634992332820282019728792003956564819949))) = (AV.nums .u64 (W4 ((fPlus (fMul (fMul (fMul (V la) (V la)) (fMul (V lb) (V lb))) dN) 1) % 57896044618658097711785492504343953926634992332820282019728792003956564819949))) ∧ (AV.bool (bif true then !((W4 ((fLess (fMul (V lb) (V lb)) (fMul (V la) (V la))) % 57896044618658097711785492504343953926634992332820282019728792003956564819949)) == (W4 ((fPlus (fMul (fMul (fMul (V la) (V la)) (fMul (V lb) (V lb))) dN) 1) % 57896044618658097711785492504343953926634992332820282019728792003956564819949))) else ((W4 ((fLess (fMul (V lb) (V lb)) (fMul (V la) (V la))) % 57896044618658097711785492504343953926634992332820282019728792003956564819949)) == (W4 ((fPlus (fMul (fMul (fMul (V la) (V la)) (fMul (V lb) (V lb))) dN) 1) % 57896044618658097711785492504343953926634992332820282019728792003956564819949))))) = (AV.bool (!(onN (V la) (V lb)))) ∧ (((!(onN (V la) (V lb))) = true → ((IntKind.u8 = IntKind.u8 ∧ 0 = 0 ∧ ([0, 0, 0, 0, 0, 0, 0, 0, 0, 0, 0, 0, 0, 0, 0, 0, 0, 0, 0, 0, 0, 0, 0, 0, 0, 0, 0, 0, 0, 0, 0, 0] : List Int).length = 32 ∧ ([0, 0, 0, 0, 0, 0, 0, 0, 0, 0, 0, 0, 0, 0, 0, 0, 0, 0, 0, 0, 0, 0, 0, 0, 0, 0, 0, 0, 0, 0, 0, 0] : List Int).length = 32) ∧ ((AV.tup [(.nums .u8 (List.replicate 32 0)), (.bool false)]) = (AV.tup [.nums .u8 (B32 (ofN (V la) (V lb))), .bool (onN (V la) (V lb))]) ∧ ([] : Mem) = []))) ∧ ((!(onN (V la) (V lb))) = false → ((0 = 0 ∧ (W4 (V la)).length = 4) ∧ (0 = 0 ∧ (W4 (V lb)).length = 4) ∧ (Ws 4 (W4 (V la)) ∧ Ws 4 (W4 (V lb))) ∧ (AV.nums .u8 (B32 (encN (Wv (W4 (V la)) % 57896044618658097711785492504343953926634992332820282019728792003956564819949) (Wv (W4 (V lb)) % 57896044618658097711785492504343953926634992332820282019728792003956564819949)))) = (AV.nums .u8 (B32 (encN ((V la) % 57896044618658097711785492504343953926634992332820282019728792003956564819949) ((V lb) % 57896044618658097711785492504343953926634992332820282019728792003956564819949)))) ∧ (IntKind.u8 = IntKind.u8 ∧ 0 = 0 ∧ (B32 (encN ((V la) % 57896044618658097711785492504343953926634992332820282019728792003956564819949) ((V lb) % 57896044618658097711785492504343953926634992332820282019728792003956564819949))).length = 32 ∧ ([0, 0, 0, 0, 0, 0, 0, 0, 0, 0, 0, 0, 0, 0, 0, 0, 0, 0, 0, 0, 0, 0, 0, 0, 0, 0, 0, 0, 0, 0, 0, 0] : List Int).length = 32) ∧ ((AV.tup [(.nums .u8 (B32 (encN ((V la) % 57896044618658097711785492504343953926634992332820282019728792003956564819949) ((V lb) % 57896044618658097711785492504343953926634992332820282019728792003956564819949)))), (.bool true)]) = (AV.tup [.nums .u8 (B32 (ofN (V la) (V lb))), .bool (onN (V la) (V lb))]) ∧ ([] : Mem) = []))))) := by kernel_rfl
theorem ofc_ok {la lb : List Int} (hyp : By la ∧ By lb) : ∃ D H N, specW Try.prog D (cC4 Try.prog) H N 51 [(.nums .u8 la), (.nums .u8 lb)] [] fun v M => v = (.tup [.nums .u8 (B32 (ofN (V la) (V lb))), .bool (onN (V la) (V lb))]) ∧ M = [] := by
  obtain ⟨ha, hB⟩ := hyp
  refine ⟨noD, _, 1000, Eq.mpr (run_ofc la lb) ⟨⟨rfl, ha.1⟩, ha, ⟨rfl, hB.1⟩, hB, ⟨rfl, rfl, rfl, rfl⟩, ⟨rfl, rfl, rfl, rfl⟩, ⟨rfl, rfl⟩, ⟨rfl, rfl⟩, ⟨Ws_W4 _, Ws_W4 _⟩, (by rw [@WvW (V la) (By_lt ha)]), ⟨rfl, rfl⟩, ⟨rfl, rfl⟩, ⟨Ws_W4 _, Ws_W4 _⟩, (by rw [@WvW (V lb) (By_lt hB)]), ⟨Ws_W4 _, Ws_W4 _⟩, (by rw [@WvW (fMul (V la) (V la)) (fMul_lt (By_lt ha) (By_lt ha)), @WvW (fMul (V lb) (V lb)) (fMul_lt (By_lt hB) (By_lt hB))]), Ws_W4 _, (by rw [@WvW (fLess (fMul (V lb) (V lb)) (fMul (V la) (V la))) (fLess_lt (fMul_lt (By_lt hB) (By_lt hB)))]), ⟨Ws_W4 _, Ws_W4 _⟩, (by rw [@WvW (fMul (V lb) (V lb)) (fMul_lt (By_lt hB) (By_lt hB)), @WvW (fMul (V la) (V la)) (fMul_lt (By_lt ha) (By_lt ha))]), ⟨Ws_W4 _, ⟨rfl, by decide⟩⟩, (by rw [(show Wv [8496970652267935907, 31536524315187371, 10144147576115030168, 5909686906226998899] = dN by decide), @WvW (fMul (fMul (V la) (V la)) (fMul (V lb) (V lb))) (fMul_lt (fMul_lt (By_lt ha) (By_lt ha)) (fMul_lt (By_lt hB) (By_lt hB)))]), ⟨Ws_W4 _, ⟨rfl, by decide⟩⟩, (by rw [(show Wv [1, 0, 0, 0] = 1 by decide), @WvW (fMul (fMul (fMul (V la) (V la)) (fMul (V lb) (V lb))) dN) (fMul_lt (fMul_lt (fMul_lt (By_lt ha) (By_lt ha)) (fMul_lt (By_lt hB) (By_lt hB))) (by decide))]), Ws_W4 _, (by rw [@WvW (fPlus (fMul (fMul (fMul (V la) (V la)) (fMul (V lb) (V lb))) dN) 1) (fPlus_lt (fMul_lt (fMul_lt (fMul_lt (By_lt ha) (By_lt ha)) (fMul_lt (By_lt hB) (By_lt hB))) (by decide)) (by decide))]), (by rw [cond_true, W4_eq (by first | exact modP_lt _ | exact LtPB (rS_lt _ _)) (by first | exact modP_lt _ | exact LtPB (rA_lt _ _)), on_f]), ⟨fun hb => ⟨⟨rfl, rfl, rfl, rfl⟩, ⟨?_, rfl⟩⟩, fun hb => ⟨⟨rfl, rfl⟩, ⟨rfl, rfl⟩, ⟨Ws_W4 _, Ws_W4 _⟩, (by rw [@WvW (V lb) (By_lt hB), @WvW (V la) (By_lt ha)]), ⟨rfl, rfl, B32_len _, rfl⟩, ⟨?_, rfl⟩⟩⟩⟩⟩
  · have h := notT hb
    rw [ofN_no h, h]
  · have h := notF hb
    skip
    unfold ofN
    rw [h, cond_true]
def h_ofcr (la lb : List Int) : Hints := ⟨fun it t => match t with
  | 10 => bif eqIt [] it then some .ask else none
  | 12 => bif eqIt [] it then some (.val (.nums .u64 (W4 ((V la) % 57896044618658097711785492504343953926634992332820282019728792003956564819949)))) else none
  | 13 => bif eqIt [] it then some .ask else none
  | 15 => bif eqIt [] it then some (.val (.nums .u64 (W4 ((V lb) % 57896044618658097711785492504343953926634992332820282019728792003956564819949)))) else none
  | 18 => bif eqIt [] it then some (.val (.nums .u64 (W4 (rM ((V la) % 57896044618658097711785492504343953926634992332820282019728792003956564819949) ((V la) % 57896044618658097711785492504343953926634992332820282019728792003956564819949))))) else none
  | 21 => bif eqIt [] it then some (.val (.nums .u64 (W4 (rM ((V lb) % 57896044618658097711785492504343953926634992332820282019728792003956564819949) ((V lb) % 57896044618658097711785492504343953926634992332820282019728792003956564819949))))) else none
  | 24 => bif eqIt [] it then some (.val (.nums .u64 (W4 (rS (rM ((V lb) % 57896044618658097711785492504343953926634992332820282019728792003956564819949) ((V lb) % 57896044618658097711785492504343953926634992332820282019728792003956564819949)) (rM ((V la) % 57896044618658097711785492504343953926634992332820282019728792003956564819949) ((V la) % 57896044618658097711785492504343953926634992332820282019728792003956564819949)))))) else none
  | 29 => bif eqIt [] it then some (.val (.nums .u64 (W4 (rM (rM ((V la) % 57896044618658097711785492504343953926634992332820282019728792003956564819949) ((V la) % 57896044618658097711785492504343953926634992332820282019728792003956564819949)) (rM ((V lb) % 57896044618658097711785492504343953926634992332820282019728792003956564819949) ((V lb) % 57896044618658097711785492504343953926634992332820282019728792003956564819949)))))) else none
  | 30 => bif eqIt [] it then some (.val (.nums .u64 (W4 (rM dN (rM (rM ((V la) % 57896044618658097711785492504343953926634992332820282019728792003956564819949) ((V la) % 57896044618658097711785492504343953926634992332820282019728792003956564819949)) (rM ((V lb) % 57896044618658097711785492504343953926634992332820282019728792003956564819949) ((V lb) % 57896044618658097711785492504343953926634992332820282019728792003956564819949))))))) else none
  | 31 => bif eqIt [] it then some (.val (.nums .u64 (W4 (rA 1 (rM dN (rM (rM ((V la) % 57896044618658097711785492504343953926634992332820282019728792003956564819949) ((V la) % 57896044618658097711785492504343953926634992332820282019728792003956564819949)) (rM ((V lb) % 57896044618658097711785492504343953926634992332820282019728792003956564819949) ((V lb) % 57896044618658097711785492504343953926634992332820282019728792003956564819949)))))))) else none
  | 32 => bif eqIt [] it then some (.val (.bool (!(onN (V la) (V lb))))) else none
  | 200032 => bif eqIt [] it then some .ask else none
  | 100004 => bif eqIt [] it then some .ask else none
  | 37 => bif eqIt [] it then some (.val (.nums .u8 (B32 (packN (Qv (W16 (flatN ((V la) % 57896044618658097711785492504343953926634992332820282019728792003956564819949) ((V lb) % 57896044618658097711785492504343953926634992332820282019728792003956564819949)))))))) else none
  | _ => none, fun it id => match id, it with
  | _, _ => none⟩
theorem run_ofcr (la lb : List Int) : specW Try.prog noD (cC4 Try.prog) (h_ofcr la lb) 1000 52 [(.nums .u8 la), (.nums .u8 lb)] [] (fun v M => v = (.tup [.nums .u8 (B32 (ofN (V la) (V lb))), .bool (onN (V la) (V lb))]) ∧ M = []) =
  ((0 = 0 ∧ la.length = 32) ∧ (By la) ∧ (Ws 4 (W4 (V la))) ∧ (AV.nums .u64 (W4 (Wv (W4 (V la)) % 57896044618658097711785492504343953926634992332820282019728792003956564819949))) = (AV.nums .u64 (W4 ((V la) % 57896044618658097711785492504343953926634992332820282019728792003956564819949))) ∧ (0 = 0 ∧ lb.length = 32) ∧ (By lb) ∧ (Ws 4 (W4 (V lb))) ∧ (AV.nums .u64 (W4 (Wv (W4 (V lb)) % 57896044618658097711785492504343953926634992332820282019728792003956564819949))) = (AV.nums .u64 (W4 ((V lb) % 57896044618658097711785492504343953926634992332820282019728792003956564819949))) ∧ (Ws 4 (W4 ((V la) % 57896044618658097711785492504343953926634992332820282019728792003956564819949)) ∧ Ws 4 (W4 ((V la) % 57896044618658097711785492504343953926634992332820282019728792003956564819949))) ∧ (AV.nums .u64 (W4 (rM (Wv (W4 ((V la) % 57896044618658097711785492504343953926634992332820282019728792003956564819949))) (Wv (W4 ((V la) % 57896044618658097711785492504343953926634992332820282019728792003956564819949)))))) = (AV.nums .u64 (W4 (rM ((V la) % 57896044618658097711785492504343953926634992332820282019728792003956564819949) ((V la) % 57896044618658097711785492504343953926634992332820282019728792003956564819949)))) ∧ (Ws 4 (W4 ((V lb) % 57896044618658097711785492504343953926634992332820282019728792003956564819949)) ∧ Ws 4 (W4 ((V lb) % 57896044618658097711785492504343953926634992332820282019728792003956564819949))) ∧ (AV.nums .u64 (W4 (rM (Wv (W4 ((V lb) % 57896044618658097711785492504343953926634992332820282019728792003956564819949))) (Wv (W4 ((V lb) % 57896044618658097711785492504343953926634992332820282019728792003956564819949)))))) = (AV.nums .u64 (W4 (rM ((V lb) % 57896044618658097711785492504343953926634992332820282019728792003956564819949) ((V lb) % 57896044618658097711785492504343953926634992332820282019728792003956564819949)))) ∧ (Ws 4 (W4 (rM ((V lb) % 57896044618658097711785492504343953926634992332820282019728792003956564819949) ((V lb) % 57896044618658097711785492504343953926634992332820282019728792003956564819949))) ∧ Ws 4 (W4 (rM ((V la) % 57896044618658097711785492504343953926634992332820282019728792003956564819949) ((V la) % 57896044618658097711785492504343953926634992332820282019728792003956564819949))) ∧ Wv (W4 (rM ((V lb) % 57896044618658097711785492504343953926634992332820282019728792003956564819949) ((V lb) % 57896044618658097711785492504343953926634992332820282019728792003956564819949))) < 57896044618658097711785492504343953926634992332820282019728792003956564819949 ∧ Wv (W4 (rM ((V la) % 57896044618658097711785492504343953926634992332820282019728792003956564819949) ((V la) % 57896044618658097711785492504343953926634992332820282019728792003956564819949))) < 57896044618658097711785492504343953926634992332820282019728792003956564819949) ∧ (AV.nums .u64 (W4 (rS (Wv (W4 (rM ((V lb) % 57896044618658097711785492504343953926634992332820282019728792003956564819949) ((V lb) % 57896044618658097711785492504343953926634992332820282019728792003956564819949)))) (Wv (W4 (rM ((V la) % 57896044618658097711785492504343953926634992332820282019728792003956564819949) ((V la) % 57896044618658097711785492504343953926634992332820282019728792003956564819949))))))) = (AV.nums .u64 (W4 (rS (rM ((V lb) % 57896044618658097711785492504343953926634992332820282019728792003956564819949) ((V lb) % 57896044618658097711785492504343953926634992332820282019728792003956564819949)) (rM ((V la) % 57896044618658097711785492504343953926634992332820282019728792003956564819949) ((V la) % 57896044618658097711785492504343953926634992332820282019728792003956564819949))))) ∧ (Ws 4 (W4 (rM ((V la) % 57896044618658097711785492504343953926634992332820282019728792003956564819949) ((V la) % 57896044618658097711785492504343953926634992332820282019728792003956564819949))) ∧ Ws 4 (W4 (rM ((V lb) % 57896044618658097711785492504343953926634992332820282019728792003956564819949) ((V lb) % 57896044618658097711785492504343953926634992332820282019728792003956564819949)))) ∧ (AV.nums .u64 (W4 (rM (Wv (W4 (rM ((V la) % 57896044618658097711785492504343953926634992332820282019728792003956564819949) ((V la) % 57896044618658097711785492504343953926634992332820282019728792003956564819949)))) (Wv (W4 (rM ((V lb) % 57896044618658097711785492504343953926634992332820282019728792003956564819949) ((V lb) % 57896044618658097711785492504343953926634992332820282019728792003956564819949))))))) = (AV.nums .u64 (W4 (rM (rM ((V la) % 57896044618658097711785492504343953926634992332820282019728792003956564819949) ((V la) % 57896044618658097711785492504343953926634992332820282019728792003956564819949)) (rM ((V lb) % 57896044618658097711785492504343953926634992332820282019728792003956564819949) ((V lb) % 57896044618658097711785492504343953926634992332820282019728792003956564819949))))) ∧ (Ws 4 ([8496970652267935907, 31536524315187371, 10144147576115030168, 5909686906226998899] : List Int) ∧ Ws 4 (W4 (rM (rM ((V la) % 57896044618658097711785492504343953926634992332820282019728792003956564819949) ((V la) % 57896044618658097711785492504343953926634992332820282019728792003956564819949)) (rM ((V lb) % 57896044618658097711785492504343953926634992332820282019728792003956564819949) ((V lb) % 57896044618658097711785492504343953926634992332820282019728792003956564819949))))) ∧ (AV.nums .u64 (W4 (rM (Wv ([8496970652267935907, 31536524315187371, 10144147576115030168, 5909686906226998899] : List Int)) (Wv (W4 (rM (rM ((V la) % 57896044618658097711785492504343953926634992332820282019728792003956564819949) ((V la) % 57896044618658097711785492504343953926634992332820282019728792003956564819949)) (rM ((V lb) % 57896044618658097711785492504343953926634992332820282019728792003956564819949) ((V lb) % 57896044618658097711785492504343953926634992332820282019728792003956564819949)))))))) = (AV.nums .u64 (W4 (rM dN (rM (rM ((V la) % 57896044618658097711785492504343953926634992332820282019728792003956564819949) ((V la) % 57896044618658097711785492504343953926634992332820282019728792003956564819949)) (rM ((V lb) % 57896044618658097711785492504343953926634992332820282019728792003956564819949) ((V lb) % 57896044618658097711785492504343953926634992332820282019728792003956564819949)))))) ∧ (Ws 4 ([1, 0, 0, 0] : List Int) ∧ Ws 4 (W4 (rM dN (rM (rM ((V la) % 57896044618658097711785492504343953926634992332820282019728792003956564819949) ((V la) % 57896044618658097711785492504343953926634992332820282019728792003956564819949)) (rM ((V lb) % 57896044618658097711785492504343953926634992332820282019728792003956564819949) ((V lb) % 57896044618658097711785492504343953926634992332820282019728792003956564819949)))))) ∧ (AV.nums .u64 (W4 (rA (Wv ([1, 0, 0, 0] : List Int)) (Wv (W4 (rM dN (rM (rM ((V la) % 57896044618658097711785492504343953926634992332820282019728792003956564819949) ((V la) % 57896044618658097711785492504343953926634992332820282019728792003956564819949)) (rM ((V lb) % 57896044618658097711785492504343953926634992332820282019728792003956564819949) ((V lb) % 57896044618658097711785492504343953926634992332820282019728792003956564819949))))))))) = (AV.nums .u64 (W4 (rA 1 (rM dN (rM (rM ((V la) % 57896044618658097711785492504343953926634992332820282019728792003956564819949) ((V la) % 57896044618658097711785492504343953926634992332820282019728792003956564819949)) (rM ((V lb) % 57896044618658097711785492504343953926634992332820282019728792003956564819949) ((V lb) % 57896044618658097711785492504343953926634992332820282019728792003956564819949))))))) ∧ (AV.bool (bif true then !((W4 (rS (rM ((V lb) % 57896044618658097711785492504343953926634992332820282019728792003956564819949) ((V lb) % 57896044618658097711785492504343953926634992332820282019728792003956564819949)) (rM ((V la) % 57896044618658097711785492504343953926634992332820282019728792003956564819949) ((V la) % 57896044618658097711785492504343953926634992332820282019728792003956564819949)))) == (W4 (rA 1 (rM dN (rM (rM ((V la) % 57896044618658097711785492504343953926634992332820282019728792003956564819949) ((V la) % 57896044618658097711785492504343953926634992332820282019728792003956564819949)) (rM ((V lb) % 57896044618658097711785492504343953926634992332820282019728792003956564819949) ((V lb) % 57896044618658097711785492504343953926634992332820282019728792003956564819949))))))) else ((W4 (rS (rM ((V lb) % 57896044618658097711785492504343953926634992332820282019728792003956564819949) ((V lb) % 57896044618658097711785492504343953926634992332820282019728792003956564819949)) (rM ((V la) % 57896044618658097711785492504343953926634992332820282019728792003956564819949) ((V la) % 57896044618658097711785492504343953926634992332820282019728792003956564819949)))) == (W4 (rA 1 (rM dN (rM (rM ((V la) % 57896044618658097711785492504343953926634992332820282019728792003956564819949) ((V la) % 57896044618658097711785492504343953926634992332820282019728792003956564819949)) (rM ((V lb) % 57896044618658097711785492504343953926634992332820282019728792003956564819949) ((V lb) % 57896044618658097711785492504343953926634992332820282019728792003956564819949))))))))) = (AV.bool (!(onN (V la) (V lb)))) ∧ (((!(onN (V la) (V lb))) = true → ((IntKind.u8 = IntKind.u8 ∧ 0 = 0 ∧ ([0, 0, 0, 0, 0, 0, 0, 0, 0, 0, 0, 0, 0, 0, 0, 0, 0, 0, 0, 0, 0, 0, 0, 0, 0, 0, 0, 0, 0, 0, 0, 0] : List Int).length = 32 ∧ ([0, 0, 0, 0, 0, 0, 0, 0, 0, 0, 0, 0, 0, 0, 0, 0, 0, 0, 0, 0, 0, 0, 0, 0, 0, 0, 0, 0, 0, 0, 0, 0] : List Int).length = 32) ∧ ((AV.tup [(.nums .u8 (List.replicate 32 0)), (.bool false)]) = (AV.tup [.nums .u8 (B32 (ofN (V la) (V lb))), .bool (onN (V la) (V lb))]) ∧ ([] : Mem) = []))) ∧ ((!(onN (V la) (V lb))) = false → ((Ws 4 (W4 ((V la) % 57896044618658097711785492504343953926634992332820282019728792003956564819949)) ∧ Ws 4 (W4 ((V lb) % 57896044618658097711785492504343953926634992332820282019728792003956564819949))) ∧ (Ws 16 (W16 (flatN (Wv (W4 ((V la) % 57896044618658097711785492504343953926634992332820282019728792003956564819949))) (Wv (W4 ((V lb) % 57896044618658097711785492504343953926634992332820282019728792003956564819949)))))) ∧ (AV.nums .u8 (B32 (packN (Qv (W16 (flatN (Wv (W4 ((V la) % 57896044618658097711785492504343953926634992332820282019728792003956564819949))) (Wv (W4 ((V lb) % 57896044618658097711785492504343953926634992332820282019728792003956564819949))))))))) = (AV.nums .u8 (B32 (packN (Qv (W16 (flatN ((V la) % 57896044618658097711785492504343953926634992332820282019728792003956564819949) ((V lb) % 57896044618658097711785492504343953926634992332820282019728792003956564819949))))))) ∧ (IntKind.u8 = IntKind.u8 ∧ 0 = 0 ∧ (B32 (packN (Qv (W16 (flatN ((V la) % 57896044618658097711785492504343953926634992332820282019728792003956564819949) ((V lb) % 57896044618658097711785492504343953926634992332820282019728792003956564819949)))))).length = 32 ∧ ([0, 0, 0, 0, 0, 0, 0, 0, 0, 0, 0, 0, 0, 0, 0, 0, 0, 0, 0, 0, 0, 0, 0, 0, 0, 0, 0, 0, 0, 0, 0, 0] : List Int).length = 32) ∧ ((AV.tup [(.nums .u8 (B32 (packN (Qv (W16 (flatN ((V la) % 57896044618658097711785492504343953926634992332820282019728792003956564819949) ((V lb) % 57896044618658097711785492504343953926634992332820282019728792003956564819949))))))), (.bool true)]) = (AV.tup [.nums .u8 (B32 (ofN (V la) (V lb))), .bool (onN (V la) (V lb))]) ∧ ([] : Mem) = []))))) := by kernel_rfl
theorem ofcr_ok {la lb : List Int} (hyp : By la ∧ By lb) : ∃ D H N, specW Try.prog D (cC4 Try.prog) H N 52 [(.nums .u8 la), (.nums .u8 lb)] [] fun v M => v = (.tup [.nums .u8 (B32 (ofN (V la) (V lb))), .bool (onN (V la) (V lb))]) ∧ M = [] := by
  obtain ⟨ha, hB⟩ := hyp
  refine ⟨noD, _, 1000, Eq.mpr (run_ofcr la lb) ⟨⟨rfl, ha.1⟩, ha, Ws_W4 _, (by rw [@WvW (V la) (By_lt ha)]), ⟨rfl, hB.1⟩, hB, Ws_W4 _, (by rw [@WvW (V lb) (By_lt hB)]), ⟨Ws_W4 _, Ws_W4 _⟩, (by rw [@WvW ((V la) % 57896044618658097711785492504343953926634992332820282019728792003956564819949) (modP_lt _)]), ⟨Ws_W4 _, Ws_W4 _⟩, (by rw [@WvW ((V lb) % 57896044618658097711785492504343953926634992332820282019728792003956564819949) (modP_lt _)]), ⟨Ws_W4 _, Ws_W4 _, (WvP (LtPB (rM_lt _ _)) (rM_lt _ _)), (WvP (LtPB (rM_lt _ _)) (rM_lt _ _))⟩, (by rw [@WvW (rM ((V la) % 57896044618658097711785492504343953926634992332820282019728792003956564819949) ((V la) % 57896044618658097711785492504343953926634992332820282019728792003956564819949)) (LtPB (rM_lt _ _)), @WvW (rM ((V lb) % 57896044618658097711785492504343953926634992332820282019728792003956564819949) ((V lb) % 57896044618658097711785492504343953926634992332820282019728792003956564819949)) (LtPB (rM_lt _ _))]), ⟨Ws_W4 _, Ws_W4 _⟩, (by rw [@WvW (rM ((V lb) % 57896044618658097711785492504343953926634992332820282019728792003956564819949) ((V lb) % 57896044618658097711785492504343953926634992332820282019728792003956564819949)) (LtPB (rM_lt _ _)), @WvW (rM ((V la) % 57896044618658097711785492504343953926634992332820282019728792003956564819949) ((V la) % 57896044618658097711785492504343953926634992332820282019728792003956564819949)) (LtPB (rM_lt _ _))]), ⟨⟨rfl, by decide⟩, Ws_W4 _⟩, (by rw [(show Wv [8496970652267935907, 31536524315187371, 10144147576115030168, 5909686906226998899] = dN by decide), @WvW (rM (rM ((V la) % 57896044618658097711785492504343953926634992332820282019728792003956564819949) ((V la) % 57896044618658097711785492504343953926634992332820282019728792003956564819949)) (rM ((V lb) % 57896044618658097711785492504343953926634992332820282019728792003956564819949) ((V lb) % 57896044618658097711785492504343953926634992332820282019728792003956564819949))) (LtPB (rM_lt _ _))]), ⟨⟨rfl, by decide⟩, Ws_W4 _⟩, (by rw [(show Wv [1, 0, 0, 0] = 1 by decide), @WvW (rM dN (rM (rM ((V la) % 57896044618658097711785492504343953926634992332820282019728792003956564819949) ((V la) % 57896044618658097711785492504343953926634992332820282019728792003956564819949)) (rM ((V lb) % 57896044618658097711785492504343953926634992332820282019728792003956564819949) ((V lb) % 57896044618658097711785492504343953926634992332820282019728792003956564819949)))) (LtPB (rM_lt _ _))]), (by rw [cond_true, W4_eq (by first | exact modP_lt _ | exact LtPB (rS_lt _ _)) (by first | exact modP_lt _ | exact LtPB (rA_lt _ _)), on_r]), ⟨fun hb => ⟨⟨rfl, rfl, rfl, rfl⟩, ⟨?_, rfl⟩⟩, fun hb => ⟨⟨Ws_W4 _, Ws_W4 _⟩, Ws_W16 _, (by rw [@WvW ((V lb) % 57896044618658097711785492504343953926634992332820282019728792003956564819949) (modP_lt _), @WvW ((V la) % 57896044618658097711785492504343953926634992332820282019728792003956564819949) (modP_lt _)]), ⟨rfl, rfl, B32_len _, rfl⟩, ⟨?_, rfl⟩⟩⟩⟩⟩
  · have h := notT hb
    rw [ofN_no h, h]
  · have h := notF hb
    rw [QvW (LtP_B (flat_lt (Nat.mod_lt _ (by decide)) (Nat.mod_lt _ (by decide)))), pack_flat (Nat.mod_lt _ (by decide)) (Nat.mod_lt _ (by decide))]
    unfold ofN
    rw [h, cond_true]
def h_addcA (la lb : List Int) : Hints := ⟨fun it t => match t with
  | 11 => bif eqIt [] it then some .ask else none
  | 12 => bif eqIt [] it then some (.val (.tup [(.nums .u64 (W16 ⟨(sxN (V la)), (syN (V la)), 1, (fMul (sxN (V la)) (syN (V la)))⟩)), (.bool true)])) else none
  | 16 => bif eqIt [] it then some .ask else none
  | 17 => bif eqIt [] it then some (.val (.tup [(.nums .u64 (W16 ⟨(sxN (V lb)), (syN (V lb)), 1, (fMul (sxN (V lb)) (syN (V lb)))⟩)), (.bool true)])) else none
  | 100004 => bif eqIt [] it then some .ask else none
  | _ => none, fun it id => match id, it with
  | _, _ => none⟩
theorem run_addcA (la lb : List Int) : specW Try.prog noD (cC4 Try.prog) (h_addcA la lb) 1000 46 [(.nums .u8 la), (.nums .u8 lb)] [] (fun v M => v = (.tup [.nums .u8 (B32 (addE (V la) (V lb))), .bool true]) ∧ M = []) =
  ((0 = 0 ∧ la.length = 32) ∧ (By la) ∧ (AV.tup [(.nums .u64 (W16 ⟨(sxN (V la)), (syN (V la)), 1, (fMul (sxN (V la)) (syN (V la)))⟩)), (.bool (okN (V la)))]) = (AV.tup [(.nums .u64 (W16 ⟨(sxN (V la)), (syN (V la)), 1, (fMul (sxN (V la)) (syN (V la)))⟩)), (.bool true)]) ∧ (0 = 0 ∧ lb.length = 32) ∧ (By lb) ∧ (AV.tup [(.nums .u64 (W16 ⟨(sxN (V lb)), (syN (V lb)), 1, (fMul (sxN (V lb)) (syN (V lb)))⟩)), (.bool (okN (V lb)))]) = (AV.tup [(.nums .u64 (W16 ⟨(sxN (V lb)), (syN (V lb)), 1, (fMul (sxN (V lb)) (syN (V lb)))⟩)), (.bool true)]) ∧ (Ws 16 (W16 ⟨(sxN (V la)), (syN (V la)), 1, (fMul (sxN (V la)) (syN (V la)))⟩) ∧ Ws 16 (W16 ⟨(sxN (V lb)), (syN (V lb)), 1, (fMul (sxN (V lb)) (syN (V lb)))⟩)) ∧ (Ws 16 (W16 (sumF (Qv (W16 ⟨(sxN (V la)), (syN (V la)), 1, (fMul (sxN (V la)) (syN (V la)))⟩)) (Qv (W16 ⟨(sxN (V lb)), (syN (V lb)), 1, (fMul (sxN (V lb)) (syN (V lb)))⟩))))) ∧ (IntKind.u8 = IntKind.u8 ∧ 0 = 0 ∧ (B32 (packN (Qv (W16 (sumF (Qv (W16 ⟨(sxN (V la)), (syN (V la)), 1, (fMul (sxN (V la)) (syN (V la)))⟩)) (Qv (W16 ⟨(sxN (V lb)), (syN (V lb)), 1, (fMul (sxN (V lb)) (syN (V lb)))⟩))))))).length = 32 ∧ ([0, 0, 0, 0, 0, 0, 0, 0, 0, 0, 0, 0, 0, 0, 0, 0, 0, 0, 0, 0, 0, 0, 0, 0, 0, 0, 0, 0, 0, 0, 0, 0] : List Int).length = 32) ∧ ((AV.tup [(.nums .u8 (B32 (packN (Qv (W16 (sumF (Qv (W16 ⟨(sxN (V la)), (syN (V la)), 1, (fMul (sxN (V la)) (syN (V la)))⟩)) (Qv (W16 ⟨(sxN (V lb)), (syN (V lb)), 1, (fMul (sxN (V lb)) (syN (V lb)))⟩)))))))), (.bool true)]) = (AV.tup [.nums .u8 (B32 (addE (V la) (V lb))), .bool true]) ∧ ([] : Mem) = [])) := by kernel_rfl
theorem addcA_ok {la lb : List Int} (hyp : By la ∧ By lb ∧ okN (V la) = true ∧ okN (V lb) = true) : ∃ D H N, specW Try.prog D (cC4 Try.prog) H N 46 [(.nums .u8 la), (.nums .u8 lb)] [] fun v M => v = (.tup [.nums .u8 (B32 (addE (V la) (V lb))), .bool true]) ∧ M = [] := by
  obtain ⟨ha, hB, c1, c2⟩ := hyp
  refine ⟨noD, _, 1000, Eq.mpr (run_addcA la lb) ⟨⟨rfl, ha.1⟩, ha, (by rw [c1]), ⟨rfl, hB.1⟩, hB, (by rw [c2]), ⟨Ws_W16 _, Ws_W16 _⟩, Ws_W16 _, ⟨rfl, rfl, B32_len _, rfl⟩, ⟨?_, rfl⟩⟩⟩
  have e1 := QvW (flatF_lt (V la))
  have e2 := QvW (flatF_lt (V lb))
  unfold flatF at e1 e2
  rw [e1, e2]
  have := aF_eq c1 c2
  show AV.tup [.nums .u8 (B32 (packN (Qv (W16 (sumF (flatF (sxN (V la)) (syN (V la))) (flatF (sxN (V lb)) (syN (V lb)))))))), .bool true] = _
  rw [QvW (sumF_lt (flatF_lt _) (flatF_lt _)), this]
def h_addcB (la lb : List Int) : Hints := ⟨fun it t => match t with
  | 11 => bif eqIt [] it then some .ask else none
  | 12 => bif eqIt [] it then some (.val (.tup [(.nums .u64 (W16 ⟨(sxN (V la)), (syN (V la)), 1, (fMul (sxN (V la)) (syN (V la)))⟩)), (.bool false)])) else none
  | 16 => bif eqIt [] it then some .ask else none
  | _ => none, fun it id => match id, it with
  | _, _ => none⟩
theorem run_addcB (la lb : List Int) : specW Try.prog noD (cC4 Try.prog) (h_addcB la lb) 1000 46 [(.nums .u8 la), (.nums .u8 lb)] [] (fun v M => v = (.tup [.nums .u8 (List.replicate 32 0), .bool false]) ∧ M = []) =
  ((0 = 0 ∧ la.length = 32) ∧ (By la) ∧ (AV.tup [(.nums .u64 (W16 ⟨(sxN (V la)), (syN (V la)), 1, (fMul (sxN (V la)) (syN (V la)))⟩)), (.bool (okN (V la)))]) = (AV.tup [(.nums .u64 (W16 ⟨(sxN (V la)), (syN (V la)), 1, (fMul (sxN (V la)) (syN (V la)))⟩)), (.bool false)]) ∧ (0 = 0 ∧ lb.length = 32) ∧ (By lb) ∧ ((AV.tup [(.nums .u8 (List.replicate 32 0)), (.bool false)]) = (AV.tup [.nums .u8 (List.replicate 32 0), .bool false]) ∧ ([] : Mem) = [])) := by kernel_rfl
theorem addcB_ok {la lb : List Int} (hyp : By la ∧ By lb ∧ okN (V la) = false) : ∃ D H N, specW Try.prog D (cC4 Try.prog) H N 46 [(.nums .u8 la), (.nums .u8 lb)] [] fun v M => v = (.tup [.nums .u8 (List.replicate 32 0), .bool false]) ∧ M = [] := by
  obtain ⟨ha, hB, c1⟩ := hyp
  refine ⟨noD, _, 1000, Eq.mpr (run_addcB la lb) ⟨⟨rfl, ha.1⟩, ha, (by rw [c1]), ⟨rfl, hB.1⟩, hB, ⟨rfl, rfl⟩⟩⟩
def h_addcC (la lb : List Int) : Hints := ⟨fun it t => match t with
  | 11 => bif eqIt [] it then some .ask else none
  | 12 => bif eqIt [] it then some (.val (.tup [(.nums .u64 (W16 ⟨(sxN (V la)), (syN (V la)), 1, (fMul (sxN (V la)) (syN (V la)))⟩)), (.bool true)])) else none
  | 16 => bif eqIt [] it then some .ask else none
  | 17 => bif eqIt [] it then some (.val (.tup [(.nums .u64 (W16 ⟨(sxN (V lb)), (syN (V lb)), 1, (fMul (sxN (V lb)) (syN (V lb)))⟩)), (.bool false)])) else none
  | _ => none, fun it id => match id, it with
  | _, _ => none⟩
theorem run_addcC (la lb : List Int) : specW Try.prog noD (cC4 Try.prog) (h_addcC la lb) 1000 46 [(.nums .u8 la), (.nums .u8 lb)] [] (fun v M => v = (.tup [.nums .u8 (List.replicate 32 0), .bool false]) ∧ M = []) =
  ((0 = 0 ∧ la.length = 32) ∧ (By la) ∧ (AV.tup [(.nums .u64 (W16 ⟨(sxN (V la)), (syN (V la)), 1, (fMul (sxN (V la)) (syN (V la)))⟩)), (.bool (okN (V la)))]) = (AV.tup [(.nums .u64 (W16 ⟨(sxN (V la)), (syN (V la)), 1, (fMul (sxN (V la)) (syN (V la)))⟩)), (.bool true)]) ∧ (0 = 0 ∧ lb.length = 32) ∧ (By lb) ∧ (AV.tup [(.nums .u64 (W16 ⟨(sxN (V lb)), (syN (V lb)), 1, (fMul (sxN (V lb)) (syN (V lb)))⟩)), (.bool (okN (V lb)))]) = (AV.tup [(.nums .u64 (W16 ⟨(sxN (V lb)), (syN (V lb)), 1, (fMul (sxN (V lb)) (syN (V lb)))⟩)), (.bool false)]) ∧ ((AV.tup [(.nums .u8 (List.replicate 32 0)), (.bool false)]) = (AV.tup [.nums .u8 (List.replicate 32 0), .bool false]) ∧ ([] : Mem) = [])) := by kernel_rfl
theorem addcC_ok {la lb : List Int} (hyp : By la ∧ By lb ∧ okN (V la) = true ∧ okN (V lb) = false) : ∃ D H N, specW Try.prog D (cC4 Try.prog) H N 46 [(.nums .u8 la), (.nums .u8 lb)] [] fun v M => v = (.tup [.nums .u8 (List.replicate 32 0), .bool false]) ∧ M = [] := by
  obtain ⟨ha, hB, c1, c2⟩ := hyp
  refine ⟨noD, _, 1000, Eq.mpr (run_addcC la lb) ⟨⟨rfl, ha.1⟩, ha, (by rw [c1]), ⟨rfl, hB.1⟩, hB, (by rw [c2]), ⟨rfl, rfl⟩⟩⟩
theorem addc_ok {la lb : List Int} (hyp : By la ∧ By lb) : ∃ D H N, specW Try.prog D (cC4 Try.prog) H N 46 [.nums .u8 la, .nums .u8 lb] [] fun v M => v = .tup [.nums .u8 (B32 (addE (V la) (V lb))), .bool (okN (V la) && okN (V lb))] ∧ M = [] := by
  obtain ⟨ha, hB⟩ := hyp
  cases c1 : okN (V la) with
  | false => rw [addE_no (by rw [c1]; rfl)]; exact addcB_ok ⟨ha, hB, c1⟩
  | true =>
    cases c2 : okN (V lb) with
    | false => rw [addE_no (by rw [c1, c2]; rfl)]; exact addcC_ok ⟨ha, hB, c1, c2⟩
    | true => exact addcA_ok ⟨ha, hB, c1, c2⟩
def h_addcrA (la lb : List Int) : Hints := ⟨fun it t => match t with
  | 11 => bif eqIt [] it then some .ask else none
  | 12 => bif eqIt [] it then some (.val (.tup [(.nums .u64 (W16 ⟨(sxN (V la)), (syN (V la)), (ozN (V la)), (rM (sxN (V la)) (syN (V la)))⟩)), (.bool true)])) else none
  | 16 => bif eqIt [] it then some .ask else none
  | 17 => bif eqIt [] it then some (.val (.tup [(.nums .u64 (W16 ⟨(sxN (V lb)), (syN (V lb)), (ozN (V lb)), (rM (sxN (V lb)) (syN (V lb)))⟩)), (.bool true)])) else none
  | 100004 => bif eqIt [] it then some .ask else none
  | _ => none, fun it id => match id, it with
  | _, _ => none⟩
theorem run_addcrA (la lb : List Int) : specW Try.prog noD (cC4 Try.prog) (h_addcrA la lb) 1000 55 [(.nums .u8 la), (.nums .u8 lb)] [] (fun v M => v = (.tup [.nums .u8 (B32 (addE (V la) (V lb))), .bool true]) ∧ M = []) =
  ((0 = 0 ∧ la.length = 32) ∧ (By la) ∧ (AV.tup [(.nums .u64 (W16 ⟨(sxN (V la)), (syN (V la)), (ozN (V la)), (rM (sxN (V la)) (syN (V la)))⟩)), (.bool (okN (V la)))]) = (AV.tup [(.nums .u64 (W16 ⟨(sxN (V la)), (syN (V la)), (ozN (V la)), (rM (sxN (V la)) (syN (V la)))⟩)), (.bool true)]) ∧ (0 = 0 ∧ lb.length = 32) ∧ (By lb) ∧ (AV.tup [(.nums .u64 (W16 ⟨(sxN (V lb)), (syN (V lb)), (ozN (V lb)), (rM (sxN (V lb)) (syN (V lb)))⟩)), (.bool (okN (V lb)))]) = (AV.tup [(.nums .u64 (W16 ⟨(sxN (V lb)), (syN (V lb)), (ozN (V lb)), (rM (sxN (V lb)) (syN (V lb)))⟩)), (.bool true)]) ∧ (Ws 16 (W16 ⟨(sxN (V la)), (syN (V la)), (ozN (V la)), (rM (sxN (V la)) (syN (V la)))⟩) ∧ Ws 16 (W16 ⟨(sxN (V lb)), (syN (V lb)), (ozN (V lb)), (rM (sxN (V lb)) (syN (V lb)))⟩) ∧ LtP (Qv (W16 ⟨(sxN (V la)), (syN (V la)), (ozN (V la)), (rM (sxN (V la)) (syN (V la)))⟩)) ∧ LtP (Qv (W16 ⟨(sxN (V lb)), (syN (V lb)), (ozN (V lb)), (rM (sxN (V lb)) (syN (V lb)))⟩))) ∧ (Ws 16 (W16 (sumR (Qv (W16 ⟨(sxN (V la)), (syN (V la)), (ozN (V la)), (rM (sxN (V la)) (syN (V la)))⟩)) (Qv (W16 ⟨(sxN (V lb)), (syN (V lb)), (ozN (V lb)), (rM (sxN (V lb)) (syN (V lb)))⟩))))) ∧ (IntKind.u8 = IntKind.u8 ∧ 0 = 0 ∧ (B32 (packN (Qv (W16 (sumR (Qv (W16 ⟨(sxN (V la)), (syN (V la)), (ozN (V la)), (rM (sxN (V la)) (syN (V la)))⟩)) (Qv (W16 ⟨(sxN (V lb)), (syN (V lb)), (ozN (V lb)), (rM (sxN (V lb)) (syN (V lb)))⟩))))))).length = 32 ∧ ([0, 0, 0, 0, 0, 0, 0, 0, 0, 0, 0, 0, 0, 0, 0, 0, 0, 0, 0, 0, 0, 0, 0, 0, 0, 0, 0, 0, 0, 0, 0, 0] : List Int).length = 32) ∧ ((AV.tup [(.nums .u8 (B32 (packN (Qv (W16 (sumR (Qv (W16 ⟨(sxN (V la)), (syN (V la)), (ozN (V la)), (rM (sxN (V la)) (syN (V la)))⟩)) (Qv (W16 ⟨(sxN (V lb)), (syN (V lb)), (ozN (V lb)), (rM (sxN (V lb)) (syN (V lb)))⟩)))))))), (.bool true)]) = (AV.tup [.nums .u8 (B32 (addE (V la) (V lb))), .bool true]) ∧ ([] : Mem) = [])) := by kernel_rfl
theorem addcrA_ok {la lb : List Int} (hyp : By la ∧ By lb ∧ okN (V la) = true ∧ okN (V lb) = true) : ∃ D H N, specW Try.prog D (cC4 Try.prog) H N 55 [(.nums .u8 la), (.nums .u8 lb)] [] fun v M => v = (.tup [.nums .u8 (B32 (addE (V la) (V lb))), .bool true]) ∧ M = [] := by
  obtain ⟨ha, hB, c1, c2⟩ := hyp
  refine ⟨noD, _, 1000, Eq.mpr (run_addcrA la lb) ⟨⟨rfl, ha.1⟩, ha, (by rw [c1]), ⟨rfl, hB.1⟩, hB, (by rw [c2]), ⟨Ws_W16 _, Ws_W16 _, (opR_ltQ (V la)), (opR_ltQ (V lb))⟩, Ws_W16 _, ⟨rfl, rfl, B32_len _, rfl⟩, ⟨?_, rfl⟩⟩⟩
  have e1 := QvW (LtP_B (opR_lt (V la)))
  have e2 := QvW (LtP_B (opR_lt (V lb)))
  unfold opR at e1 e2
  rw [e1, e2]
  have := aR_eq c1 c2
  show AV.tup [.nums .u8 (B32 (packN (Qv (W16 (sumR (opR (V la)) (opR (V lb))))))), .bool true] = _
  rw [QvW (LtP_B (sumR_lt _ _)), this]
def h_addcrB (la lb : List Int) : Hints := ⟨fun it t => match t with
  | 11 => bif eqIt [] it then some .ask else none
  | 12 => bif eqIt [] it then some (.val (.tup [(.nums .u64 (W16 ⟨(sxN (V la)), (syN (V la)), (ozN (V la)), (rM (sxN (V la)) (syN (V la)))⟩)), (.bool false)])) else none
  | 16 => bif eqIt [] it then some .ask else none
  | _ => none, fun it id => match id, it with
  | _, _ => none⟩
theorem run_addcrB (la lb : List Int) : specW Try.prog noD (cC4 Try.prog) (h_addcrB la lb) 1000 55 [(.nums .u8 la), (.nums .u8 lb)] [] (fun v M => v = (.tup [.nums .u8 (List.replicate 32 0), .bool false]) ∧ M = []) =
  ((0 = 0 ∧ la.length = 32) ∧ (By la) ∧ (AV.tup [(.nums .u64 (W16 ⟨(sxN (V la)), (syN (V la)), (ozN (V la)), (rM (sxN (V la)) (syN (V la)))⟩)), (.bool (okN (V la)))]) = (AV.tup [(.nums .u64 (W16 ⟨(sxN (V la)), (syN (V la)), (ozN (V la)), (rM (sxN (V la)) (syN (V la)))⟩)), (.bool false)]) ∧ (0 = 0 ∧ lb.length = 32) ∧ (By lb) ∧ ((AV.tup [(.nums .u8 (List.replicate 32 0)), (.bool false)]) = (AV.tup [.nums .u8 (List.replicate 32 0), .bool false]) ∧ ([] : Mem) = [])) := by kernel_rfl
theorem addcrB_ok {la lb : List Int} (hyp : By la ∧ By lb ∧ okN (V la) = false) : ∃ D H N, specW Try.prog D (cC4 Try.prog) H N 55 [(.nums .u8 la), (.nums .u8 lb)] [] fun v M => v = (.tup [.nums .u8 (List.replicate 32 0), .bool false]) ∧ M = [] := by
  obtain ⟨ha, hB, c1⟩ := hyp
  refine ⟨noD, _, 1000, Eq.mpr (run_addcrB la lb) ⟨⟨rfl, ha.1⟩, ha, (by rw [c1]), ⟨rfl, hB.1⟩, hB, ⟨rfl, rfl⟩⟩⟩
def h_addcrC (la lb : List Int) : Hints := ⟨fun it t => match t with
  | 11 => bif eqIt [] it then some .ask else none
  | 12 => bif eqIt [] it then some (.val (.tup [(.nums .u64 (W16 ⟨(sxN (V la)), (syN (V la)), (ozN (V la)), (rM (sxN (V la)) (syN (V la)))⟩)), (.bool true)])) else none
  | 16 => bif eqIt [] it then some .ask else none
  | 17 => bif eqIt [] it then some (.val (.tup [(.nums .u64 (W16 ⟨(sxN (V lb)), (syN (V lb)), (ozN (V lb)), (rM (sxN (V lb)) (syN (V lb)))⟩)), (.bool false)])) else none
  | _ => none, fun it id => match id, it with
  | _, _ => none⟩
theorem run_addcrC (la lb : List Int) : specW Try.prog noD (cC4 Try.prog) (h_addcrC la lb) 1000 55 [(.nums .u8 la), (.nums .u8 lb)] [] (fun v M => v = (.tup [.nums .u8 (List.replicate 32 0), .bool false]) ∧ M = []) =
  ((0 = 0 ∧ la.length = 32) ∧ (By la) ∧ (AV.tup [(.nums .u64 (W16 ⟨(sxN (V la)), (syN (V la)), (ozN (V la)), (rM (sxN (V la)) (syN (V la)))⟩)), (.bool (okN (V la)))]) = (AV.tup [(.nums .u64 (W16 ⟨(sxN (V la)), (syN (V la)), (ozN (V la)), (rM (sxN (V la)) (syN (V la)))⟩)), (.bool true)]) ∧ (0 = 0 ∧ lb.length = 32) ∧ (By lb) ∧ (AV.tup [(.nums .u64 (W16 ⟨(sxN (V lb)), (syN (V lb)), (ozN (V lb)), (rM (sxN (V lb)) (syN (V lb)))⟩)), (.bool (okN (V lb)))]) = (AV.tup [(.nums .u64 (W16 ⟨(sxN (V lb)), (syN (V lb)), (ozN (V lb)), (rM (sxN (V lb)) (syN (V lb)))⟩)), (.bool false)]) ∧ ((AV.tup [(.nums .u8 (List.replicate 32 0)), (.bool false)]) = (AV.tup [.nums .u8 (List.replicate 32 0), .bool false]) ∧ ([] : Mem) = [])) := by kernel_rfl
theorem addcrC_ok {la lb : List Int} (hyp : By la ∧ By lb ∧ okN (V la) = true ∧ okN (V lb) = false) : ∃ D H N, specW Try.prog D (cC4 Try.prog) H N 55 [(.nums .u8 la), (.nums .u8 lb)] [] fun v M => v = (.tup [.nums .u8 (List.replicate 32 0), .bool false]) ∧ M = [] := by
  obtain ⟨ha, hB, c1, c2⟩ := hyp
  refine ⟨noD, _, 1000, Eq.mpr (run_addcrC la lb) ⟨⟨rfl, ha.1⟩, ha, (by rw [c1]), ⟨rfl, hB.1⟩, hB, (by rw [c2]), ⟨rfl, rfl⟩⟩⟩
theorem addcr_ok {la lb : List Int} (hyp : By la ∧ By lb) : ∃ D H N, specW Try.prog D (cC4 Try.prog) H N 55 [.nums .u8 la, .nums .u8 lb] [] fun v M => v = .tup [.nums .u8 (B32 (addE (V la) (V lb))), .bool (okN (V la) && okN (V lb))] ∧ M = [] := by
  obtain ⟨ha, hB⟩ := hyp
  cases c1 : okN (V la) with
  | false => rw [addE_no (by rw [c1]; rfl)]; exact addcrB_ok ⟨ha, hB, c1⟩
  | true =>
    cases c2 : okN (V lb) with
    | false => rw [addE_no (by rw [c1, c2]; rfl)]; exact addcrC_ok ⟨ha, hB, c1, c2⟩
    | true => exact addcrA_ok ⟨ha, hB, c1, c2⟩
end Go.Proofs.Ytfdhfhgljhnhlaa
/- A point so often. No condition. -/
namespace Go.Proofs.Ytfdhfhgljhnhlaa
open Go Go.RowKit
def x_timesr (lk l : List Int) (X : List Int) (k : Nat) : St := ⟨[.junk, .junk, (.ptr 0 0), (.ptr 1 0), (.ptr 2 0), (.ptr 3 0), (.int .i64 (255 - (Int.ofNat k))), .junk, .junk, .junk, .junk, .junk, .junk, .junk, .junk, .junk, .junk, .junk, .junk, .junk, .junk, .junk], [⟨(.nums .u8 lk), .own, false⟩, ⟨(.nums .u64 l), .own, false⟩, ⟨(.nums .u64 [0, 0, 0, 0, 0, 0, 0, 0, 0, 0, 0, 0, 0, 0, 0, 0]), .own, false⟩, ⟨(.nums .u64 X), .own, true⟩]⟩
def h_timesr (lk l : List Int) : Hints := ⟨fun it t => match t with
  | 9 => (match (bif eqIt [none] it then some (.val (.bool false)) else none : Option VH), it with | some v, _ => some v | none, [some k0] => some (.val (.bool true)) | _, _ => none)
  | 12 => (match it with | [some k0] => some .ask | _ => none)
  | 13 => (match it with | [some k0] => some .ask | _ => none)
  | 100005 => (match it with | [some k0] => some .ask | _ => none)
  | 15 => (match it with | [some k0] => some .ask | _ => none)
  | 17 => (match it with | [some k0] => some (.val (.bool (V lk / 2 ^ (255 - k0) % 2 == 1))) | _ => none)
  | 200017 => (match it with | [some k0] => some .ask | _ => none)
  | 18 => (match it with | [some k0] => some .ask | _ => none)
  | 19 => (match it with | [some k0] => some .ask | _ => none)
  | 11 => (match it with | [some k0] => some (.val (.int .i64 (255 - (Int.ofNat (k0 + 1))))) | _ => none)
  | 21 => bif eqIt [] it then some .ask else none
  | 100004 => bif eqIt [] it then some .ask else none
  | _ => none, fun it id => match id, it with
  | 0, [] => some ⟨256, true, fun kk => x_timesr lk l (W16 (tR (V lk) (Qv l) kk)) kk⟩
  | _, _ => none⟩
def d_timesr : Nat → Option (List Nat) := fun n => match n with
  | 0 => some [0, 1, 7, 8, 9, 10, 11, 12, 13, 14, 15, 16, 17, 18, 19, 20, 21]
  | _ => none
theorem run_timesr (lk l : List Int) : specW Try.prog d_timesr (cC4 Try.prog) (h_timesr lk l) 1000 105 [(.nums .u8 lk), (.nums .u64 l)] [] (fun v M => v = (.nums .u64 (W16 (tR (V lk) (Qv l) 256))) ∧ M = []) =
  (x_timesr lk l [0, 0, 0, 0, 1, 0, 0, 0, 1, 0, 0, 0, 0, 0, 0, 0] 0 = x_timesr lk l (W16 (tR (V lk) (Qv l) 0)) 0 ∧ (∀ k0, k0 < 256 → ((AV.bool (decide ((255 - (Int.ofNat k0)) ≥ 0))) = (AV.bool true) ∧ (0 = 0 ∧ (W16 (tR (V lk) (Qv l) k0)).length = 16) ∧ (0 = 0 ∧ (W16 (tR (V lk) (Qv l) k0)).length = 16) ∧ (Ws 16 (W16 (tR (V lk) (Qv l) k0)) ∧ Ws 16 (W16 (tR (V lk) (Qv l) k0)) ∧ LtP (Qv (W16 (tR (V lk) (Qv l) k0))) ∧ LtP (Qv (W16 (tR (V lk) (Qv l) k0)))) ∧ (IntKind.u64 = IntKind.u64 ∧ 0 = 0 ∧ (W16 (sumR (Qv (W16 (tR (V lk) (Qv l) k0))) (Qv (W16 (tR (V lk) (Qv l) k0))))).length = 16 ∧ (W16 (tR (V lk) (Qv l) k0)).length = 16) ∧ (0 = 0 ∧ lk.length = 32) ∧ (By lk) ∧ (AV.bool (bitB (V lk) (255 - (Int.ofNat k0)))) = (AV.bool (V lk / 2 ^ (255 - k0) % 2 == 1)) ∧ (((V lk / 2 ^ (255 - k0) % 2 == 1) = true → ((0 = 0 ∧ (W16 (sumR (Qv (W16 (tR (V lk) (Qv l) k0))) (Qv (W16 (tR (V lk) (Qv l) k0))))).length = 16) ∧ (0 = 0 ∧ l.length = 16) ∧ (Ws 16 (W16 (sumR (Qv (W16 (tR (V lk) (Qv l) k0))) (Qv (W16 (tR (V lk) (Qv l) k0))))) ∧ Ws 16 l ∧ LtP (Qv (W16 (sumR (Qv (W16 (tR (V lk) (Qv l) k0))) (Qv (W16 (tR (V lk) (Qv l) k0)))))) ∧ LtP (Qv l)) ∧ (IntKind.u64 = IntKind.u64 ∧ 0 = 0 ∧ (W16 (sumR (Qv (W16 (sumR (Qv (W16 (tR (V lk) (Qv l) k0))) (Qv (W16 (tR (V lk) (Qv l) k0)))))) (Qv l))).length = 16 ∧ (W16 (sumR (Qv (W16 (tR (V lk) (Qv l) k0))) (Qv (W16 (tR (V lk) (Qv l) k0))))).length = 16) ∧ (AV.int .i64 (IntKind.i64.wrap ((255 - (Int.ofNat k0)) - (1 : Int)))) = (AV.int .i64 (255 - (Int.ofNat (k0 + 1)))) ∧ x_timesr lk l (W16 (sumR (Qv (W16 (sumR (Qv (W16 (tR (V lk) (Qv l) k0))) (Qv (W16 (tR (V lk) (Qv l) k0)))))) (Qv l))) (k0 + 1) = x_timesr lk l (W16 (tR (V lk) (Qv l) (k0 + 1))) (k0 + 1))) ∧ ((V lk / 2 ^ (255 - k0) % 2 == 1) = false → ((AV.int .i64 (IntKind.i64.wrap ((255 - (Int.ofNat k0)) - (1 : Int)))) = (AV.int .i64 (255 - (Int.ofNat (k0 + 1)))) ∧ x_timesr lk l (W16 (sumR (Qv (W16 (tR (V lk) (Qv l) k0))) (Qv (W16 (tR (V lk) (Qv l) k0))))) (k0 + 1) = x_timesr lk l (W16 (tR (V lk) (Qv l) (k0 + 1))) (k0 + 1)))))) ∧ (AV.bool (decide ((255 - (Int.ofNat 256)) ≥ 0))) = (AV.bool false) ∧ (0 = 0 ∧ (W16 (tR (V lk) (Qv l) 256)).length = 16) ∧ (IntKind.u64 = IntKind.u64 ∧ 0 = 0 ∧ (W16 (tR (V lk) (Qv l) 256)).length = 16 ∧ ([0, 0, 0, 0, 0, 0, 0, 0, 0, 0, 0, 0, 0, 0, 0, 0] : List Int).length = 16) ∧ ((AV.nums .u64 (W16 (tR (V lk) (Qv l) 256))) = (AV.nums .u64 (W16 (tR (V lk) (Qv l) 256))) ∧ ([] : Mem) = [])) := by kernel_rfl
theorem tR_succ (n : Nat) (p : Q4) (k : Nat) : tR n p (k + 1) = bif n / 2 ^ (255 - k) % 2 == 1 then sumR (sumR (tR n p k) (tR n p k)) p else sumR (tR n p k) (tR n p k) := rfl
theorem tF_succ (n : Nat) (p : Q4) (k : Nat) : tF n p (k + 1) = bif n / 2 ^ (255 - k) % 2 == 1 then sumF (dblF (tF n p k)) p else dblF (tF n p k) := rfl
theorem qt_lt (n : Nat) (p : Q4) (k : Nat) : LtP (Qv (W16 (tR n p k))) := by rw [QvW (LtP_B (tR_lt _ _ _))]; exact tR_lt _ _ _
theorem qs_lt (p q : Q4) : LtP (Qv (W16 (sumR p q))) := by rw [QvW (LtP_B (sumR_lt _ _))]; exact sumR_lt _ _
theorem timesr_ok {lk l : List Int} (hyp : By lk ∧ Ws 16 l ∧ LtP (Qv l)) : ∃ D H N, specW Try.prog D (cC4 Try.prog) H N 105 [(.nums .u8 lk), (.nums .u64 l)] [] fun v M => v = (.nums .u64 (W16 (tR (V lk) (Qv l) 256))) ∧ M = [] := by
  obtain ⟨hk, hl, hP⟩ := hyp
  refine ⟨d_timesr, _, 1000, Eq.mpr (run_timesr lk l) ⟨?_, fun k0 hk0 => ⟨(aB (down_ge (n := 255) (by omega))), ⟨rfl, rfl⟩, ⟨rfl, rfl⟩, ⟨Ws_W16 _, Ws_W16 _, (qt_lt _ _ _), (qt_lt _ _ _)⟩, ⟨rfl, rfl, rfl, rfl⟩, ⟨rfl, hk.1⟩, hk, (aB (bitK_ok hk0)), ⟨fun hb => ⟨⟨rfl, rfl⟩, ⟨rfl, hl.1⟩, ⟨Ws_W16 _, hl, (qs_lt _ _), hP⟩, ⟨rfl, rfl, rfl, rfl⟩, (aI (down_dec hk0)), ?_⟩, fun hb => ⟨(aI (down_dec hk0)), ?_⟩⟩⟩, rfl, ⟨rfl, rfl⟩, ⟨rfl, rfl, rfl, rfl⟩, ⟨rfl, rfl⟩⟩⟩
  · refine congrArg (fun X => x_timesr lk l X 0) ?_
    show _ = W16 zeroQ
    decide
  · refine congrArg (fun X => x_timesr lk l X (k0 + 1)) (congrArg W16 ?_)
    rw [QvW (LtP_B (tR_lt _ _ _)), QvW (LtP_B (sumR_lt _ _))]
    rw [tR_succ, hb, cond_true]
  · refine congrArg (fun X => x_timesr lk l X (k0 + 1)) (congrArg W16 ?_)
    rw [QvW (LtP_B (tR_lt _ _ _))]
    rw [tR_succ, hb, cond_false]
def s_timesr : Spec := fun a M => match a, M with
  | [.nums .u8 lk, .nums .u64 l], [] => some (some (By lk ∧ Ws 16 l ∧ LtP (Qv l)), .nums .u64 (W16 (tR (V lk) (Qv l) 256)), [])
  | _, _ => none
def cC5 (P : Program) : OrcP := addS (cC4 P) 105 s_timesr
theorem cC5_ok : OrcPOK Try.prog (cC5 Try.prog) := by
  unfold cC5
  refine (addS_ok mixed cC4_ok cC4_ok ?_)
  · intro a M q v M' h hq
    unfold s_timesr at h
    split at h
    · simp only [Option.some.injEq, Prod.mk.injEq] at h
      obtain ⟨rfl, rfl, rfl⟩ := h
      exact timesr_ok hq
    · cases h
def h_timescr (lk la : List Int) : Hints := ⟨fun it t => match t with
  | 9 => bif eqIt [] it then some .ask else none
  | 200014 => bif eqIt [] it then some .ask else none
  | 100004 => bif eqIt [] it then some .ask else none
  | 16 => bif eqIt [] it then some .ask else none
  | _ => none, fun it id => match id, it with
  | _, _ => none⟩
theorem run_timescr (lk la : List Int) : specW Try.prog noD (cC5 Try.prog) (h_timescr lk la) 1000 57 [(.nums .u8 lk), (.nums .u8 la)] [] (fun v M => v = (.tup [.nums .u8 (B32 (timesE (V lk) (V la))), .bool (okN (V la))]) ∧ M = []) =
  ((0 = 0 ∧ la.length = 32) ∧ (By la) ∧ (((!(okN (V la))) = true → ((IntKind.u8 = IntKind.u8 ∧ 0 = 0 ∧ ([0, 0, 0, 0, 0, 0, 0, 0, 0, 0, 0, 0, 0, 0, 0, 0, 0, 0, 0, 0, 0, 0, 0, 0, 0, 0, 0, 0, 0, 0, 0, 0] : List Int).length = 32 ∧ ([0, 0, 0, 0, 0, 0, 0, 0, 0, 0, 0, 0, 0, 0, 0, 0, 0, 0, 0, 0, 0, 0, 0, 0, 0, 0, 0, 0, 0, 0, 0, 0] : List Int).length = 32) ∧ ((AV.tup [(.nums .u8 (List.replicate 32 0)), (.bool false)]) = (AV.tup [.nums .u8 (B32 (timesE (V lk) (V la))), .bool (okN (V la))]) ∧ ([] : Mem) = []))) ∧ ((!(okN (V la))) = false → ((0 = 0 ∧ lk.length = 32) ∧ (By lk ∧ Ws 16 (W16 ⟨(sxN (V la)), (syN (V la)), (ozN (V la)), (rM (sxN (V la)) (syN (V la)))⟩) ∧ LtP (Qv (W16 ⟨(sxN (V la)), (syN (V la)), (ozN (V la)), (rM (sxN (V la)) (syN (V la)))⟩))) ∧ (Ws 16 (W16 (tR (V lk) (Qv (W16 ⟨(sxN (V la)), (syN (V la)), (ozN (V la)), (rM (sxN (V la)) (syN (V la)))⟩)) 256))) ∧ (IntKind.u8 = IntKind.u8 ∧ 0 = 0 ∧ (B32 (packN (Qv (W16 (tR (V lk) (Qv (W16 ⟨(sxN (V la)), (syN (V la)), (ozN (V la)), (rM (sxN (V la)) (syN (V la)))⟩)) 256))))).length = 32 ∧ ([0, 0, 0, 0, 0, 0, 0, 0, 0, 0, 0, 0, 0, 0, 0, 0, 0, 0, 0, 0, 0, 0, 0, 0, 0, 0, 0, 0, 0, 0, 0, 0] : List Int).length = 32) ∧ ((AV.tup [(.nums .u8 (B32 (packN (Qv (W16 (tR (V lk) (Qv (W16 ⟨(sxN (V la)), (syN (V la)), (ozN (V la)), (rM (sxN (V la)) (syN (V la)))⟩)) 256)))))), (.bool true)]) = (AV.tup [.nums .u8 (B32 (timesE (V lk) (V la))), .bool (okN (V la))]) ∧ ([] : Mem) = []))))) := by kernel_rfl
theorem timescr_ok {lk la : List Int} (hyp : By lk ∧ By la) : ∃ D H N, specW Try.prog D (cC5 Try.prog) H N 57 [(.nums .u8 lk), (.nums .u8 la)] [] fun v M => v = (.tup [.nums .u8 (B32 (timesE (V lk) (V la))), .bool (okN (V la))]) ∧ M = [] := by
  obtain ⟨hk, ha⟩ := hyp
  refine ⟨noD, _, 1000, Eq.mpr (run_timescr lk la) ⟨⟨rfl, ha.1⟩, ha, ⟨fun hb => ⟨⟨rfl, rfl, rfl, rfl⟩, ⟨?_, rfl⟩⟩, fun hb => ⟨⟨rfl, hk.1⟩, ⟨hk, Ws_W16 _, (opR_ltQ (V la))⟩, Ws_W16 _, ⟨rfl, rfl, B32_len _, rfl⟩, ⟨?_, rfl⟩⟩⟩⟩⟩
  · have hb := notT hb
    rw [timesE_no hb, hb]
  · have hb := notF hb
    have e1 := QvW (LtP_B (opR_lt (V la)))
    unfold opR at e1
    rw [e1]
    show AV.tup [.nums .u8 (B32 (packN (Qv (W16 (tR (V lk) (opR (V la)) 256))))), .bool true] = _
    rw [QvW (LtP_B (tR_lt _ _ _)), tR_eq (By_lt hk) hb, hb]
def x_timesf (lk la : List Int) (X : List Int) (k : Nat) : St := ⟨[.junk, .junk, (.ptr 0 0), .junk, (.ptr 1 0), .junk, (.ptr 2 0), .junk, (.fn 92 [] []), (.fn 93 [] []), (.ptr 3 0), (.int .i64 (255 - (Int.ofNat k))), .junk, .junk, .junk, .junk, .junk, .junk, .junk, .junk, .junk, .junk, .junk, .junk, .junk, .junk, .junk, .junk, .junk, .junk, .junk, .junk, .junk, .junk], [⟨(.nums .u8 lk), .own, false⟩, ⟨(.nums .u8 (List.replicate 32 0)), .own, false⟩, ⟨(.nums .u64 (W16 ⟨(sxN (V la)), (syN (V la)), 1, (fMul (sxN (V la)) (syN (V la)))⟩)), .own, true⟩, ⟨(.nums .u64 X), .own, true⟩]⟩
def h_timescf (lk la : List Int) : Hints := ⟨fun it t => match t with
  | 13 => bif eqIt [] it then some .ask else none
  | 200018 => bif eqIt [] it then some .ask else none
  | 100004 => bif eqIt [] it then some .ask else none
  | 22 => (match (bif eqIt [none] it then some (.val (.bool false)) else none : Option VH), it with | some v, _ => some v | none, [some k0] => some (.val (.bool true)) | _, _ => none)
  | 27 => (match it with | [some k0] => some .ask | _ => none)
  | 29 => (match it with | [some k0] => some (.val (.bool (V lk / 2 ^ (255 - k0) % 2 == 1))) | _ => none)
  | 200029 => (match it with | [some k0] => some .ask | _ => none)
  | 24 => (match it with | [some k0] => some (.val (.int .i64 (255 - (Int.ofNat (k0 + 1))))) | _ => none)
  | _ => none, fun it id => match id, it with
  | 0, [] => some ⟨256, true, fun kk => x_timesf lk la (W16 (tF (V lk) (flatF (sxN (V la)) (syN (V la))) kk)) kk⟩
  | _, _ => none⟩
def d_timescf : Nat → Option (List Nat) := fun n => match n with
  | 0 => some [0, 1, 3, 5, 7, 12, 13, 14, 15, 16, 17, 18, 19, 20, 21, 22, 23, 24, 25, 26, 27, 28, 29, 30, 31, 32, 33]
  | _ => none
theorem run_timescf (lk la : List Int) : specW Try.prog d_timescf (cC5 Try.prog) (h_timescf lk la) 1000 44 [(.nums .u8 lk), (.nums .u8 la)] [] (fun v M => v = (.tup [.nums .u8 (B32 (timesE (V lk) (V la))), .bool (okN (V la))]) ∧ M = []) =
  ((0 = 0 ∧ la.length = 32) ∧ (By la) ∧ (((!(okN (V la))) = true → ((IntKind.u8 = IntKind.u8 ∧ 0 = 0 ∧ ([0, 0, 0, 0, 0, 0, 0, 0, 0, 0, 0, 0, 0, 0, 0, 0, 0, 0, 0, 0, 0, 0, 0, 0, 0, 0, 0, 0, 0, 0, 0, 0] : List Int).length = 32 ∧ ([0, 0, 0, 0, 0, 0, 0, 0, 0, 0, 0, 0, 0, 0, 0, 0, 0, 0, 0, 0, 0, 0, 0, 0, 0, 0, 0, 0, 0, 0, 0, 0] : List Int).length = 32) ∧ ((AV.tup [(.nums .u8 (List.replicate 32 0)), (.bool false)]) = (AV.tup [.nums .u8 (B32 (timesE (V lk) (V la))), .bool (okN (V la))]) ∧ ([] : Mem) = []))) ∧ ((!(okN (V la))) = false → (x_timesf lk la [0, 0, 0, 0, 1, 0, 0, 0, 1, 0, 0, 0, 0, 0, 0, 0] 0 = x_timesf lk la (W16 (tF (V lk) (flatF (sxN (V la)) (syN (V la))) 0)) 0 ∧ (∀ k0, k0 < 256 → ((AV.bool (decide ((255 - (Int.ofNat k0)) ≥ 0))) = (AV.bool true) ∧ (Ws 16 (W16 (tF (V lk) (flatF (sxN (V la)) (syN (V la))) k0))) ∧ (0 = 0 ∧ lk.length = 32) ∧ (By lk) ∧ (AV.bool (bitB (V lk) (255 - (Int.ofNat k0)))) = (AV.bool (V lk / 2 ^ (255 - k0) % 2 == 1)) ∧ (((V lk / 2 ^ (255 - k0) % 2 == 1) = true → ((Ws 16 (W16 (dblF (Qv (W16 (tF (V lk) (flatF (sxN (V la)) (syN (V la))) k0))))) ∧ Ws 16 (W16 ⟨(sxN (V la)), (syN (V la)), 1, (fMul (sxN (V la)) (syN (V la)))⟩)) ∧ (AV.int .i64 (IntKind.i64.wrap ((255 - (Int.ofNat k0)) - (1 : Int)))) = (AV.int .i64 (255 - (Int.ofNat (k0 + 1)))) ∧ x_timesf lk la (W16 (sumF (Qv (W16 (dblF (Qv (W16 (tF (V lk) (flatF (sxN (V la)) (syN (V la))) k0)))))) (Qv (W16 ⟨(sxN (V la)), (syN (V la)), 1, (fMul (sxN (V la)) (syN (V la)))⟩)))) (k0 + 1) = x_timesf lk la (W16 (tF (V lk) (flatF (sxN (V la)) (syN (V la))) (k0 + 1))) (k0 + 1))) ∧ ((V lk / 2 ^ (255 - k0) % 2 == 1) = false → ((AV.int .i64 (IntKind.i64.wrap ((255 - (Int.ofNat k0)) - (1 : Int)))) = (AV.int .i64 (255 - (Int.ofNat (k0 + 1)))) ∧ x_timesf lk la (W16 (dblF (Qv (W16 (tF (V lk) (flatF (sxN (V la)) (syN (V la))) k0))))) (k0 + 1) = x_timesf lk la (W16 (tF (V lk) (flatF (sxN (V la)) (syN (V la))) (k0 + 1))) (k0 + 1)))))) ∧ (AV.bool (decide ((255 - (Int.ofNat 256)) ≥ 0))) = (AV.bool false) ∧ (Ws 16 (W16 (tF (V lk) (flatF (sxN (V la)) (syN (V la))) 256))) ∧ (IntKind.u8 = IntKind.u8 ∧ 0 = 0 ∧ (B32 (packN (Qv (W16 (tF (V lk) (flatF (sxN (V la)) (syN (V la))) 256))))).length = 32 ∧ ([0, 0, 0, 0, 0, 0, 0, 0, 0, 0, 0, 0, 0, 0, 0, 0, 0, 0, 0, 0, 0, 0, 0, 0, 0, 0, 0, 0, 0, 0, 0, 0] : List Int).length = 32) ∧ ((AV.tup [(.nums .u8 (B32 (packN (Qv (W16 (tF (V lk) (flatF (sxN (V la)) (syN (V la))) 256)))))), (.bool true)]) = (AV.tup [.nums .u8 (B32 (timesE (V lk) (V la))), .bool (okN (V la))]) ∧ ([] : Mem) = []))))) := by kernel_rfl
theorem timescf_ok {lk la : List Int} (hyp : By lk ∧ By la) : ∃ D H N, specW Try.prog D (cC5 Try.prog) H N 44 [(.nums .u8 lk), (.nums .u8 la)] [] fun v M => v = (.tup [.nums .u8 (B32 (timesE (V lk) (V la))), .bool (okN (V la))]) ∧ M = [] := by
  obtain ⟨hk, ha⟩ := hyp
  refine ⟨d_timescf, _, 1000, Eq.mpr (run_timescf lk la) ⟨⟨rfl, ha.1⟩, ha, ⟨fun hb => ⟨⟨rfl, rfl, rfl, rfl⟩, ⟨?_, rfl⟩⟩, fun hb => ⟨?_, fun k0 hk0 => ⟨(aB (down_ge (n := 255) (by omega))), Ws_W16 _, ⟨rfl, hk.1⟩, hk, (aB (bitK_ok hk0)), ⟨fun hb => ⟨⟨Ws_W16 _, Ws_W16 _⟩, (aI (down_dec hk0)), ?_⟩, fun hb => ⟨(aI (down_dec hk0)), ?_⟩⟩⟩, rfl, Ws_W16 _, ⟨rfl, rfl, B32_len _, rfl⟩, ⟨?_, rfl⟩⟩⟩⟩⟩
  · have hb := notT hb
    rw [timesE_no hb, hb]
  · refine congrArg (fun X => x_timesf lk la X 0) ?_
    show _ = W16 zeroQ
    decide
  · refine congrArg (fun X => x_timesf lk la X (k0 + 1)) (congrArg W16 ?_)
    have e2 := QvW (flatF_lt (V la))
    unfold flatF at e2
    rw [QvW (tF_lt (flatF_lt _) _), QvW (dblF_lt (tF_lt (flatF_lt _) _)), e2]
    rw [tF_succ, hb, cond_true]; rfl
  · refine congrArg (fun X => x_timesf lk la X (k0 + 1)) (congrArg W16 ?_)
    rw [QvW (tF_lt (flatF_lt _) _)]
    rw [tF_succ, hb, cond_false]
  · have hb := notF hb
    rw [QvW (tF_lt (flatF_lt _) _), tF_eq (By_lt hk) hb, hb]
end Go.Proofs.Ytfdhfhgljhnhlaa
/- What the laws of curve reckon. No condition. -/
namespace Go.Proofs.Ytfdhfhgljhnhlaa
open Go Go.RowKit
def s_c0 (n : Nat) : Spec := fun a M => match a, M with
  | [], [] => some (none, .nums .u8 (B32 n), [])
  | _, _ => none
def s_goodc : Spec := fun a M => match a, M with
  | [.nums .u8 l], [] => some (some (By l), .bool (okN (V l)), [])
  | _, _ => none
def s_xyc : Spec := fun a M => match a, M with
  | [.nums .u8 l], [] => some (some (By l), .tup [.nums .u8 (B32 (sxN (V l))), .nums .u8 (B32 (syN (V l))), .bool (okN (V l))], [])
  | _, _ => none
def s_negc : Spec := fun a M => match a, M with
  | [.nums .u8 l], [] => some (some (By l), .tup [.nums .u8 (B32 (negE (V l))), .bool (okN (V l))], [])
  | _, _ => none
def s_ofc : Spec := fun a M => match a, M with
  | [.nums .u8 l, .nums .u8 m], [] => some (some (By l ∧ By m), .tup [.nums .u8 (B32 (ofN (V l) (V m))), .bool (onN (V l) (V m))], [])
  | _, _ => none
noncomputable def s_addc : Spec := fun a M => match a, M with
  | [.nums .u8 l, .nums .u8 m], [] => some (some (By l ∧ By m), .tup [.nums .u8 (B32 (addE (V l) (V m))), .bool (okN (V l) && okN (V m))], [])
  | _, _ => none
noncomputable def s_timesc : Spec := fun a M => match a, M with
  | [.nums .u8 l, .nums .u8 m], [] => some (some (By l ∧ By m), .tup [.nums .u8 (B32 (timesE (V l) (V m))), .bool (okN (V m))], [])
  | _, _ => none
noncomputable def cC6 (P : Program) : OrcP := addS (addS (addS (addS (addS (addS (addS (addS (addS (addS (addS (addS (addS (addS (cC5 P) 48 (s_c0 1)) 59 (s_c0 baseN)) 45 s_goodc) 58 s_goodc) 53 s_xyc) 54 s_xyc) 50 s_negc) 56 s_negc) 51 s_ofc) 52 s_ofc) 46 s_addc) 55 s_addc) 44 s_timesc) 57 s_timesc
theorem cC6_ok : OrcPOK Try.prog (cC6 Try.prog) := by
  unfold cC6
  refine (addS_ok mixed (addS_ok mixed (addS_ok mixed (addS_ok mixed (addS_ok mixed (addS_ok mixed (addS_ok mixed (addS_ok mixed (addS_ok mixed (addS_ok mixed (addS_ok mixed (addS_ok mixed (addS_ok mixed (addS_ok mixed cC5_ok cC4_ok ?_) cC4_ok ?_) cC4_ok ?_) cC4_ok ?_) cC4_ok ?_) cC4_ok ?_) cC4_ok ?_) cC4_ok ?_) cC4_ok ?_) cC4_ok ?_) cC4_ok ?_) cC4_ok ?_) cC5_ok ?_) cC5_ok ?_)
  · intro a M q v M' h hq
    unfold s_c0 at h
    split at h
    · simp only [Option.some.injEq, Prod.mk.injEq] at h
      obtain ⟨rfl, rfl, rfl⟩ := h
      exact zeroc_ok trivial
    · cases h
  · intro a M q v M' h hq
    unfold s_c0 at h
    split at h
    · simp only [Option.some.injEq, Prod.mk.injEq] at h
      obtain ⟨rfl, rfl, rfl⟩ := h
      exact basec_ok trivial
    · cases h
  · intro a M q v M' h hq
    unfold s_goodc at h
    split at h
    · simp only [Option.some.injEq, Prod.mk.injEq] at h
      obtain ⟨rfl, rfl, rfl⟩ := h
      exact goodc_ok hq
    · cases h
  · intro a M q v M' h hq
    unfold s_goodc at h
    split at h
    · simp only [Option.some.injEq, Prod.mk.injEq] at h
      obtain ⟨rfl, rfl, rfl⟩ := h
      exact goodcr_ok hq
    · cases h
  · intro a M q v M' h hq
    unfold s_xyc at h
    split at h
    · simp only [Option.some.injEq, Prod.mk.injEq] at h
      obtain ⟨rfl, rfl, rfl⟩ := h
      exact xyc_ok hq
    · cases h
  · intro a M q v M' h hq
    unfold s_xyc at h
    split at h
    · simp only [Option.some.injEq, Prod.mk.injEq] at h
      obtain ⟨rfl, rfl, rfl⟩ := h
      exact xycr_ok hq
    · cases h
  · intro a M q v M' h hq
    unfold s_negc at h
    split at h
    · simp only [Option.some.injEq, Prod.mk.injEq] at h
      obtain ⟨rfl, rfl, rfl⟩ := h
      exact negc_ok hq
    · cases h
  · intro a M q v M' h hq
    unfold s_negc at h
    split at h
    · simp only [Option.some.injEq, Prod.mk.injEq] at h
      obtain ⟨rfl, rfl, rfl⟩ := h
      exact negcr_ok hq
    · cases h
  · intro a M q v M' h hq
    unfold s_ofc at h
    split at h
    · simp only [Option.some.injEq, Prod.mk.injEq] at h
      obtain ⟨rfl, rfl, rfl⟩ := h
      exact ofc_ok hq
    · cases h
  · intro a M q v M' h hq
    unfold s_ofc at h
    split at h
    · simp only [Option.some.injEq, Prod.mk.injEq] at h
      obtain ⟨rfl, rfl, rfl⟩ := h
      exact ofcr_ok hq
    · cases h
  · intro a M q v M' h hq
    unfold s_addc at h
    split at h
    · simp only [Option.some.injEq, Prod.mk.injEq] at h
      obtain ⟨rfl, rfl, rfl⟩ := h
      exact addc_ok hq
    · cases h
  · intro a M q v M' h hq
    unfold s_addc at h
    split at h
    · simp only [Option.some.injEq, Prod.mk.injEq] at h
      obtain ⟨rfl, rfl, rfl⟩ := h
      exact addcr_ok hq
    · cases h
  · intro a M q v M' h hq
    unfold s_timesc at h
    split at h
    · simp only [Option.some.injEq, Prod.mk.injEq] at h
      obtain ⟨rfl, rfl, rfl⟩ := h
      exact timescf_ok hq
    · cases h
  · intro a M q v M' h hq
    unfold s_timesc at h
    split at h
    · simp only [Option.some.injEq, Prod.mk.injEq] at h
      obtain ⟨rfl, rfl, rfl⟩ := h
      exact timescr_ok hq
    · cases h
noncomputable def tP : Pt := ptN torN
theorem VE (p : Pt) : V (B32 (encP p)) = encP p := by rw [VB32, Nat.mod_eq_of_lt (encP_lt p)]
theorem okE (p : Pt) : okN (encP p) = true := (enc_ok p).1
theorem addE_enc (p q : Pt) : addE (encP p) (encP q) = encP (padd p q) := by unfold addE; rw [okE, okE, pt_enc, pt_enc, Bool.and_self, cond_true]
theorem timesE_enc (k : Nat) (p : Pt) : timesE k (encP p) = encP (smul k p) := by unfold timesE; rw [okE, pt_enc, cond_true]
theorem pneg_x (p : Pt) : (pneg p).x.val = xOf true p.x.val := rfl
theorem negE_enc (p : Pt) : negE (encP p) = encP (pneg p) := by
  unfold negE
  rw [okE, cond_true, (enc_ok p).2.1, (enc_ok p).2.2]
  unfold encP
  rw [pneg_x]; rfl
theorem enc_bP : encP bP = baseN := enc_pt (by decide) base_ok.1
theorem enc_tP : encP tP = torN := enc_pt (by decide) tor_ok.1
def addC (a b : Nat) : Nat := bif okN a && okN b then packN (sumR (opR a) (opR b)) else 0
def timesC (k a : Nat) : Nat := bif okN a then packN (tR k (opR a) 256) else 0
theorem addE_c (a b : Nat) : addE a b = addC a b := by
  unfold addC
  cases h : okN a && okN b with
  | false => unfold addE; rw [h, cond_false, cond_false]
  | true =>
    rw [Bool.and_eq_true] at h
    rw [cond_true, aR_eq h.1 h.2]
theorem timesE_c {k : Nat} (hk : k < 115792089237316195423570985008687907853269984665640564039457584007913129639936) (a : Nat) : timesE k a = timesC k a := by
  unfold timesC
  cases h : okN a with
  | false => unfold timesE; rw [h, cond_false, cond_false]
  | true => rw [cond_true, tR_eq hk h]
theorem smulL (k : Nat) : smul (k % 7237005577332262213973186563042994240857116359379907606001950938285454250989) bP = smul k bP := smul_mod L_base k
theorem VL (n : Nat) : V (B32 (n % 7237005577332262213973186563042994240857116359379907606001950938285454250989)) = n % 7237005577332262213973186563042994240857116359379907606001950938285454250989 := by rw [VB32, mLB]
theorem V_ell : V [237, 211, 245, 92, 26, 99, 18, 88, 214, 156, 247, 162, 222, 249, 222, 20, 0, 0, 0, 0, 0, 0, 0, 0, 0, 0, 0, 0, 0, 0, 0, 16] = 7237005577332262213973186563042994240857116359379907606001950938285454250989 := by decide
theorem tor_list : [199, 23, 106, 112, 61, 77, 216, 79, 186, 60, 11, 118, 13, 16, 103, 15, 42, 32, 83, 250, 44, 57, 204, 198, 78, 199, 253, 119, 146, 172, 3, 122] = B32 (encP tP) := by rw [enc_tP]; decide
theorem VX (x : K) : V (B32 x.val) = x.val := by rw [VB32, Nat.mod_eq_of_lt (LtPB x.isLt)]
theorem sx_enc (p : Pt) : sxN (encP p) = p.x.val := by rw [sx_ok (okE p), (enc_ok p).2.1]
theorem sy_enc (p : Pt) : syN (encP p) = p.y.val := by rw [sy_ok (okE p), (enc_ok p).2.2]
theorem on_pt (p : Pt) : onN p.x.val p.y.val = true := by
  unfold onN
  refine beq_iff_eq.2 (kap_inj ?_)
  have h := p.on
  unfold On at h
  rw [kap_add, kap_dn, kap_mul, kap_mul, kap_add, kap_mul, kap_mul, kap_mul, kap_mul, kap_val, kap_val, kap_1]
  have hd : kap dN = dK := rfl
  rw [hd]
  generalize p.x = u at *
  generalize p.y = v at *
  generalize dK = d at *
  clear hd
  grind -lia -linarith
theorem of_pt (p : Pt) : ofN p.x.val p.y.val = encP p := by
  unfold ofN
  rw [on_pt, cond_true, Nat.mod_eq_of_lt p.x.isLt, Nat.mod_eq_of_lt p.y.isLt]; rfl
theorem beqF {α : Type} [BEq α] [LawfulBEq α] {a b : α} (h : a = b) : AV.bool (bif false then !(a == b) else (a == b)) = AV.bool true := by
  subst h; rw [cond_false, beq_self_eq_true]
theorem beqN {α : Type} [BEq α] [LawfulBEq α] {a b : α} (h : a = b) : AV.bool (bif true then !(a == b) else (a == b)) = AV.bool false := by
  subst h; rw [cond_true, beq_self_eq_true]; rfl
noncomputable def h_awakec : Hints := ⟨fun it t => match t with
  | 6 => bif eqIt [] it then some (.val (.nums .u8 (B32 (encP bP)))) else none
  | 7 => bif eqIt [] it then some (.val (.tup [(.nums .u8 (B32 (encP (smul 7237005577332262213973186563042994240857116359379907606001950938285454250989 bP)))), (.bool true)])) else none
  | 100001 => bif eqIt [] it then some .ask else none
  | 10 => bif eqIt [] it then some (.val (.nums .u8 (B32 (encP bP)))) else none
  | 100003 => bif eqIt [] it then some .ask else none
  | 13 => bif eqIt [] it then some .ask else none
  | 14 => bif eqIt [] it then some (.val (.nums .u8 (B32 (encP pz)))) else none
  | 15 => bif eqIt [] it then some (.askv (.bool true)) else none
  | 19 => bif eqIt [] it then some .ask else none
  | 20 => bif eqIt [] it then some (.val (.bool true)) else none
  | 24 => bif eqIt [] it then some .ask else none
  | 25 => bif eqIt [] it then some (.val (.bool true)) else none
  | 29 => bif eqIt [] it then some .ask else none
  | 30 => bif eqIt [] it then some (.val (.bool true)) else none
  | 33 => bif eqIt [] it then some .ask else none
  | 34 => bif eqIt [] it then some (.val (.bool true)) else none
  | 37 => bif eqIt [] it then some (.val (.nums .u8 (B32 (encP pz)))) else none
  | 38 => bif eqIt [] it then some .ask else none
  | 39 => bif eqIt [] it then some (.val (.bool true)) else none
  | _ => none, fun it id => match id, it with
  | _, _ => none⟩
theorem run_awakec  : specW Try.prog noD (cC6 Try.prog) (h_awakec) 1000 43 [] [] (fun v M => v = (.bool true) ∧ M = []) =
  ((AV.nums .u8 (B32 baseN)) = (AV.nums .u8 (B32 (encP bP))) ∧ (By ([237, 211, 245, 92, 26, 99, 18, 88, 214, 156, 247, 162, 222, 249, 222, 20, 0, 0, 0, 0, 0, 0, 0, 0, 0, 0, 0, 0, 0, 0, 0, 16] : List Int) ∧ By (B32 (encP bP))) ∧ (AV.tup [(.nums .u8 (B32 (timesE (V ([237, 211, 245, 92, 26, 99, 18, 88, 214, 156, 247, 162, 222, 249, 222, 20, 0, 0, 0, 0, 0, 0, 0, 0, 0, 0, 0, 0, 0, 0, 0, 16] : List Int)) (V (B32 (encP bP)))))), (.bool (okN (V (B32 (encP bP)))))]) = (AV.tup [(.nums .u8 (B32 (encP (smul 7237005577332262213973186563042994240857116359379907606001950938285454250989 bP)))), (.bool true)]) ∧ (IntKind.u8 = IntKind.u8 ∧ 0 = 0 ∧ (B32 (encP (smul 7237005577332262213973186563042994240857116359379907606001950938285454250989 bP))).length = 32 ∧ ([0, 0, 0, 0, 0, 0, 0, 0, 0, 0, 0, 0, 0, 0, 0, 0, 0, 0, 0, 0, 0, 0, 0, 0, 0, 0, 0, 0, 0, 0, 0, 0] : List Int).length = 32) ∧ (AV.nums .u8 (B32 baseN)) = (AV.nums .u8 (B32 (encP bP))) ∧ (IntKind.u8 = IntKind.u8 ∧ 0 = 0 ∧ (B32 (encP bP)).length = 32 ∧ ([0, 0, 0, 0, 0, 0, 0, 0, 0, 0, 0, 0, 0, 0, 0, 0, 0, 0, 0, 0, 0, 0, 0, 0, 0, 0, 0, 0, 0, 0, 0, 0] : List Int).length = 32) ∧ (0 = 0 ∧ (B32 (encP (smul 7237005577332262213973186563042994240857116359379907606001950938285454250989 bP))).length = 32) ∧ (AV.nums .u8 (B32 1)) = (AV.nums .u8 (B32 (encP pz))) ∧ (IntKind.u8 = IntKind.u8 ∧ (B32 (encP (smul 7237005577332262213973186563042994240857116359379907606001950938285454250989 bP))).length = 32 ∧ (B32 (encP pz)).length = 32) ∧ (AV.bool (bif false then !((B32 (encP (smul 7237005577332262213973186563042994240857116359379907606001950938285454250989 bP))) == (B32 (encP pz))) else ((B32 (encP (smul 7237005577332262213973186563042994240857116359379907606001950938285454250989 bP))) == (B32 (encP pz))))) = (AV.bool true) ∧ (0 < (B32 (encP bP)).length) ∧ (AV.bool (((B32 (encP bP)).getD 0 0) == 88)) = (AV.bool true) ∧ (1 < (B32 (encP bP)).length) ∧ (AV.bool (((B32 (encP bP)).getD 1 0) == 102)) = (AV.bool true) ∧ (31 < (B32 (encP bP)).length) ∧ (AV.bool (((B32 (encP bP)).getD 31 0) == 102)) = (AV.bool true) ∧ (0 = 0 ∧ (B32 (encP bP)).length = 32) ∧ (By (B32 (encP bP))) ∧ (AV.bool (okN (V (B32 (encP bP))))) = (AV.bool true) ∧ (AV.nums .u8 (B32 1)) = (AV.nums .u8 (B32 (encP pz))) ∧ (inR (0 : Int) 32 = some 0 ∧ 0 * 1 < (B32 (encP pz)).length) ∧ (AV.bool (((B32 (encP pz)).getD (0 * 1) 0) == 1)) = (AV.bool true) ∧ ((AV.bool true) = (AV.bool true) ∧ ([] : Mem) = [])) := by kernel_rfl
theorem awakec_ok  (_h : True) : ∃ D H N, specW Try.prog D (cC6 Try.prog) H N 43 [] [] fun v M => v = (.bool true) ∧ M = [] := by
  refine ⟨noD, _, 1000, Eq.mpr (run_awakec) ⟨(by rw [enc_bP]), ⟨(by decide), By_B32 _⟩, (by simp only [VE, okE, show V [237, 211, 245, 92, 26, 99, 18, 88, 214, 156, 247, 162, 222, 249, 222, 20, 0, 0, 0, 0, 0, 0, 0, 0, 0, 0, 0, 0, 0, 0, 0, 16] = 7237005577332262213973186563042994240857116359379907606001950938285454250989 by decide, timesE_enc]), ⟨rfl, rfl, B32_len _, rfl⟩, (by rw [enc_bP]), ⟨rfl, rfl, B32_len _, rfl⟩, ⟨rfl, B32_len _⟩, (by rw [encP_pz]), ⟨rfl, B32_len _, B32_len _⟩, ?_, (by rw [B32_len]; decide), ?_, (by rw [B32_len]; decide), ?_, (by rw [B32_len]; decide), ?_, ⟨rfl, B32_len _⟩, By_B32 _, (by simp only [VE, okE]), (by rw [encP_pz]), ⟨rfl, (by rw [B32_len]; decide)⟩, ?_, ⟨rfl, rfl⟩⟩⟩
  · exact beqF (by rw [L_base])
  · rw [enc_bP]; exact aB (by decide)
  · rw [enc_bP]; exact aB (by decide)
  · rw [enc_bP]; exact aB (by decide)
  · rw [encP_pz]; exact aB (by decide)
def s_awakec : Spec := fun a M => match a, M with
  | [], [] => some (none, .bool true, [])
  | _, _ => none
def jN (t : Int) : Nat := (Int.tmod (IntKind.u64.wrap t) 8).toNat
theorem jN_ok (t : Int) : IntKind.i64.wrap (Int.tmod (IntKind.u64.wrap t) 8) = Int.ofNat (jN t) ∧ jN t < 8 := by
  have h : 0 ≤ IntKind.u64.wrap t := by rw [IntKind.wrap_u64]; omega
  unfold jN
  rw [Int.tmod_eq_emod_of_nonneg h, IntKind.wrap_i64]
  simp only [Int.ofNat_eq_natCast]
  omega
noncomputable def someP (k : Nat) (t : Int) : Pt := padd (smul k bP) (smul (jN t) tP)
noncomputable def x_some (la : List Int) (tu : Int) (X : List Int) (k : Nat) : St := ⟨[.junk, .junk, .junk, .junk, (.ptr 0 0), .junk, (.ptr 1 0), (.bool true), (.ptr 2 0), (.int .i64 (Int.ofNat (jN tu - k))), .junk, .junk, .junk, .junk, .junk, .junk, .junk, .junk, .junk, .junk, .junk, .junk, .junk, .junk, .junk, .junk, .junk, .junk, .junk, .junk, .junk, .junk, .junk, .junk, .junk, .junk], [⟨(.nums .u8 (List.replicate 32 0)), .own, false⟩, ⟨(.nums .u8 X), .own, true⟩, ⟨(.nums .u8 (B32 (encP tP))), .own, true⟩]⟩
noncomputable def h_some (la : List Int) (tu : Int) : Hints := ⟨fun it t => match t with
  | 11 => bif eqIt [] it then some .ask else none
  | 12 => bif eqIt [] it then some (.val (.nums .u8 (B32 (encP bP)))) else none
  | 13 => bif eqIt [] it then some (.val (.tup [(.nums .u8 (B32 (encP (smul (V la) bP)))), (.bool true)])) else none
  | 100006 => (match (bif eqIt [] it then some .ask else none : Option VH), it with | some v, _ => some v | none, [some k0] => some .ask | _, _ => none)
  | 16 => bif eqIt [] it then some (.val (.nums .u8 (B32 (encP tP)))) else none
  | 100008 => bif eqIt [] it then some .ask else none
  | 20 => bif eqIt [] it then some (.val (.int .i64 (Int.ofNat (jN tu - 0)))) else none
  | 22 => (match (bif eqIt [none] it then some (.val (.bool false)) else none : Option VH), it with | some v, _ => some v | none, [some k0] => some (.val (.bool true)) | _, _ => none)
  | 29 => (match it with | [some k0] => some .ask | _ => none)
  | 30 => (match it with | [some k0] => some .ask | _ => none)
  | 31 => (match it with | [some k0] => some (.val (.tup [(.nums .u8 (B32 (encP (padd (padd (smul (V la) bP) (smul k0 tP)) tP)))), (.bool true)])) | _ => none)
  | 27 => (match it with | [some k0] => some (.val (.int .i64 (Int.ofNat (jN tu - (k0 + 1))))) | _ => none)
  | 34 => bif eqIt [] it then some .ask else none
  | 100004 => bif eqIt [] it then some .ask else none
  | _ => none, fun it id => match id, it with
  | 0, [] => some ⟨(jN tu), true, fun kk => x_some la tu (B32 (encP (padd (smul (V la) bP) (smul kk tP)))) kk⟩
  | _, _ => none⟩
def d_some : Nat → Option (List Nat) := fun n => match n with
  | 0 => some [0, 1, 2, 3, 5, 10, 11, 12, 13, 14, 15, 16, 17, 18, 19, 20, 21, 22, 23, 24, 25, 26, 27, 28, 29, 30, 31, 32, 33, 34, 35]
  | _ => none
theorem run_some (la : List Int) (tu : Int) : specW Try.prog d_some (cC6 Try.prog) (h_some la tu) 1000 49 [(.nums .u8 la), (.int .i64 tu)] [] (fun v M => v = (.tup [.nums .u8 (B32 (encP (someP (V la) tu))), .bool true]) ∧ M = []) =
  ((0 = 0 ∧ la.length = 32) ∧ (AV.nums .u8 (B32 baseN)) = (AV.nums .u8 (B32 (encP bP))) ∧ (By la ∧ By (B32 (encP bP))) ∧ (AV.tup [(.nums .u8 (B32 (timesE (V la) (V (B32 (encP bP)))))), (.bool (okN (V (B32 (encP bP)))))]) = (AV.tup [(.nums .u8 (B32 (encP (smul (V la) bP)))), (.bool true)]) ∧ (IntKind.u8 = IntKind.u8 ∧ 0 = 0 ∧ (B32 (encP (smul (V la) bP))).length = 32 ∧ ([0, 0, 0, 0, 0, 0, 0, 0, 0, 0, 0, 0, 0, 0, 0, 0, 0, 0, 0, 0, 0, 0, 0, 0, 0, 0, 0, 0, 0, 0, 0, 0] : List Int).length = 32) ∧ (AV.nums .u8 [199, 23, 106, 112, 61, 77, 216, 79, 186, 60, 11, 118, 13, 16, 103, 15, 42, 32, 83, 250, 44, 57, 204, 198, 78, 199, 253, 119, 146, 172, 3, 122]) = (AV.nums .u8 (B32 (encP tP))) ∧ (IntKind.u8 = IntKind.u8 ∧ 0 = 0 ∧ (B32 (encP tP)).length = 32 ∧ ([0, 0, 0, 0, 0, 0, 0, 0, 0, 0, 0, 0, 0, 0, 0, 0, 0, 0, 0, 0, 0, 0, 0, 0, 0, 0, 0, 0, 0, 0, 0, 0] : List Int).length = 32) ∧ (AV.int .i64 (IntKind.i64.wrap (Int.tmod (IntKind.u64.wrap tu) 8))) = (AV.int .i64 (Int.ofNat (jN tu - 0))) ∧ (bif Nat.blt (jN tu) 1000 then (x_some la tu (B32 (encP (smul (V la) bP))) 0 = x_some la tu (B32 (encP (padd (smul (V la) bP) (smul 0 tP)))) 0 ∧ (∀ k0, k0 < (jN tu) → ((AV.bool (decide ((Int.ofNat (jN tu - k0)) > 0))) = (AV.bool true) ∧ (0 = 0 ∧ (B32 (encP (padd (smul (V la) bP) (smul k0 tP)))).length = 32) ∧ (0 = 0 ∧ (B32 (encP tP)).length = 32) ∧ (By (B32 (encP (padd (smul (V la) bP) (smul k0 tP)))) ∧ By (B32 (encP tP))) ∧ (AV.tup [(.nums .u8 (B32 (addE (V (B32 (encP (padd (smul (V la) bP) (smul k0 tP))))) (V (B32 (encP tP)))))), (.bool ((okN (V (B32 (encP (padd (smul (V la) bP) (smul k0 tP)))))) && (okN (V (B32 (encP tP))))))]) = (AV.tup [(.nums .u8 (B32 (encP (padd (padd (smul (V la) bP) (smul k0 tP)) tP)))), (.bool true)]) ∧ (IntKind.u8 = IntKind.u8 ∧ 0 = 0 ∧ (B32 (encP (padd (padd (smul (V la) bP) (smul k0 tP)) tP))).length = 32 ∧ (B32 (encP (padd (smul (V la) bP) (smul k0 tP)))).length = 32) ∧ (AV.int .i64 (IntKind.i64.wrap ((Int.ofNat (jN tu - k0)) - (1 : Int)))) = (AV.int .i64 (Int.ofNat (jN tu - (k0 + 1)))) ∧ x_some la tu (B32 (encP (padd (padd (smul (V la) bP) (smul k0 tP)) tP))) (k0 + 1) = x_some la tu (B32 (encP (padd (smul (V la) bP) (smul (k0 + 1) tP)))) (k0 + 1))) ∧ (AV.bool (decide ((Int.ofNat (jN tu - (jN tu))) > 0))) = (AV.bool false) ∧ (0 = 0 ∧ (B32 (encP (padd (smul (V la) bP) (smul (jN tu) tP)))).length = 32) ∧ (IntKind.u8 = IntKind.u8 ∧ 0 = 0 ∧ (B32 (encP (padd (smul (V la) bP) (smul (jN tu) tP)))).length = 32 ∧ ([0, 0, 0, 0, 0, 0, 0, 0, 0, 0, 0, 0, 0, 0, 0, 0, 0, 0, 0, 0, 0, 0, 0, 0, 0, 0, 0, 0, 0, 0, 0, 0] : List Int).length = 32) ∧ ((AV.tup [(.nums .u8 (B32 (encP (padd (smul (V la) bP) (smul (jN tu) tP))))), (.bool true)]) = (AV.tup [.nums .u8 (B32 (encP (someP (V la) tu))), .bool true]) ∧ ([] : Mem) = [])) else False)) := by kernel_rfl
theorem some_ok {la : List Int} {tu : Int} (ha : By la) : ∃ D H N, specW Try.prog D (cC6 Try.prog) H N 49 [(.nums .u8 la), (.int .i64 tu)] [] fun v M => v = (.tup [.nums .u8 (B32 (encP (someP (V la) tu))), .bool true]) ∧ M = [] := by
  have hj := jN_ok tu
  refine ⟨d_some, _, 1000, Eq.mpr (run_some la tu) ⟨⟨rfl, ha.1⟩, (by rw [enc_bP]), ⟨ha, By_B32 _⟩, (by simp only [VE, okE, timesE_enc]), ⟨rfl, rfl, B32_len _, rfl⟩, (by rw [tor_list]), ⟨rfl, rfl, B32_len _, rfl⟩, (aI hj.1), (bifT (by have := hj.2; simp only [Nat.blt_eq]; omega) ⟨?_, fun k0 hk0 => ⟨(aB (decide_eq_true (by simp only [Int.ofNat_eq_natCast]; omega))), ⟨rfl, B32_len _⟩, ⟨rfl, B32_len _⟩, ⟨By_B32 _, By_B32 _⟩, (by simp only [Bool.and_self, VE, addE_enc, okE]), ⟨rfl, rfl, B32_len _, B32_len _⟩, (aI (by rw [IntKind.wrap_i64]; simp only [Int.ofNat_eq_natCast]; omega)), ?_⟩, (aB (decide_eq_false (by simp only [Int.ofNat_eq_natCast]; omega))), ⟨rfl, B32_len _⟩, ⟨rfl, rfl, B32_len _, rfl⟩, ⟨rfl, rfl⟩⟩)⟩⟩
  · exact congrArg (fun X => x_some la tu X 0) (congrArg (fun p => B32 (encP p)) (padd_zero _).symm)
  · exact congrArg (fun X => x_some la tu X (k0 + 1)) (congrArg (fun p => B32 (encP p)) (padd_assoc _ _ _))
noncomputable def s_some : Spec := fun a M => match a, M with
  | [.nums .u8 l, .int .i64 t], [] => some (some (By l), .tup [.nums .u8 (B32 (encP (someP (V l) t))), .bool true], [])
  | _, _ => none
noncomputable def cC7 (P : Program) : OrcP := addS (addS (cC6 P) 43 s_awakec) 49 s_some
theorem cC7_ok : OrcPOK Try.prog (cC7 Try.prog) := by
  unfold cC7
  refine (addS_ok mixed (addS_ok mixed cC6_ok cC6_ok ?_) cC6_ok ?_)
  · intro a M q v M' h hq
    unfold s_awakec at h
    split at h
    · simp only [Option.some.injEq, Prod.mk.injEq] at h
      obtain ⟨rfl, rfl, rfl⟩ := h
      exact awakec_ok trivial
    · cases h
  · intro a M q v M' h hq
    unfold s_some at h
    split at h
    · simp only [Option.some.injEq, Prod.mk.injEq] at h
      obtain ⟨rfl, rfl, rfl⟩ := h
      exact some_ok hq
    · cases h
end Go.Proofs.Ytfdhfhgljhnhlaa
