/- The exported functions of field, and the reference's. No condition. -/
import Derived.Test.YtfknmccjfolhpaaFi9
namespace Go.Proofs.Ytfknmccjfolhpaa
open Go Go.RowKit
def s_bytesr : Spec := fun a M => match a, M with
  | [.nums .u64 l], [] => some (some (Ws 4 l), .nums .u8 (B32 (Wv l)), [])
  | _, _ => none
def s_From : Spec := fun a M => match a, M with
  | [.nums .u8 l], [] => some (some (By l), .nums .u64 (W4 (V l)), [])
  | _, _ => none
theorem bytesr_ok {l : List Int} (h : Ws 4 l) : ∃ D H N, specW Try.prog D (cBP Try.prog) H N 49 [.nums .u64 l] [] fun v M => v = .nums .u8 (B32 (Wv l)) ∧ M = [] := by
  obtain ⟨a, b, c, d, rfl, hi, e⟩ := Ws4_cases h
  rw [e]
  exact bytes_ok hi
theorem bif_lt {b : Bool} {m n p : Nat} (h1 : m < p) (h2 : n < p) : (bif b then m else n) < p := by cases b <;> assumption
theorem rv_lt {b : Bool} {r p : Nat} (h : r < p) : (bif b then (bif r % 2 == 1 then p - r else r) else 0) < p := by
  cases b with
  | false => show 0 < p; omega
  | true =>
    rw [cond_true]
    cases hb : r % 2 == 1 with
    | true =>
      have := eq_of_beq hb
      rw [cond_true]; omega
    | false => exact h
theorem rootR_lt (x : Nat) : rootR x < 57896044618658097711785492504343953926634992332820282019728792003956564819949 := bif_lt (mpow_lt _ _ _) (Nat.mod_lt _ (by decide))
theorem rootV_lt (x : Nat) : rootV x < 57896044618658097711785492504343953926634992332820282019728792003956564819949 := rv_lt (rootR_lt x)
def cF12 (P : Program) : OrcP := addS (cF11 P) 49 s_bytesr
theorem cF12_ok : OrcPOK Try.prog (cF12 Try.prog) := by
  unfold cF12
  refine (addS_ok mixed cF11_ok cB_ok ?_)
  · intro a M q v M' h hq
    unfold s_bytesr at h
    split at h
    · simp only [Option.some.injEq, Prod.mk.injEq] at h
      obtain ⟨rfl, rfl, rfl⟩ := h
      exact bytesr_ok hq
    · cases h
theorem Ws4_small {n : Nat} (h : n < 18446744073709551616) : Ws 4 [Int.ofNat n, 0, 0, 0] := ⟨rfl, by
  intro x hx
  simp only [List.mem_cons, List.not_mem_nil, or_false] at hx
  rcases hx with rfl | rfl | rfl | rfl
  · exact ⟨Int.natCast_nonneg n, by simp only [Int.ofNat_eq_natCast]; omega⟩
  all_goals decide⟩
theorem Wv_small {n : Nat} : Wv [Int.ofNat n, 0, 0, 0] = n := by
  have := Wv4 n 0 0 0
  rw [V4_1] at this
  exact this
theorem good_eq {la : List Int} (ha : By la) : (W4 (Wv (W4 (V la)) % 57896044618658097711785492504343953926634992332820282019728792003956564819949) == W4 (V la)) = (V la % 57896044618658097711785492504343953926634992332820282019728792003956564819949 == V la) := by
  rw [WvW (By_lt ha), W4_eq (modP_lt _) (By_lt ha)]
theorem odd_eq {la : List Int} (ha : By la) : (IntKind.u64.wrap ((BitVec.ofInt 64 ((W4 (Wv (W4 (V la)) % 57896044618658097711785492504343953926634992332820282019728792003956564819949)).getD 0 0) &&& BitVec.ofInt 64 (1 : Int)).toNat) == 1) = (V la % 57896044618658097711785492504343953926634992332820282019728792003956564819949 % 2 == 1) := by
  rw [odd_ok2, WvW (By_lt ha)]
theorem fPlus_lt {x y : Nat} (hx : x < 115792089237316195423570985008687907853269984665640564039457584007913129639936) (hy : y < 115792089237316195423570985008687907853269984665640564039457584007913129639936) : fPlus x y < 115792089237316195423570985008687907853269984665640564039457584007913129639936 := by
  unfold fPlus upN; omega
theorem fLess_lt {x y : Nat} (hx : x < 115792089237316195423570985008687907853269984665640564039457584007913129639936) : fLess x y < 115792089237316195423570985008687907853269984665640564039457584007913129639936 := by
  unfold fLess
  exact fPlus_lt hx (by omega)
def h_xadd (la lb : List Int) : Hints := ⟨fun it t => match t with
  | 5 => bif eqIt [] it then some .ask else none
  | 7 => bif eqIt [] it then some .ask else none
  | 100004 => bif eqIt [] it then some .ask else none
  | _ => none, fun it id => match id, it with
  | _, _ => none⟩
theorem run_xadd (la lb : List Int) : specW Try.prog noD (cF12 Try.prog) (h_xadd la lb) 1000 23 [(.nums .u8 la), (.nums .u8 lb)] [] (fun v M => v = (.nums .u8 (B32 ((V la + V lb) % 57896044618658097711785492504343953926634992332820282019728792003956564819949))) ∧ M = []) =
  ((0 = 0 ∧ la.length = 32) ∧ (By la) ∧ (0 = 0 ∧ lb.length = 32) ∧ (By lb) ∧ (Ws 4 (W4 (V la)) ∧ Ws 4 (W4 (V lb))) ∧ (Ws 4 (W4 (fPlus (Wv (W4 (V la))) (Wv (W4 (V lb)))))) ∧ (IntKind.u8 = IntKind.u8 ∧ 0 = 0 ∧ (B32 (Wv (W4 (fPlus (Wv (W4 (V la))) (Wv (W4 (V lb))))) % 57896044618658097711785492504343953926634992332820282019728792003956564819949)).length = 32 ∧ ([0, 0, 0, 0, 0, 0, 0, 0, 0, 0, 0, 0, 0, 0, 0, 0, 0, 0, 0, 0, 0, 0, 0, 0, 0, 0, 0, 0, 0, 0, 0, 0] : List Int).length = 32) ∧ ((AV.nums .u8 (B32 (Wv (W4 (fPlus (Wv (W4 (V la))) (Wv (W4 (V lb))))) % 57896044618658097711785492504343953926634992332820282019728792003956564819949))) = (AV.nums .u8 (B32 ((V la + V lb) % 57896044618658097711785492504343953926634992332820282019728792003956564819949))) ∧ ([] : Mem) = [])) := by kernel_rfl
theorem xadd_ok {la lb : List Int} (hyp : By la ∧ By lb) : ∃ D H N, specW Try.prog D (cF12 Try.prog) H N 23 [(.nums .u8 la), (.nums .u8 lb)] [] fun v M => v = (.nums .u8 (B32 ((V la + V lb) % 57896044618658097711785492504343953926634992332820282019728792003956564819949))) ∧ M = [] := by
  obtain ⟨ha, hb⟩ := hyp
  refine ⟨noD, _, 1000, Eq.mpr (run_xadd la lb) ⟨⟨rfl, ha.1⟩, ha, ⟨rfl, hb.1⟩, hb, ⟨Ws_W4 _, Ws_W4 _⟩, Ws_W4 _, ⟨rfl, rfl, B32_len _, rfl⟩, ⟨?_, rfl⟩⟩⟩
  rw [WvW (By_lt ha), WvW (By_lt hb), WvW (fPlus_lt (By_lt ha) (By_lt hb)), fPlus_mod]
def h_radd (la lb : List Int) : Hints := ⟨fun it t => match t with
  | 5 => bif eqIt [] it then some .ask else none
  | 8 => bif eqIt [] it then some .ask else none
  | 100004 => bif eqIt [] it then some .ask else none
  | _ => none, fun it id => match id, it with
  | _, _ => none⟩
theorem run_radd (la lb : List Int) : specW Try.prog noD (cF12 Try.prog) (h_radd la lb) 1000 36 [(.nums .u8 la), (.nums .u8 lb)] [] (fun v M => v = (.nums .u8 (B32 ((V la + V lb) % 57896044618658097711785492504343953926634992332820282019728792003956564819949))) ∧ M = []) =
  ((0 = 0 ∧ la.length = 32) ∧ (By la) ∧ (Ws 4 (W4 (V la))) ∧ (0 = 0 ∧ lb.length = 32) ∧ (By lb) ∧ (Ws 4 (W4 (V lb))) ∧ (Ws 4 (W4 (Wv (W4 (V la)) % 57896044618658097711785492504343953926634992332820282019728792003956564819949)) ∧ Ws 4 (W4 (Wv (W4 (V lb)) % 57896044618658097711785492504343953926634992332820282019728792003956564819949))) ∧ (Ws 4 (W4 ((Wv (W4 (Wv (W4 (V la)) % 57896044618658097711785492504343953926634992332820282019728792003956564819949)) + Wv (W4 (Wv (W4 (V lb)) % 57896044618658097711785492504343953926634992332820282019728792003956564819949))) % 57896044618658097711785492504343953926634992332820282019728792003956564819949))) ∧ (IntKind.u8 = IntKind.u8 ∧ 0 = 0 ∧ (B32 (Wv (W4 ((Wv (W4 (Wv (W4 (V la)) % 57896044618658097711785492504343953926634992332820282019728792003956564819949)) + Wv (W4 (Wv (W4 (V lb)) % 57896044618658097711785492504343953926634992332820282019728792003956564819949))) % 57896044618658097711785492504343953926634992332820282019728792003956564819949)))).length = 32 ∧ ([0, 0, 0, 0, 0, 0, 0, 0, 0, 0, 0, 0, 0, 0, 0, 0, 0, 0, 0, 0, 0, 0, 0, 0, 0, 0, 0, 0, 0, 0, 0, 0] : List Int).length = 32) ∧ ((AV.nums .u8 (B32 (Wv (W4 ((Wv (W4 (Wv (W4 (V la)) % 57896044618658097711785492504343953926634992332820282019728792003956564819949)) + Wv (W4 (Wv (W4 (V lb)) % 57896044618658097711785492504343953926634992332820282019728792003956564819949))) % 57896044618658097711785492504343953926634992332820282019728792003956564819949))))) = (AV.nums .u8 (B32 ((V la + V lb) % 57896044618658097711785492504343953926634992332820282019728792003956564819949))) ∧ ([] : Mem) = [])) := by kernel_rfl
theorem radd_ok {la lb : List Int} (hyp : By la ∧ By lb) : ∃ D H N, specW Try.prog D (cF12 Try.prog) H N 36 [(.nums .u8 la), (.nums .u8 lb)] [] fun v M => v = (.nums .u8 (B32 ((V la + V lb) % 57896044618658097711785492504343953926634992332820282019728792003956564819949))) ∧ M = [] := by
  obtain ⟨ha, hb⟩ := hyp
  refine ⟨noD, _, 1000, Eq.mpr (run_radd la lb) ⟨⟨rfl, ha.1⟩, ha, Ws_W4 _, ⟨rfl, hb.1⟩, hb, Ws_W4 _, ⟨Ws_W4 _, Ws_W4 _⟩, Ws_W4 _, ⟨rfl, rfl, B32_len _, rfl⟩, ⟨?_, rfl⟩⟩⟩
  simp only [WvW (By_lt ha), WvW (By_lt hb), WvW (modP_lt _)]
  rw [← Nat.add_mod]
def s_xadd : Spec := fun a M => match a, M with
  | [.nums .u8 l, .nums .u8 m], [] => some (some (By l ∧ By m), .nums .u8 (B32 ((V l + V m) % 57896044618658097711785492504343953926634992332820282019728792003956564819949)), [])
  | _, _ => none
def h_xsub (la lb : List Int) : Hints := ⟨fun it t => match t with
  | 5 => bif eqIt [] it then some .ask else none
  | 7 => bif eqIt [] it then some .ask else none
  | 100004 => bif eqIt [] it then some .ask else none
  | _ => none, fun it id => match id, it with
  | _, _ => none⟩
theorem run_xsub (la lb : List Int) : specW Try.prog noD (cF12 Try.prog) (h_xsub la lb) 1000 25 [(.nums .u8 la), (.nums .u8 lb)] [] (fun v M => v = (.nums .u8 (B32 ((V la + (57896044618658097711785492504343953926634992332820282019728792003956564819949 - V lb % 57896044618658097711785492504343953926634992332820282019728792003956564819949)) % 57896044618658097711785492504343953926634992332820282019728792003956564819949))) ∧ M = []) =
  ((0 = 0 ∧ la.length = 32) ∧ (By la) ∧ (0 = 0 ∧ lb.length = 32) ∧ (By lb) ∧ (Ws 4 (W4 (V la)) ∧ Ws 4 (W4 (V lb))) ∧ (Ws 4 (W4 (fLess (Wv (W4 (V la))) (Wv (W4 (V lb)))))) ∧ (IntKind.u8 = IntKind.u8 ∧ 0 = 0 ∧ (B32 (Wv (W4 (fLess (Wv (W4 (V la))) (Wv (W4 (V lb))))) % 57896044618658097711785492504343953926634992332820282019728792003956564819949)).length = 32 ∧ ([0, 0, 0, 0, 0, 0, 0, 0, 0, 0, 0, 0, 0, 0, 0, 0, 0, 0, 0, 0, 0, 0, 0, 0, 0, 0, 0, 0, 0, 0, 0, 0] : List Int).length = 32) ∧ ((AV.nums .u8 (B32 (Wv (W4 (fLess (Wv (W4 (V la))) (Wv (W4 (V lb))))) % 57896044618658097711785492504343953926634992332820282019728792003956564819949))) = (AV.nums .u8 (B32 ((V la + (57896044618658097711785492504343953926634992332820282019728792003956564819949 - V lb % 57896044618658097711785492504343953926634992332820282019728792003956564819949)) % 57896044618658097711785492504343953926634992332820282019728792003956564819949))) ∧ ([] : Mem) = [])) := by kernel_rfl
theorem xsub_ok {la lb : List Int} (hyp : By la ∧ By lb) : ∃ D H N, specW Try.prog D (cF12 Try.prog) H N 25 [(.nums .u8 la), (.nums .u8 lb)] [] fun v M => v = (.nums .u8 (B32 ((V la + (57896044618658097711785492504343953926634992332820282019728792003956564819949 - V lb % 57896044618658097711785492504343953926634992332820282019728792003956564819949)) % 57896044618658097711785492504343953926634992332820282019728792003956564819949))) ∧ M = [] := by
  obtain ⟨ha, hb⟩ := hyp
  refine ⟨noD, _, 1000, Eq.mpr (run_xsub la lb) ⟨⟨rfl, ha.1⟩, ha, ⟨rfl, hb.1⟩, hb, ⟨Ws_W4 _, Ws_W4 _⟩, Ws_W4 _, ⟨rfl, rfl, B32_len _, rfl⟩, ⟨?_, rfl⟩⟩⟩
  rw [WvW (By_lt ha), WvW (By_lt hb), WvW (fLess_lt (By_lt ha)), fLess_mod]
def h_rsub (la lb : List Int) : Hints := ⟨fun it t => match t with
  | 5 => bif eqIt [] it then some .ask else none
  | 8 => bif eqIt [] it then some .ask else none
  | 100004 => bif eqIt [] it then some .ask else none
  | _ => none, fun it id => match id, it with
  | _, _ => none⟩
theorem run_rsub (la lb : List Int) : specW Try.prog noD (cF12 Try.prog) (h_rsub la lb) 1000 37 [(.nums .u8 la), (.nums .u8 lb)] [] (fun v M => v = (.nums .u8 (B32 ((V la + (57896044618658097711785492504343953926634992332820282019728792003956564819949 - V lb % 57896044618658097711785492504343953926634992332820282019728792003956564819949)) % 57896044618658097711785492504343953926634992332820282019728792003956564819949))) ∧ M = []) =
  ((0 = 0 ∧ la.length = 32) ∧ (By la) ∧ (Ws 4 (W4 (V la))) ∧ (0 = 0 ∧ lb.length = 32) ∧ (By lb) ∧ (Ws 4 (W4 (V lb))) ∧ (Ws 4 (W4 (Wv (W4 (V la)) % 57896044618658097711785492504343953926634992332820282019728792003956564819949)) ∧ Ws 4 (W4 (Wv (W4 (V lb)) % 57896044618658097711785492504343953926634992332820282019728792003956564819949)) ∧ Wv (W4 (Wv (W4 (V la)) % 57896044618658097711785492504343953926634992332820282019728792003956564819949)) < 57896044618658097711785492504343953926634992332820282019728792003956564819949 ∧ Wv (W4 (Wv (W4 (V lb)) % 57896044618658097711785492504343953926634992332820282019728792003956564819949)) < 57896044618658097711785492504343953926634992332820282019728792003956564819949) ∧ (Ws 4 (W4 ((Wv (W4 (Wv (W4 (V la)) % 57896044618658097711785492504343953926634992332820282019728792003956564819949)) + (57896044618658097711785492504343953926634992332820282019728792003956564819949 - Wv (W4 (Wv (W4 (V lb)) % 57896044618658097711785492504343953926634992332820282019728792003956564819949)))) % 57896044618658097711785492504343953926634992332820282019728792003956564819949))) ∧ (IntKind.u8 = IntKind.u8 ∧ 0 = 0 ∧ (B32 (Wv (W4 ((Wv (W4 (Wv (W4 (V la)) % 57896044618658097711785492504343953926634992332820282019728792003956564819949)) + (57896044618658097711785492504343953926634992332820282019728792003956564819949 - Wv (W4 (Wv (W4 (V lb)) % 57896044618658097711785492504343953926634992332820282019728792003956564819949)))) % 57896044618658097711785492504343953926634992332820282019728792003956564819949)))).length = 32 ∧ ([0, 0, 0, 0, 0, 0, 0, 0, 0, 0, 0, 0, 0, 0, 0, 0, 0, 0, 0, 0, 0, 0, 0, 0, 0, 0, 0, 0, 0, 0, 0, 0] : List Int).length = 32) ∧ ((AV.nums .u8 (B32 (Wv (W4 ((Wv (W4 (Wv (W4 (V la)) % 57896044618658097711785492504343953926634992332820282019728792003956564819949)) + (57896044618658097711785492504343953926634992332820282019728792003956564819949 - Wv (W4 (Wv (W4 (V lb)) % 57896044618658097711785492504343953926634992332820282019728792003956564819949)))) % 57896044618658097711785492504343953926634992332820282019728792003956564819949))))) = (AV.nums .u8 (B32 ((V la + (57896044618658097711785492504343953926634992332820282019728792003956564819949 - V lb % 57896044618658097711785492504343953926634992332820282019728792003956564819949)) % 57896044618658097711785492504343953926634992332820282019728792003956564819949))) ∧ ([] : Mem) = [])) := by kernel_rfl
theorem rsub_ok {la lb : List Int} (hyp : By la ∧ By lb) : ∃ D H N, specW Try.prog D (cF12 Try.prog) H N 37 [(.nums .u8 la), (.nums .u8 lb)] [] fun v M => v = (.nums .u8 (B32 ((V la + (57896044618658097711785492504343953926634992332820282019728792003956564819949 - V lb % 57896044618658097711785492504343953926634992332820282019728792003956564819949)) % 57896044618658097711785492504343953926634992332820282019728792003956564819949))) ∧ M = [] := by
  obtain ⟨ha, hb⟩ := hyp
  refine ⟨noD, _, 1000, Eq.mpr (run_rsub la lb) ⟨⟨rfl, ha.1⟩, ha, Ws_W4 _, ⟨rfl, hb.1⟩, hb, Ws_W4 _, ⟨Ws_W4 _, Ws_W4 _, (by rw [WvW (modP_lt _)]; exact Nat.mod_lt _ (by decide)), (by rw [WvW (modP_lt _)]; exact Nat.mod_lt _ (by decide))⟩, Ws_W4 _, ⟨rfl, rfl, B32_len _, rfl⟩, ⟨?_, rfl⟩⟩⟩
  simp only [WvW (By_lt ha), WvW (By_lt hb), WvW (modP_lt _)]
  rw [Nat.mod_add_mod]
def s_xsub : Spec := fun a M => match a, M with
  | [.nums .u8 l, .nums .u8 m], [] => some (some (By l ∧ By m), .nums .u8 (B32 ((V l + (57896044618658097711785492504343953926634992332820282019728792003956564819949 - V m % 57896044618658097711785492504343953926634992332820282019728792003956564819949)) % 57896044618658097711785492504343953926634992332820282019728792003956564819949)), [])
  | _, _ => none
def h_xmul (la lb : List Int) : Hints := ⟨fun it t => match t with
  | 5 => bif eqIt [] it then some .ask else none
  | 7 => bif eqIt [] it then some .ask else none
  | 100004 => bif eqIt [] it then some .ask else none
  | _ => none, fun it id => match id, it with
  | _, _ => none⟩
theorem run_xmul (la lb : List Int) : specW Try.prog noD (cF12 Try.prog) (h_xmul la lb) 1000 24 [(.nums .u8 la), (.nums .u8 lb)] [] (fun v M => v = (.nums .u8 (B32 (V la * V lb % 57896044618658097711785492504343953926634992332820282019728792003956564819949))) ∧ M = []) =
  ((0 = 0 ∧ la.length = 32) ∧ (By la) ∧ (0 = 0 ∧ lb.length = 32) ∧ (By lb) ∧ (Ws 4 (W4 (V la)) ∧ Ws 4 (W4 (V lb))) ∧ (Ws 4 (W4 (fMul (Wv (W4 (V la))) (Wv (W4 (V lb)))))) ∧ (IntKind.u8 = IntKind.u8 ∧ 0 = 0 ∧ (B32 (Wv (W4 (fMul (Wv (W4 (V la))) (Wv (W4 (V lb))))) % 57896044618658097711785492504343953926634992332820282019728792003956564819949)).length = 32 ∧ ([0, 0, 0, 0, 0, 0, 0, 0, 0, 0, 0, 0, 0, 0, 0, 0, 0, 0, 0, 0, 0, 0, 0, 0, 0, 0, 0, 0, 0, 0, 0, 0] : List Int).length = 32) ∧ ((AV.nums .u8 (B32 (Wv (W4 (fMul (Wv (W4 (V la))) (Wv (W4 (V lb))))) % 57896044618658097711785492504343953926634992332820282019728792003956564819949))) = (AV.nums .u8 (B32 (V la * V lb % 57896044618658097711785492504343953926634992332820282019728792003956564819949))) ∧ ([] : Mem) = [])) := by kernel_rfl
theorem xmul_ok {la lb : List Int} (hyp : By la ∧ By lb) : ∃ D H N, specW Try.prog D (cF12 Try.prog) H N 24 [(.nums .u8 la), (.nums .u8 lb)] [] fun v M => v = (.nums .u8 (B32 (V la * V lb % 57896044618658097711785492504343953926634992332820282019728792003956564819949))) ∧ M = [] := by
  obtain ⟨ha, hb⟩ := hyp
  refine ⟨noD, _, 1000, Eq.mpr (run_xmul la lb) ⟨⟨rfl, ha.1⟩, ha, ⟨rfl, hb.1⟩, hb, ⟨Ws_W4 _, Ws_W4 _⟩, Ws_W4 _, ⟨rfl, rfl, B32_len _, rfl⟩, ⟨?_, rfl⟩⟩⟩
  rw [WvW (By_lt ha), WvW (By_lt hb), WvW (fMul_lt (By_lt ha) (By_lt hb)), fMul_mod]
def h_rmul (la lb : List Int) : Hints := ⟨fun it t => match t with
  | 5 => bif eqIt [] it then some .ask else none
  | 8 => bif eqIt [] it then some .ask else none
  | 100004 => bif eqIt [] it then some .ask else none
  | _ => none, fun it id => match id, it with
  | _, _ => none⟩
theorem run_rmul (la lb : List Int) : specW Try.prog noD (cF12 Try.prog) (h_rmul la lb) 1000 38 [(.nums .u8 la), (.nums .u8 lb)] [] (fun v M => v = (.nums .u8 (B32 (V la * V lb % 57896044618658097711785492504343953926634992332820282019728792003956564819949))) ∧ M = []) =
  ((0 = 0 ∧ la.length = 32) ∧ (By la) ∧ (Ws 4 (W4 (V la))) ∧ (0 = 0 ∧ lb.length = 32) ∧ (By lb) ∧ (Ws 4 (W4 (V lb))) ∧ (Ws 4 (W4 (Wv (W4 (V la)) % 57896044618658097711785492504343953926634992332820282019728792003956564819949)) ∧ Ws 4 (W4 (Wv (W4 (V lb)) % 57896044618658097711785492504343953926634992332820282019728792003956564819949))) ∧ (Ws 4 (W4 (Wv (W4 (Wv (W4 (V la)) % 57896044618658097711785492504343953926634992332820282019728792003956564819949)) * Wv (W4 (Wv (W4 (V lb)) % 57896044618658097711785492504343953926634992332820282019728792003956564819949)) % 57896044618658097711785492504343953926634992332820282019728792003956564819949))) ∧ (IntKind.u8 = IntKind.u8 ∧ 0 = 0 ∧ (B32 (Wv (W4 (Wv (W4 (Wv (W4 (V la)) % 57896044618658097711785492504343953926634992332820282019728792003956564819949)) * Wv (W4 (Wv (W4 (V lb)) % 57896044618658097711785492504343953926634992332820282019728792003956564819949)) % 57896044618658097711785492504343953926634992332820282019728792003956564819949)))).length = 32 ∧ ([0, 0, 0, 0, 0, 0, 0, 0, 0, 0, 0, 0, 0, 0, 0, 0, 0, 0, 0, 0, 0, 0, 0, 0, 0, 0, 0, 0, 0, 0, 0, 0] : List Int).length = 32) ∧ ((AV.nums .u8 (B32 (Wv (W4 (Wv (W4 (Wv (W4 (V la)) % 57896044618658097711785492504343953926634992332820282019728792003956564819949)) * Wv (W4 (Wv (W4 (V lb)) % 57896044618658097711785492504343953926634992332820282019728792003956564819949)) % 57896044618658097711785492504343953926634992332820282019728792003956564819949))))) = (AV.nums .u8 (B32 (V la * V lb % 57896044618658097711785492504343953926634992332820282019728792003956564819949))) ∧ ([] : Mem) = [])) := by kernel_rfl
theorem rmul_ok {la lb : List Int} (hyp : By la ∧ By lb) : ∃ D H N, specW Try.prog D (cF12 Try.prog) H N 38 [(.nums .u8 la), (.nums .u8 lb)] [] fun v M => v = (.nums .u8 (B32 (V la * V lb % 57896044618658097711785492504343953926634992332820282019728792003956564819949))) ∧ M = [] := by
  obtain ⟨ha, hb⟩ := hyp
  refine ⟨noD, _, 1000, Eq.mpr (run_rmul la lb) ⟨⟨rfl, ha.1⟩, ha, Ws_W4 _, ⟨rfl, hb.1⟩, hb, Ws_W4 _, ⟨Ws_W4 _, Ws_W4 _⟩, Ws_W4 _, ⟨rfl, rfl, B32_len _, rfl⟩, ⟨?_, rfl⟩⟩⟩
  simp only [WvW (By_lt ha), WvW (By_lt hb), WvW (modP_lt _)]
  rw [← Nat.mul_mod]
def s_xmul : Spec := fun a M => match a, M with
  | [.nums .u8 l, .nums .u8 m], [] => some (some (By l ∧ By m), .nums .u8 (B32 (V l * V m % 57896044618658097711785492504343953926634992332820282019728792003956564819949)), [])
  | _, _ => none
def h_xrest (la : List Int) : Hints := ⟨fun it t => match t with
  | 3 => bif eqIt [] it then some .ask else none
  | 100002 => bif eqIt [] it then some .ask else none
  | _ => none, fun it id => match id, it with
  | _, _ => none⟩
theorem run_xrest (la : List Int) : specW Try.prog noD (cF12 Try.prog) (h_xrest la) 1000 26 [(.nums .u8 la)] [] (fun v M => v = (.nums .u8 (B32 (V la % 57896044618658097711785492504343953926634992332820282019728792003956564819949))) ∧ M = []) =
  ((0 = 0 ∧ la.length = 32) ∧ (By la) ∧ (Ws 4 (W4 (V la))) ∧ (IntKind.u8 = IntKind.u8 ∧ 0 = 0 ∧ (B32 (Wv (W4 (V la)) % 57896044618658097711785492504343953926634992332820282019728792003956564819949)).length = 32 ∧ ([0, 0, 0, 0, 0, 0, 0, 0, 0, 0, 0, 0, 0, 0, 0, 0, 0, 0, 0, 0, 0, 0, 0, 0, 0, 0, 0, 0, 0, 0, 0, 0] : List Int).length = 32) ∧ ((AV.nums .u8 (B32 (Wv (W4 (V la)) % 57896044618658097711785492504343953926634992332820282019728792003956564819949))) = (AV.nums .u8 (B32 (V la % 57896044618658097711785492504343953926634992332820282019728792003956564819949))) ∧ ([] : Mem) = [])) := by kernel_rfl
theorem xrest_ok {la : List Int} (ha : By la) : ∃ D H N, specW Try.prog D (cF12 Try.prog) H N 26 [(.nums .u8 la)] [] fun v M => v = (.nums .u8 (B32 (V la % 57896044618658097711785492504343953926634992332820282019728792003956564819949))) ∧ M = [] := by
  refine ⟨noD, _, 1000, Eq.mpr (run_xrest la) ⟨⟨rfl, ha.1⟩, ha, Ws_W4 _, ⟨rfl, rfl, B32_len _, rfl⟩, ⟨?_, rfl⟩⟩⟩
  rw [WvW (By_lt ha)]
def h_rrest (la : List Int) : Hints := ⟨fun it t => match t with
  | 3 => bif eqIt [] it then some .ask else none
  | 100002 => bif eqIt [] it then some .ask else none
  | _ => none, fun it id => match id, it with
  | _, _ => none⟩
theorem run_rrest (la : List Int) : specW Try.prog noD (cF12 Try.prog) (h_rrest la) 1000 35 [(.nums .u8 la)] [] (fun v M => v = (.nums .u8 (B32 (V la % 57896044618658097711785492504343953926634992332820282019728792003956564819949))) ∧ M = []) =
  ((0 = 0 ∧ la.length = 32) ∧ (By la) ∧ (Ws 4 (W4 (V la))) ∧ (Ws 4 (W4 (Wv (W4 (V la)) % 57896044618658097711785492504343953926634992332820282019728792003956564819949))) ∧ (IntKind.u8 = IntKind.u8 ∧ 0 = 0 ∧ (B32 (Wv (W4 (Wv (W4 (V la)) % 57896044618658097711785492504343953926634992332820282019728792003956564819949)))).length = 32 ∧ ([0, 0, 0, 0, 0, 0, 0, 0, 0, 0, 0, 0, 0, 0, 0, 0, 0, 0, 0, 0, 0, 0, 0, 0, 0, 0, 0, 0, 0, 0, 0, 0] : List Int).length = 32) ∧ ((AV.nums .u8 (B32 (Wv (W4 (Wv (W4 (V la)) % 57896044618658097711785492504343953926634992332820282019728792003956564819949))))) = (AV.nums .u8 (B32 (V la % 57896044618658097711785492504343953926634992332820282019728792003956564819949))) ∧ ([] : Mem) = [])) := by kernel_rfl
theorem rrest_ok {la : List Int} (ha : By la) : ∃ D H N, specW Try.prog D (cF12 Try.prog) H N 35 [(.nums .u8 la)] [] fun v M => v = (.nums .u8 (B32 (V la % 57896044618658097711785492504343953926634992332820282019728792003956564819949))) ∧ M = [] := by
  refine ⟨noD, _, 1000, Eq.mpr (run_rrest la) ⟨⟨rfl, ha.1⟩, ha, Ws_W4 _, Ws_W4 _, ⟨rfl, rfl, B32_len _, rfl⟩, ⟨?_, rfl⟩⟩⟩
  simp only [WvW (By_lt ha), WvW (modP_lt _)]
def s_xrest : Spec := fun a M => match a, M with
  | [.nums .u8 l], [] => some (some (By l), .nums .u8 (B32 (V l % 57896044618658097711785492504343953926634992332820282019728792003956564819949)), [])
  | _, _ => none
def h_xinv (la : List Int) : Hints := ⟨fun it t => match t with
  | 3 => bif eqIt [] it then some .ask else none
  | 100002 => bif eqIt [] it then some .ask else none
  | _ => none, fun it id => match id, it with
  | _, _ => none⟩
theorem run_xinv (la : List Int) : specW Try.prog noD (cF12 Try.prog) (h_xinv la) 1000 30 [(.nums .u8 la)] [] (fun v M => v = (.nums .u8 (B32 (mpow (V la) 57896044618658097711785492504343953926634992332820282019728792003956564819947 256))) ∧ M = []) =
  ((0 = 0 ∧ la.length = 32) ∧ (By la) ∧ (Ws 4 (W4 (V la))) ∧ (Ws 4 (W4 (powX (Wv (W4 (V la))) 57896044618658097711785492504343953926634992332820282019728792003956564819947 256))) ∧ (IntKind.u8 = IntKind.u8 ∧ 0 = 0 ∧ (B32 (Wv (W4 (powX (Wv (W4 (V la))) 57896044618658097711785492504343953926634992332820282019728792003956564819947 256)) % 57896044618658097711785492504343953926634992332820282019728792003956564819949)).length = 32 ∧ ([0, 0, 0, 0, 0, 0, 0, 0, 0, 0, 0, 0, 0, 0, 0, 0, 0, 0, 0, 0, 0, 0, 0, 0, 0, 0, 0, 0, 0, 0, 0, 0] : List Int).length = 32) ∧ ((AV.nums .u8 (B32 (Wv (W4 (powX (Wv (W4 (V la))) 57896044618658097711785492504343953926634992332820282019728792003956564819947 256)) % 57896044618658097711785492504343953926634992332820282019728792003956564819949))) = (AV.nums .u8 (B32 (mpow (V la) 57896044618658097711785492504343953926634992332820282019728792003956564819947 256))) ∧ ([] : Mem) = [])) := by kernel_rfl
theorem xinv_ok {la : List Int} (ha : By la) : ∃ D H N, specW Try.prog D (cF12 Try.prog) H N 30 [(.nums .u8 la)] [] fun v M => v = (.nums .u8 (B32 (mpow (V la) 57896044618658097711785492504343953926634992332820282019728792003956564819947 256))) ∧ M = [] := by
  refine ⟨noD, _, 1000, Eq.mpr (run_xinv la) ⟨⟨rfl, ha.1⟩, ha, Ws_W4 _, Ws_W4 _, ⟨rfl, rfl, B32_len _, rfl⟩, ⟨?_, rfl⟩⟩⟩
  rw [WvW (By_lt ha), WvW (powX_lt (By_lt ha) _), powX_mod]
def h_rinv (la : List Int) : Hints := ⟨fun it t => match t with
  | 3 => bif eqIt [] it then some .ask else none
  | 100002 => bif eqIt [] it then some .ask else none
  | _ => none, fun it id => match id, it with
  | _, _ => none⟩
theorem run_rinv (la : List Int) : specW Try.prog noD (cF12 Try.prog) (h_rinv la) 1000 39 [(.nums .u8 la)] [] (fun v M => v = (.nums .u8 (B32 (mpow (V la) 57896044618658097711785492504343953926634992332820282019728792003956564819947 256))) ∧ M = []) =
  ((0 = 0 ∧ la.length = 32) ∧ (By la) ∧ (Ws 4 (W4 (V la))) ∧ (Ws 4 (W4 (Wv (W4 (V la)) % 57896044618658097711785492504343953926634992332820282019728792003956564819949))) ∧ (Ws 4 (W4 (mpow (Wv (W4 (Wv (W4 (V la)) % 57896044618658097711785492504343953926634992332820282019728792003956564819949))) 57896044618658097711785492504343953926634992332820282019728792003956564819947 256))) ∧ (IntKind.u8 = IntKind.u8 ∧ 0 = 0 ∧ (B32 (Wv (W4 (mpow (Wv (W4 (Wv (W4 (V la)) % 57896044618658097711785492504343953926634992332820282019728792003956564819949))) 57896044618658097711785492504343953926634992332820282019728792003956564819947 256)))).length = 32 ∧ ([0, 0, 0, 0, 0, 0, 0, 0, 0, 0, 0, 0, 0, 0, 0, 0, 0, 0, 0, 0, 0, 0, 0, 0, 0, 0, 0, 0, 0, 0, 0, 0] : List Int).length = 32) ∧ ((AV.nums .u8 (B32 (Wv (W4 (mpow (Wv (W4 (Wv (W4 (V la)) % 57896044618658097711785492504343953926634992332820282019728792003956564819949))) 57896044618658097711785492504343953926634992332820282019728792003956564819947 256))))) = (AV.nums .u8 (B32 (mpow (V la) 57896044618658097711785492504343953926634992332820282019728792003956564819947 256))) ∧ ([] : Mem) = [])) := by kernel_rfl
theorem rinv_ok {la : List Int} (ha : By la) : ∃ D H N, specW Try.prog D (cF12 Try.prog) H N 39 [(.nums .u8 la)] [] fun v M => v = (.nums .u8 (B32 (mpow (V la) 57896044618658097711785492504343953926634992332820282019728792003956564819947 256))) ∧ M = [] := by
  refine ⟨noD, _, 1000, Eq.mpr (run_rinv la) ⟨⟨rfl, ha.1⟩, ha, Ws_W4 _, Ws_W4 _, Ws_W4 _, ⟨rfl, rfl, B32_len _, rfl⟩, ⟨?_, rfl⟩⟩⟩
  simp only [WvW (By_lt ha), WvW (modP_lt _)]
  rw [WvW (Nat.lt_trans (mpow_lt _ _ _) (by decide)), mpow_mod]
def s_xinv : Spec := fun a M => match a, M with
  | [.nums .u8 l], [] => some (some (By l), .nums .u8 (B32 (mpow (V l) 57896044618658097711785492504343953926634992332820282019728792003956564819947 256)), [])
  | _, _ => none
def h_xof (n : Nat) : Hints := ⟨fun it t => match t with
  | 100002 => bif eqIt [] it then some .ask else none
  | _ => none, fun it id => match id, it with
  | _, _ => none⟩
theorem run_xof (n : Nat) : specW Try.prog noD (cF12 Try.prog) (h_xof n) 1000 27 [(.int .u64 (Int.ofNat n))] [] (fun v M => v = (.nums .u8 (B32 (n))) ∧ M = []) =
  ((Ws 4 [(Int.ofNat n), 0, 0, 0]) ∧ (IntKind.u8 = IntKind.u8 ∧ 0 = 0 ∧ (B32 (Wv ([(Int.ofNat n), 0, 0, 0] : List Int) % 57896044618658097711785492504343953926634992332820282019728792003956564819949)).length = 32 ∧ ([0, 0, 0, 0, 0, 0, 0, 0, 0, 0, 0, 0, 0, 0, 0, 0, 0, 0, 0, 0, 0, 0, 0, 0, 0, 0, 0, 0, 0, 0, 0, 0] : List Int).length = 32) ∧ ((AV.nums .u8 (B32 (Wv ([(Int.ofNat n), 0, 0, 0] : List Int) % 57896044618658097711785492504343953926634992332820282019728792003956564819949))) = (AV.nums .u8 (B32 (n))) ∧ ([] : Mem) = [])) := by kernel_rfl
theorem xof_ok {n : Nat} (hn : n < 18446744073709551616) : ∃ D H N, specW Try.prog D (cF12 Try.prog) H N 27 [(.int .u64 (Int.ofNat n))] [] fun v M => v = (.nums .u8 (B32 (n))) ∧ M = [] := by
  refine ⟨noD, _, 1000, Eq.mpr (run_xof n) ⟨(Ws4_small hn), ⟨rfl, rfl, B32_len _, rfl⟩, ⟨?_, rfl⟩⟩⟩
  rw [Wv_small, Nat.mod_eq_of_lt (Nat.lt_trans hn (by decide))]
def h_rof (n : Nat) : Hints := ⟨fun it t => match t with
  | 100002 => bif eqIt [] it then some .ask else none
  | _ => none, fun it id => match id, it with
  | _, _ => none⟩
theorem run_rof (n : Nat) : specW Try.prog noD (cF12 Try.prog) (h_rof n) 1000 33 [(.int .u64 (Int.ofNat n))] [] (fun v M => v = (.nums .u8 (B32 (n))) ∧ M = []) =
  ((Ws 4 [(Int.ofNat n), 0, 0, 0]) ∧ (IntKind.u8 = IntKind.u8 ∧ 0 = 0 ∧ (B32 (Wv ([(Int.ofNat n), 0, 0, 0] : List Int))).length = 32 ∧ ([0, 0, 0, 0, 0, 0, 0, 0, 0, 0, 0, 0, 0, 0, 0, 0, 0, 0, 0, 0, 0, 0, 0, 0, 0, 0, 0, 0, 0, 0, 0, 0] : List Int).length = 32) ∧ ((AV.nums .u8 (B32 (Wv ([(Int.ofNat n), 0, 0, 0] : List Int)))) = (AV.nums .u8 (B32 (n))) ∧ ([] : Mem) = [])) := by kernel_rfl
theorem rof_ok {n : Nat} (hn : n < 18446744073709551616) : ∃ D H N, specW Try.prog D (cF12 Try.prog) H N 33 [(.int .u64 (Int.ofNat n))] [] fun v M => v = (.nums .u8 (B32 (n))) ∧ M = [] := by
  refine ⟨noD, _, 1000, Eq.mpr (run_rof n) ⟨(Ws4_small hn), ⟨rfl, rfl, B32_len _, rfl⟩, ⟨?_, rfl⟩⟩⟩
  rw [Wv_small]
def s_xof : Spec := fun a M => match a, M with
  | [.int .u64 (.ofNat n)], [] => some (some (n < 18446744073709551616), .nums .u8 (B32 n), [])
  | _, _ => none
def h_xgood (la : List Int) : Hints := ⟨fun it t => match t with
  | 4 => bif eqIt [] it then some .ask else none
  | 100003 => bif eqIt [] it then some .ask else none
  | 6 => bif eqIt [] it then some .ask else none
  | 8 => bif eqIt [] it then some .ask else none
  | 9 => bif eqIt [] it then some (.askv (.bool (V la % 57896044618658097711785492504343953926634992332820282019728792003956564819949 == V la))) else none
  | _ => none, fun it id => match id, it with
  | _, _ => none⟩
theorem run_xgood (la : List Int) : specW Try.prog noD (cF12 Try.prog) (h_xgood la) 1000 31 [(.nums .u8 la)] [] (fun v M => v = (.bool (V la % 57896044618658097711785492504343953926634992332820282019728792003956564819949 == V la)) ∧ M = []) =
  ((0 = 0 ∧ la.length = 32) ∧ (By la) ∧ (IntKind.u64 = IntKind.u64 ∧ 0 = 0 ∧ (W4 (V la)).length = 4 ∧ ([0, 0, 0, 0] : List Int).length = 4) ∧ (0 = 0 ∧ (W4 (V la)).length = 4) ∧ (Ws 4 (W4 (V la))) ∧ (0 = 0 ∧ (W4 (V la)).length = 4) ∧ (IntKind.u64 = IntKind.u64 ∧ (W4 (Wv (W4 (V la)) % 57896044618658097711785492504343953926634992332820282019728792003956564819949)).length = 4 ∧ (W4 (V la)).length = 4) ∧ (AV.bool (bif false then !((W4 (Wv (W4 (V la)) % 57896044618658097711785492504343953926634992332820282019728792003956564819949)) == (W4 (V la))) else ((W4 (Wv (W4 (V la)) % 57896044618658097711785492504343953926634992332820282019728792003956564819949)) == (W4 (V la))))) = (AV.bool (V la % 57896044618658097711785492504343953926634992332820282019728792003956564819949 == V la)) ∧ ((AV.bool (V la % 57896044618658097711785492504343953926634992332820282019728792003956564819949 == V la)) = (AV.bool (V la % 57896044618658097711785492504343953926634992332820282019728792003956564819949 == V la)) ∧ ([] : Mem) = [])) := by kernel_rfl
theorem xgood_ok {la : List Int} (ha : By la) : ∃ D H N, specW Try.prog D (cF12 Try.prog) H N 31 [(.nums .u8 la)] [] fun v M => v = (.bool (V la % 57896044618658097711785492504343953926634992332820282019728792003956564819949 == V la)) ∧ M = [] := by
  refine ⟨noD, _, 1000, Eq.mpr (run_xgood la) ⟨⟨rfl, ha.1⟩, ha, ⟨rfl, rfl, rfl, rfl⟩, ⟨rfl, rfl⟩, Ws_W4 _, ⟨rfl, rfl⟩, ⟨rfl, rfl, rfl⟩, (aB (good_eq ha)), ⟨rfl, rfl⟩⟩⟩
def h_xodd (la : List Int) : Hints := ⟨fun it t => match t with
  | 3 => bif eqIt [] it then some .ask else none
  | 6 => bif eqIt [] it then some .ask else none
  | 8 => bif eqIt [] it then some (.val (.bool (V la % 57896044618658097711785492504343953926634992332820282019728792003956564819949 % 2 == 1))) else none
  | _ => none, fun it id => match id, it with
  | _, _ => none⟩
theorem run_xodd (la : List Int) : specW Try.prog noD (cF12 Try.prog) (h_xodd la) 1000 29 [(.nums .u8 la)] [] (fun v M => v = (.bool (V la % 57896044618658097711785492504343953926634992332820282019728792003956564819949 % 2 == 1)) ∧ M = []) =
  ((0 = 0 ∧ la.length = 32) ∧ (By la) ∧ (Ws 4 (W4 (V la))) ∧ (inR (0 : Int) 4 = some 0 ∧ 0 * 1 < (W4 (Wv (W4 (V la)) % 57896044618658097711785492504343953926634992332820282019728792003956564819949)).length) ∧ (AV.bool ((IntKind.u64.wrap ((BitVec.ofInt 64 ((W4 (Wv (W4 (V la)) % 57896044618658097711785492504343953926634992332820282019728792003956564819949)).getD (0 * 1) 0) &&& BitVec.ofInt 64 (1 : Int)).toNat)) == 1)) = (AV.bool (V la % 57896044618658097711785492504343953926634992332820282019728792003956564819949 % 2 == 1)) ∧ ((AV.bool (V la % 57896044618658097711785492504343953926634992332820282019728792003956564819949 % 2 == 1)) = (AV.bool (V la % 57896044618658097711785492504343953926634992332820282019728792003956564819949 % 2 == 1)) ∧ ([] : Mem) = [])) := by kernel_rfl
theorem xodd_ok {la : List Int} (ha : By la) : ∃ D H N, specW Try.prog D (cF12 Try.prog) H N 29 [(.nums .u8 la)] [] fun v M => v = (.bool (V la % 57896044618658097711785492504343953926634992332820282019728792003956564819949 % 2 == 1)) ∧ M = [] := by
  refine ⟨noD, _, 1000, Eq.mpr (run_xodd la) ⟨⟨rfl, ha.1⟩, ha, Ws_W4 _, ⟨rfl, (Nat.zero_lt_succ 3)⟩, (aB (odd_eq ha)), ⟨rfl, rfl⟩⟩⟩
def h_rgood (la : List Int) : Hints := ⟨fun it t => match t with
  | 3 => bif eqIt [] it then some .ask else none
  | 6 => bif eqIt [] it then some .ask else none
  | 8 => bif eqIt [] it then some (.askv (.bool (V la % 57896044618658097711785492504343953926634992332820282019728792003956564819949 == V la))) else none
  | _ => none, fun it id => match id, it with
  | _, _ => none⟩
theorem run_rgood (la : List Int) : specW Try.prog noD (cF12 Try.prog) (h_rgood la) 1000 34 [(.nums .u8 la)] [] (fun v M => v = (.bool (V la % 57896044618658097711785492504343953926634992332820282019728792003956564819949 == V la)) ∧ M = []) =
  ((0 = 0 ∧ la.length = 32) ∧ (By la) ∧ (Ws 4 (W4 (V la))) ∧ (0 = 0 ∧ la.length = 32) ∧ (By la) ∧ (IntKind.u64 = IntKind.u64 ∧ (W4 (Wv (W4 (V la)) % 57896044618658097711785492504343953926634992332820282019728792003956564819949)).length = 4 ∧ (W4 (V la)).length = 4) ∧ (AV.bool (bif false then !((W4 (Wv (W4 (V la)) % 57896044618658097711785492504343953926634992332820282019728792003956564819949)) == (W4 (V la))) else ((W4 (Wv (W4 (V la)) % 57896044618658097711785492504343953926634992332820282019728792003956564819949)) == (W4 (V la))))) = (AV.bool (V la % 57896044618658097711785492504343953926634992332820282019728792003956564819949 == V la)) ∧ ((AV.bool (V la % 57896044618658097711785492504343953926634992332820282019728792003956564819949 == V la)) = (AV.bool (V la % 57896044618658097711785492504343953926634992332820282019728792003956564819949 == V la)) ∧ ([] : Mem) = [])) := by kernel_rfl
theorem rgood_ok {la : List Int} (ha : By la) : ∃ D H N, specW Try.prog D (cF12 Try.prog) H N 34 [(.nums .u8 la)] [] fun v M => v = (.bool (V la % 57896044618658097711785492504343953926634992332820282019728792003956564819949 == V la)) ∧ M = [] := by
  refine ⟨noD, _, 1000, Eq.mpr (run_rgood la) ⟨⟨rfl, ha.1⟩, ha, Ws_W4 _, ⟨rfl, ha.1⟩, ha, ⟨rfl, rfl, rfl⟩, (aB (good_eq ha)), ⟨rfl, rfl⟩⟩⟩
def h_rodd (la : List Int) : Hints := ⟨fun it t => match t with
  | 3 => bif eqIt [] it then some .ask else none
  | 6 => bif eqIt [] it then some .ask else none
  | 8 => bif eqIt [] it then some (.val (.bool (V la % 57896044618658097711785492504343953926634992332820282019728792003956564819949 % 2 == 1))) else none
  | _ => none, fun it id => match id, it with
  | _, _ => none⟩
theorem run_rodd (la : List Int) : specW Try.prog noD (cF12 Try.prog) (h_rodd la) 1000 40 [(.nums .u8 la)] [] (fun v M => v = (.bool (V la % 57896044618658097711785492504343953926634992332820282019728792003956564819949 % 2 == 1)) ∧ M = []) =
  ((0 = 0 ∧ la.length = 32) ∧ (By la) ∧ (Ws 4 (W4 (V la))) ∧ (inR (0 : Int) 4 = some 0 ∧ 0 * 1 < (W4 (Wv (W4 (V la)) % 57896044618658097711785492504343953926634992332820282019728792003956564819949)).length) ∧ (AV.bool ((IntKind.u64.wrap ((BitVec.ofInt 64 ((W4 (Wv (W4 (V la)) % 57896044618658097711785492504343953926634992332820282019728792003956564819949)).getD (0 * 1) 0) &&& BitVec.ofInt 64 (1 : Int)).toNat)) == 1)) = (AV.bool (V la % 57896044618658097711785492504343953926634992332820282019728792003956564819949 % 2 == 1)) ∧ ((AV.bool (V la % 57896044618658097711785492504343953926634992332820282019728792003956564819949 % 2 == 1)) = (AV.bool (V la % 57896044618658097711785492504343953926634992332820282019728792003956564819949 % 2 == 1)) ∧ ([] : Mem) = [])) := by kernel_rfl
theorem rodd_ok {la : List Int} (ha : By la) : ∃ D H N, specW Try.prog D (cF12 Try.prog) H N 40 [(.nums .u8 la)] [] fun v M => v = (.bool (V la % 57896044618658097711785492504343953926634992332820282019728792003956564819949 % 2 == 1)) ∧ M = [] := by
  refine ⟨noD, _, 1000, Eq.mpr (run_rodd la) ⟨⟨rfl, ha.1⟩, ha, Ws_W4 _, ⟨rfl, (Nat.zero_lt_succ 3)⟩, (aB (odd_eq ha)), ⟨rfl, rfl⟩⟩⟩
def s_xgood : Spec := fun a M => match a, M with
  | [.nums .u8 l], [] => some (some (By l), .bool (V l % 57896044618658097711785492504343953926634992332820282019728792003956564819949 == V l), [])
  | _, _ => none
def s_xodd : Spec := fun a M => match a, M with
  | [.nums .u8 l], [] => some (some (By l), .bool (V l % 57896044618658097711785492504343953926634992332820282019728792003956564819949 % 2 == 1), [])
  | _, _ => none
def h_xroot (la : List Int) : Hints := ⟨fun it t => match t with
  | 7 => bif eqIt [] it then some .ask else none
  | 100004 => bif eqIt [] it then some .ask else none
  | 12 => bif eqIt [] it then some .ask else none
  | 100002 => bif eqIt [] it then some .ask else none
  | _ => none, fun it id => match id, it with
  | _, _ => none⟩
theorem run_xroot (la : List Int) : specW Try.prog noD (cF12 Try.prog) (h_xroot la) 1000 28 [(.nums .u8 la)] [] (fun v M => v = (.tup [.nums .u8 (B32 (rootV (V la % 57896044618658097711785492504343953926634992332820282019728792003956564819949))), .bool (rootOK (V la % 57896044618658097711785492504343953926634992332820282019728792003956564819949))]) ∧ M = []) =
  ((0 = 0 ∧ la.length = 32) ∧ (By la) ∧ (Ws 4 (W4 (V la))) ∧ (IntKind.u64 = IntKind.u64 ∧ 0 = 0 ∧ (W4 (rootV (Wv (W4 (V la)) % 57896044618658097711785492504343953926634992332820282019728792003956564819949))).length = 4 ∧ ([0, 0, 0, 0] : List Int).length = 4) ∧ (0 = 0 ∧ (W4 (rootV (Wv (W4 (V la)) % 57896044618658097711785492504343953926634992332820282019728792003956564819949))).length = 4) ∧ (Ws 4 (W4 (rootV (Wv (W4 (V la)) % 57896044618658097711785492504343953926634992332820282019728792003956564819949)))) ∧ (IntKind.u8 = IntKind.u8 ∧ 0 = 0 ∧ (B32 (Wv (W4 (rootV (Wv (W4 (V la)) % 57896044618658097711785492504343953926634992332820282019728792003956564819949))) % 57896044618658097711785492504343953926634992332820282019728792003956564819949)).length = 32 ∧ ([0, 0, 0, 0, 0, 0, 0, 0, 0, 0, 0, 0, 0, 0, 0, 0, 0, 0, 0, 0, 0, 0, 0, 0, 0, 0, 0, 0, 0, 0, 0, 0] : List Int).length = 32) ∧ ((AV.tup [(.nums .u8 (B32 (Wv (W4 (rootV (Wv (W4 (V la)) % 57896044618658097711785492504343953926634992332820282019728792003956564819949))) % 57896044618658097711785492504343953926634992332820282019728792003956564819949))), (.bool (rootOK (Wv (W4 (V la)) % 57896044618658097711785492504343953926634992332820282019728792003956564819949)))]) = (AV.tup [.nums .u8 (B32 (rootV (V la % 57896044618658097711785492504343953926634992332820282019728792003956564819949))), .bool (rootOK (V la % 57896044618658097711785492504343953926634992332820282019728792003956564819949))]) ∧ ([] : Mem) = [])) := by kernel_rfl
theorem xroot_ok {la : List Int} (ha : By la) : ∃ D H N, specW Try.prog D (cF12 Try.prog) H N 28 [(.nums .u8 la)] [] fun v M => v = (.tup [.nums .u8 (B32 (rootV (V la % 57896044618658097711785492504343953926634992332820282019728792003956564819949))), .bool (rootOK (V la % 57896044618658097711785492504343953926634992332820282019728792003956564819949))]) ∧ M = [] := by
  refine ⟨noD, _, 1000, Eq.mpr (run_xroot la) ⟨⟨rfl, ha.1⟩, ha, Ws_W4 _, ⟨rfl, rfl, rfl, rfl⟩, ⟨rfl, rfl⟩, Ws_W4 _, ⟨rfl, rfl, B32_len _, rfl⟩, ⟨?_, rfl⟩⟩⟩
  rw [WvW (By_lt ha), WvW (Nat.lt_trans (rootV_lt _) (by decide)), Nat.mod_eq_of_lt (rootV_lt _)]
def h_rroot (la : List Int) : Hints := ⟨fun it t => match t with
  | 7 => bif eqIt [] it then some .ask else none
  | 100004 => bif eqIt [] it then some .ask else none
  | 13 => bif eqIt [] it then some .ask else none
  | 100002 => bif eqIt [] it then some .ask else none
  | _ => none, fun it id => match id, it with
  | _, _ => none⟩
theorem run_rroot (la : List Int) : specW Try.prog noD (cF12 Try.prog) (h_rroot la) 1000 32 [(.nums .u8 la)] [] (fun v M => v = (.tup [.nums .u8 (B32 (rootV (V la % 57896044618658097711785492504343953926634992332820282019728792003956564819949))), .bool (rootOK (V la % 57896044618658097711785492504343953926634992332820282019728792003956564819949))]) ∧ M = []) =
  ((0 = 0 ∧ la.length = 32) ∧ (By la) ∧ (Ws 4 (W4 (V la))) ∧ (Ws 4 (W4 (Wv (W4 (V la)) % 57896044618658097711785492504343953926634992332820282019728792003956564819949)) ∧ Wv (W4 (Wv (W4 (V la)) % 57896044618658097711785492504343953926634992332820282019728792003956564819949)) < 57896044618658097711785492504343953926634992332820282019728792003956564819949) ∧ (IntKind.u64 = IntKind.u64 ∧ 0 = 0 ∧ (W4 (rootV (Wv (W4 (Wv (W4 (V la)) % 57896044618658097711785492504343953926634992332820282019728792003956564819949))))).length = 4 ∧ ([0, 0, 0, 0] : List Int).length = 4) ∧ (0 = 0 ∧ (W4 (rootV (Wv (W4 (Wv (W4 (V la)) % 57896044618658097711785492504343953926634992332820282019728792003956564819949))))).length = 4) ∧ (Ws 4 (W4 (rootV (Wv (W4 (Wv (W4 (V la)) % 57896044618658097711785492504343953926634992332820282019728792003956564819949)))))) ∧ (IntKind.u8 = IntKind.u8 ∧ 0 = 0 ∧ (B32 (Wv (W4 (rootV (Wv (W4 (Wv (W4 (V la)) % 57896044618658097711785492504343953926634992332820282019728792003956564819949))))))).length = 32 ∧ ([0, 0, 0, 0, 0, 0, 0, 0, 0, 0, 0, 0, 0, 0, 0, 0, 0, 0, 0, 0, 0, 0, 0, 0, 0, 0, 0, 0, 0, 0, 0, 0] : List Int).length = 32) ∧ ((AV.tup [(.nums .u8 (B32 (Wv (W4 (rootV (Wv (W4 (Wv (W4 (V la)) % 57896044618658097711785492504343953926634992332820282019728792003956564819949)))))))), (.bool (rootOK (Wv (W4 (Wv (W4 (V la)) % 57896044618658097711785492504343953926634992332820282019728792003956564819949)))))]) = (AV.tup [.nums .u8 (B32 (rootV (V la % 57896044618658097711785492504343953926634992332820282019728792003956564819949))), .bool (rootOK (V la % 57896044618658097711785492504343953926634992332820282019728792003956564819949))]) ∧ ([] : Mem) = [])) := by kernel_rfl
theorem rroot_ok {la : List Int} (ha : By la) : ∃ D H N, specW Try.prog D (cF12 Try.prog) H N 32 [(.nums .u8 la)] [] fun v M => v = (.tup [.nums .u8 (B32 (rootV (V la % 57896044618658097711785492504343953926634992332820282019728792003956564819949))), .bool (rootOK (V la % 57896044618658097711785492504343953926634992332820282019728792003956564819949))]) ∧ M = [] := by
  refine ⟨noD, _, 1000, Eq.mpr (run_rroot la) ⟨⟨rfl, ha.1⟩, ha, Ws_W4 _, ⟨Ws_W4 _, (by rw [WvW (modP_lt _)]; exact Nat.mod_lt _ (by decide))⟩, ⟨rfl, rfl, rfl, rfl⟩, ⟨rfl, rfl⟩, Ws_W4 _, ⟨rfl, rfl, B32_len _, rfl⟩, ⟨?_, rfl⟩⟩⟩
  rw [WvW (By_lt ha), WvW (modP_lt _), WvW (Nat.lt_trans (rootV_lt _) (by decide))]
def s_xroot : Spec := fun a M => match a, M with
  | [.nums .u8 l], [] => some (some (By l), .tup [.nums .u8 (B32 (rootV (V l % 57896044618658097711785492504343953926634992332820282019728792003956564819949))), .bool (rootOK (V l % 57896044618658097711785492504343953926634992332820282019728792003956564819949))], [])
  | _, _ => none
def cF13 (P : Program) : OrcP := addS (addS (addS (addS (addS (addS (addS (addS (addS (addS (addS (addS (addS (addS (addS (addS (addS (addS (cF12 P) 23 s_xadd) 25 s_xsub) 24 s_xmul) 26 s_xrest) 30 s_xinv) 27 s_xof) 31 s_xgood) 29 s_xodd) 28 s_xroot) 36 s_xadd) 37 s_xsub) 38 s_xmul) 35 s_xrest) 39 s_xinv) 33 s_xof) 34 s_xgood) 40 s_xodd) 32 s_xroot
theorem cF13_ok : OrcPOK Try.prog (cF13 Try.prog) := by
  unfold cF13
  refine (addS_ok mixed (addS_ok mixed (addS_ok mixed (addS_ok mixed (addS_ok mixed (addS_ok mixed (addS_ok mixed (addS_ok mixed (addS_ok mixed (addS_ok mixed (addS_ok mixed (addS_ok mixed (addS_ok mixed (addS_ok mixed (addS_ok mixed (addS_ok mixed (addS_ok mixed (addS_ok mixed cF12_ok cF12_ok ?_) cF12_ok ?_) cF12_ok ?_) cF12_ok ?_) cF12_ok ?_) cF12_ok ?_) cF12_ok ?_) cF12_ok ?_) cF12_ok ?_) cF12_ok ?_) cF12_ok ?_) cF12_ok ?_) cF12_ok ?_) cF12_ok ?_) cF12_ok ?_) cF12_ok ?_) cF12_ok ?_) cF12_ok ?_)
  · intro a M q v M' h hq
    unfold s_xadd at h
    split at h
    · simp only [Option.some.injEq, Prod.mk.injEq] at h
      obtain ⟨rfl, rfl, rfl⟩ := h
      exact xadd_ok hq
    · cases h
  · intro a M q v M' h hq
    unfold s_xsub at h
    split at h
    · simp only [Option.some.injEq, Prod.mk.injEq] at h
      obtain ⟨rfl, rfl, rfl⟩ := h
      exact xsub_ok hq
    · cases h
  · intro a M q v M' h hq
    unfold s_xmul at h
    split at h
    · simp only [Option.some.injEq, Prod.mk.injEq] at h
      obtain ⟨rfl, rfl, rfl⟩ := h
      exact xmul_ok hq
    · cases h
  · intro a M q v M' h hq
    unfold s_xrest at h
    split at h
    · simp only [Option.some.injEq, Prod.mk.injEq] at h
      obtain ⟨rfl, rfl, rfl⟩ := h
      exact xrest_ok hq
    · cases h
  · intro a M q v M' h hq
    unfold s_xinv at h
    split at h
    · simp only [Option.some.injEq, Prod.mk.injEq] at h
      obtain ⟨rfl, rfl, rfl⟩ := h
      exact xinv_ok hq
    · cases h
  · intro a M q v M' h hq
    unfold s_xof at h
    split at h
    · simp only [Option.some.injEq, Prod.mk.injEq] at h
      obtain ⟨rfl, rfl, rfl⟩ := h
      exact xof_ok hq
    · cases h
  · intro a M q v M' h hq
    unfold s_xgood at h
    split at h
    · simp only [Option.some.injEq, Prod.mk.injEq] at h
      obtain ⟨rfl, rfl, rfl⟩ := h
      exact xgood_ok hq
    · cases h
  · intro a M q v M' h hq
    unfold s_xodd at h
    split at h
    · simp only [Option.some.injEq, Prod.mk.injEq] at h
      obtain ⟨rfl, rfl, rfl⟩ := h
      exact xodd_ok hq
    · cases h
  · intro a M q v M' h hq
    unfold s_xroot at h
    split at h
    · simp only [Option.some.injEq, Prod.mk.injEq] at h
      obtain ⟨rfl, rfl, rfl⟩ := h
      exact xroot_ok hq
    · cases h
  · intro a M q v M' h hq
    unfold s_xadd at h
    split at h
    · simp only [Option.some.injEq, Prod.mk.injEq] at h
      obtain ⟨rfl, rfl, rfl⟩ := h
      exact radd_ok hq
    · cases h
  · intro a M q v M' h hq
    unfold s_xsub at h
    split at h
    · simp only [Option.some.injEq, Prod.mk.injEq] at h
      obtain ⟨rfl, rfl, rfl⟩ := h
      exact rsub_ok hq
    · cases h
  · intro a M q v M' h hq
    unfold s_xmul at h
    split at h
    · simp only [Option.some.injEq, Prod.mk.injEq] at h
      obtain ⟨rfl, rfl, rfl⟩ := h
      exact rmul_ok hq
    · cases h
  · intro a M q v M' h hq
    unfold s_xrest at h
    split at h
    · simp only [Option.some.injEq, Prod.mk.injEq] at h
      obtain ⟨rfl, rfl, rfl⟩ := h
      exact rrest_ok hq
    · cases h
  · intro a M q v M' h hq
    unfold s_xinv at h
    split at h
    · simp only [Option.some.injEq, Prod.mk.injEq] at h
      obtain ⟨rfl, rfl, rfl⟩ := h
      exact rinv_ok hq
    · cases h
  · intro a M q v M' h hq
    unfold s_xof at h
    split at h
    · simp only [Option.some.injEq, Prod.mk.injEq] at h
      obtain ⟨rfl, rfl, rfl⟩ := h
      exact rof_ok hq
    · cases h
  · intro a M q v M' h hq
    unfold s_xgood at h
    split at h
    · simp only [Option.some.injEq, Prod.mk.injEq] at h
      obtain ⟨rfl, rfl, rfl⟩ := h
      exact rgood_ok hq
    · cases h
  · intro a M q v M' h hq
    unfold s_xodd at h
    split at h
    · simp only [Option.some.injEq, Prod.mk.injEq] at h
      obtain ⟨rfl, rfl, rfl⟩ := h
      exact rodd_ok hq
    · cases h
  · intro a M q v M' h hq
    unfold s_xroot at h
    split at h
    · simp only [Option.some.injEq, Prod.mk.injEq] at h
      obtain ⟨rfl, rfl, rfl⟩ := h
      exact rroot_ok hq
    · cases h
end Go.Proofs.Ytfknmccjfolhpaa
