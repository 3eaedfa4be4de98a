/- The reference's powers, inverses modulo P. No condition. -/
import Derived.Test.YtfknmccjfolhpaaFi7
namespace Go.Proofs.Ytfknmccjfolhpaa
open Go Go.RowKit

def s_subre : Spec := fun a M => match a, M with
  | [.nums .u64 l, .nums .u64 m], [] => some (some (Ws 4 l ∧ Ws 4 m ∧ Wv l < 57896044618658097711785492504343953926634992332820282019728792003956564819949 ∧ Wv m < 57896044618658097711785492504343953926634992332820282019728792003956564819949), .nums .u64 (W4 ((Wv l + (57896044618658097711785492504343953926634992332820282019728792003956564819949 - Wv m)) % 57896044618658097711785492504343953926634992332820282019728792003956564819949)), [])
  | _, _ => none
theorem subrf_ok {l m : List Int} (h : Ws 4 l ∧ Ws 4 m ∧ Wv l < 57896044618658097711785492504343953926634992332820282019728792003956564819949 ∧ Wv m < 57896044618658097711785492504343953926634992332820282019728792003956564819949) : ∃ D H N, specW Try.prog D (cF8 Try.prog) H N 69 [.nums .u64 l, .nums .u64 m] [] fun v M => v = .nums .u64 (W4 ((Wv l + (57896044618658097711785492504343953926634992332820282019728792003956564819949 - Wv m)) % 57896044618658097711785492504343953926634992332820282019728792003956564819949)) ∧ M = [] := by
  obtain ⟨h1, h2, h3, h4⟩ := h
  obtain ⟨a0, a1, a2, a3, rfl, ha, ea⟩ := Ws4_cases h1
  obtain ⟨b0, b1, b2, b3, rfl, hb, eb⟩ := Ws4_cases h2
  rw [ea] at h3 ⊢
  rw [eb] at h4 ⊢
  exact subre_ok ⟨ha, hb, h3, h4⟩
def cF9 (P : Program) : OrcP := addS (addS (addS (cF8 P) 68 s_addrf) 69 s_subre) 70 s_mulrf
theorem cF9_ok : OrcPOK Try.prog (cF9 Try.prog) := by
  unfold cF9
  refine (addS_ok mixed (addS_ok mixed (addS_ok mixed cF8_ok cF8_ok ?_) cF8_ok ?_) cF8_ok ?_)
  · intro a M q v M' h hq
    unfold s_addrf at h
    split at h
    · simp only [Option.some.injEq, Prod.mk.injEq] at h
      obtain ⟨rfl, rfl, rfl⟩ := h
      exact addrf_ok hq
    · cases h
  · intro a M q v M' h hq
    unfold s_subre at h
    split at h
    · simp only [Option.some.injEq, Prod.mk.injEq] at h
      obtain ⟨rfl, rfl, rfl⟩ := h
      exact subrf_ok hq
    · cases h
  · intro a M q v M' h hq
    unfold s_mulrf at h
    split at h
    · simp only [Option.some.injEq, Prod.mk.injEq] at h
      obtain ⟨rfl, rfl, rfl⟩ := h
      exact mulrf_ok hq
    · cases h
def x_powr (l m : List Int) (X : List Int) (k : Nat) : St := ⟨[.junk, .junk, (.ptr 0 0), (.ptr 1 0), (.ptr 2 0), (.ptr 3 0), (.int .i64 (255 - (Int.ofNat k))), .junk, .junk, .junk, .junk, .junk, .junk, .junk, .junk, .junk, .junk, .junk, .junk, .junk, .junk, .junk, .junk, .junk, .junk, .junk, .junk, .junk], [⟨(.nums .u64 l), .own, false⟩, ⟨(.nums .u64 m), .own, false⟩, ⟨(.nums .u64 [0, 0, 0, 0]), .own, false⟩, ⟨(.nums .u64 X), .own, true⟩]⟩
def h_powr (l m : List Int) : Hints := ⟨fun it t => match t with
  | 9 => (match (bif eqIt [none] it then some (.val (.bool false)) else none : Option VH), it with | some v, _ => some v | none, [some k0] => some (.val (.bool true)) | _, _ => none)
  | 12 => (match it with | [some k0] => some .ask | _ => none)
  | 13 => (match it with | [some k0] => some .ask | _ => none)
  | 100005 => (match it with | [some k0] => some .ask | _ => none)
  | 16 => (match it with | [some k0] => some (.val (.int .i64 (Int.ofNat ((255 - k0) / 64)))) | _ => none)
  | 17 => (match it with | [some k0] => some .ask | _ => none)
  | 18 => (match it with | [some k0] => some .ask | _ => none)
  | 20 => (match it with | [some k0] => some (.val (.int .i64 (Int.ofNat ((255 - k0) % 64)))) | _ => none)
  | 23 => (match it with | [some k0] => some (.val (.bool (Wv m / 2 ^ (255 - k0) % 2 == 1))) | _ => none)
  | 200023 => (match it with | [some k0] => some .ask | _ => none)
  | 24 => (match it with | [some k0] => some .ask | _ => none)
  | 25 => (match it with | [some k0] => some .ask | _ => none)
  | 11 => (match it with | [some k0] => some (.val (.int .i64 (255 - (Int.ofNat (k0 + 1))))) | _ => none)
  | 27 => bif eqIt [] it then some .ask else none
  | 100004 => bif eqIt [] it then some .ask else none
  | _ => none, fun it id => match id, it with
  | 0, [] => some ⟨256, true, fun kk => x_powr l m (W4 (mpow (Wv l) (Wv m) kk)) kk⟩
  | _, _ => none⟩
def d_powr : Nat → Option (List Nat) := fun n => match n with
  | 0 => some [0, 1, 7, 8, 9, 10, 11, 12, 13, 14, 15, 16, 17, 18, 19, 20, 21, 22, 23, 24, 25, 26, 27]
  | _ => none
theorem run_powr (l m : List Int) : specW Try.prog d_powr (cF9 Try.prog) (h_powr l m) 1000 79 [(.nums .u64 l), (.nums .u64 m)] [] (fun v M => v = (.nums .u64 (W4 (mpow (Wv l) (Wv m) 256))) ∧ M = []) =
  (x_powr l m [1, 0, 0, 0] 0 = x_powr l m (W4 (mpow (Wv l) (Wv m) 0)) 0 ∧ (∀ k0, k0 < 256 → ((AV.bool (decide ((255 - (Int.ofNat k0)) ≥ 0))) = (AV.bool true) ∧ (0 = 0 ∧ (W4 (mpow (Wv l) (Wv m) k0)).length = 4) ∧ (0 = 0 ∧ (W4 (mpow (Wv l) (Wv m) k0)).length = 4) ∧ (Ws 4 (W4 (mpow (Wv l) (Wv m) k0)) ∧ Ws 4 (W4 (mpow (Wv l) (Wv m) k0))) ∧ (IntKind.u64 = IntKind.u64 ∧ 0 = 0 ∧ (W4 (Wv (W4 (mpow (Wv l) (Wv m) k0)) * Wv (W4 (mpow (Wv l) (Wv m) k0)) % 57896044618658097711785492504343953926634992332820282019728792003956564819949)).length = 4 ∧ (W4 (mpow (Wv l) (Wv m) k0)).length = 4) ∧ (AV.int .i64 (IntKind.i64.wrap (Int.tdiv (255 - (Int.ofNat k0)) 64))) = (AV.int .i64 (Int.ofNat ((255 - k0) / 64))) ∧ (inR (Int.ofNat ((255 - k0) / 64)) 4 = some ((255 - k0) / 64)) ∧ ((0 + ((255 - k0) / 64) * 1) < m.length) ∧ (AV.int .i64 (Int.tmod (255 - (Int.ofNat k0)) 64)) = (AV.int .i64 (Int.ofNat ((255 - k0) % 64))) ∧ (AV.bool ((IntKind.u64.wrap ((BitVec.ofInt 64 (Int.fdiv (m.getD (0 + ((255 - k0) / 64) * 1) 0) (2 ^ (Nat.min ((255 - k0) % 64) 64))) &&& BitVec.ofInt 64 (1 : Int)).toNat)) == 1)) = (AV.bool (Wv m / 2 ^ (255 - k0) % 2 == 1)) ∧ (((Wv m / 2 ^ (255 - k0) % 2 == 1) = true → ((0 = 0 ∧ (W4 (Wv (W4 (mpow (Wv l) (Wv m) k0)) * Wv (W4 (mpow (Wv l) (Wv m) k0)) % 57896044618658097711785492504343953926634992332820282019728792003956564819949)).length = 4) ∧ (0 = 0 ∧ l.length = 4) ∧ (Ws 4 (W4 (Wv (W4 (mpow (Wv l) (Wv m) k0)) * Wv (W4 (mpow (Wv l) (Wv m) k0)) % 57896044618658097711785492504343953926634992332820282019728792003956564819949)) ∧ Ws 4 l) ∧ (IntKind.u64 = IntKind.u64 ∧ 0 = 0 ∧ (W4 (Wv (W4 (Wv (W4 (mpow (Wv l) (Wv m) k0)) * Wv (W4 (mpow (Wv l) (Wv m) k0)) % 57896044618658097711785492504343953926634992332820282019728792003956564819949)) * Wv l % 57896044618658097711785492504343953926634992332820282019728792003956564819949)).length = 4 ∧ (W4 (Wv (W4 (mpow (Wv l) (Wv m) k0)) * Wv (W4 (mpow (Wv l) (Wv m) k0)) % 57896044618658097711785492504343953926634992332820282019728792003956564819949)).length = 4) ∧ (AV.int .i64 (IntKind.i64.wrap ((255 - (Int.ofNat k0)) - (1 : Int)))) = (AV.int .i64 (255 - (Int.ofNat (k0 + 1)))) ∧ x_powr l m (W4 (Wv (W4 (Wv (W4 (mpow (Wv l) (Wv m) k0)) * Wv (W4 (mpow (Wv l) (Wv m) k0)) % 57896044618658097711785492504343953926634992332820282019728792003956564819949)) * Wv l % 57896044618658097711785492504343953926634992332820282019728792003956564819949)) (k0 + 1) = x_powr l m (W4 (mpow (Wv l) (Wv m) (k0 + 1))) (k0 + 1))) ∧ ((Wv m / 2 ^ (255 - k0) % 2 == 1) = false → ((AV.int .i64 (IntKind.i64.wrap ((255 - (Int.ofNat k0)) - (1 : Int)))) = (AV.int .i64 (255 - (Int.ofNat (k0 + 1)))) ∧ x_powr l m (W4 (Wv (W4 (mpow (Wv l) (Wv m) k0)) * Wv (W4 (mpow (Wv l) (Wv m) k0)) % 57896044618658097711785492504343953926634992332820282019728792003956564819949)) (k0 + 1) = x_powr l m (W4 (mpow (Wv l) (Wv m) (k0 + 1))) (k0 + 1)))))) ∧ (AV.bool (decide ((255 - (Int.ofNat 256)) ≥ 0))) = (AV.bool false) ∧ (0 = 0 ∧ (W4 (mpow (Wv l) (Wv m) 256)).length = 4) ∧ (IntKind.u64 = IntKind.u64 ∧ 0 = 0 ∧ (W4 (mpow (Wv l) (Wv m) 256)).length = 4 ∧ ([0, 0, 0, 0] : List Int).length = 4) ∧ ((AV.nums .u64 (W4 (mpow (Wv l) (Wv m) 256))) = (AV.nums .u64 (W4 (mpow (Wv l) (Wv m) 256))) ∧ ([] : Mem) = [])) := by kernel_rfl
theorem powr_ok {l m : List Int} (hyp : Ws 4 l ∧ Ws 4 m) : ∃ D H N, specW Try.prog D (cF9 Try.prog) H N 79 [(.nums .u64 l), (.nums .u64 m)] [] fun v M => v = (.nums .u64 (W4 (mpow (Wv l) (Wv m) 256))) ∧ M = [] := by
  obtain ⟨hl, hm⟩ := hyp
  have hX : ∀ k, Wv (W4 (mpow (Wv l) (Wv m) k)) = mpow (Wv l) (Wv m) k := fun k => WvW (Nat.lt_trans (mpow_lt _ _ _) (by decide))
  refine ⟨d_powr, _, 1000, Eq.mpr (run_powr l m) ⟨?_, fun k0 hk0 => ⟨(aB (down_ge (n := 255) (by omega))), ⟨rfl, rfl⟩, ⟨rfl, rfl⟩, ⟨Ws_W4 _, Ws_W4 _⟩, ⟨rfl, rfl, rfl, rfl⟩, (aI (down_quo hk0)), (inR_ok (by omega)), (by rw [hm.1]; omega), (aI (down_rem hk0)), (aB (bit_ok hm hk0)), ⟨fun hb => ⟨⟨rfl, rfl⟩, ⟨rfl, hl.1⟩, ⟨Ws_W4 _, hl⟩, ⟨rfl, rfl, rfl, rfl⟩, (aI (down_dec hk0)), ?_⟩, fun hb => ⟨(aI (down_dec hk0)), ?_⟩⟩⟩, rfl, ⟨rfl, rfl⟩, ⟨rfl, rfl, rfl, rfl⟩, ⟨rfl, rfl⟩⟩⟩
  · refine congrArg (fun X => x_powr l m X 0) ?_
    show [1, 0, 0, 0] = W4 1
    decide
  · refine congrArg (fun X => x_powr l m X (k0 + 1)) (congrArg W4 ?_)
    simp only [mpow, hb, cond_true, hX, WvW (modP_lt _)]
  · refine congrArg (fun X => x_powr l m X (k0 + 1)) (congrArg W4 ?_)
    simp only [mpow, hb, cond_false, hX]
end Go.Proofs.Ytfknmccjfolhpaa
