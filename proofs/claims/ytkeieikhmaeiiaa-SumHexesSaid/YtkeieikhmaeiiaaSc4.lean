/- What a long number leaves: scalar's rest, round by round. No condition. -/
import Derived.Test.YtkeieikhmaeiiaaSc3
namespace Go.Proofs.Ytkeieikhmaeiiaa
open Go Go.RowKit

/-- The number that words are, the lowest first. -/
def Wv : List Int → Nat
  | [] => 0
  | x :: l => x.toNat + 18446744073709551616 * Wv l
def Ws (n : Nat) (l : List Int) : Prop := l.length = n ∧ ∀ x ∈ l, 0 ≤ x ∧ x < 18446744073709551616
theorem Ws_get {n : Nat} {l : List Int} (h : Ws n l) {j : Nat} (hj : j < n) : l.getD j 0 = Int.ofNat (l.getD j 0).toNat ∧ (l.getD j 0).toNat < 18446744073709551616 := by
  have hl : j < l.length := by rw [h.1]; exact hj
  have : l.getD j 0 = l[j] := by simp [List.getD, List.getElem?_eq_getElem hl]
  have h2 := h.2 l[j] (List.getElem_mem hl)
  rw [this]
  exact ⟨(Int.toNat_of_nonneg h2.1).symm, by omega⟩
theorem Wv_lt : ∀ {l : List Int}, (∀ x ∈ l, 0 ≤ x ∧ x < 18446744073709551616) → Wv l < 18446744073709551616 ^ l.length
  | [], _ => by simp [Wv]
  | x :: l, h => by
    have h1 := h x List.mem_cons_self
    have h2 := Wv_lt fun y hy => h y (List.mem_cons_of_mem _ hy)
    simp only [Wv, List.length_cons, Nat.pow_succ]
    omega
/-- A bit of words. -/
theorem Wv_bit : ∀ {l : List Int} {j m : Nat}, (∀ x ∈ l, 0 ≤ x ∧ x < 18446744073709551616) → j < l.length → m < 64 → Wv l / 2 ^ (64 * j + m) % 2 = (l.getD j 0).toNat / 2 ^ m % 2
  | [], j, m, _, hj, _ => by simp at hj
  | x :: l, 0, m, h, _, hm => by
    have h1 := h x List.mem_cons_self
    simp only [Wv, List.getD_cons_zero, Nat.mul_zero, Nat.zero_add]
    have e : (18446744073709551616 : Nat) = 2 ^ m * (2 * 2 ^ (63 - m)) := by
      rw [← Nat.pow_succ', ← Nat.pow_add, show m + (63 - m).succ = 64 by omega]
    rw [e, Nat.mul_assoc (2 ^ m), Nat.add_mul_div_left _ _ (Nat.two_pow_pos m), Nat.mul_assoc 2, Nat.add_mul_mod_self_left]
  | x :: l, j + 1, m, h, hj, hm => by
    have h1 := h x List.mem_cons_self
    have ih := Wv_bit (l := l) (j := j) (m := m) (fun y hy => h y (List.mem_cons_of_mem _ hy)) (by simpa using hj) hm
    simp only [Wv, List.getD_cons_succ]
    rw [← ih, show 64 * (j + 1) + m = 64 + (64 * j + m) by omega, Nat.pow_add, ← Nat.div_div_eq_div_mul]
    congr 2
    have : (2 : Nat) ^ 64 = 18446744073709551616 := by decide
    omega
/-- What the first k bits, from the highest on, leave. -/
def Rk (N : Nat) (v k : Nat) : Nat := v / 2 ^ (N - k) % 7237005577332262213973186563042994240857116359379907606001950938285454250989
theorem Rk_succ {N v k : Nat} (hk : k < N) : Rk N v (k + 1) = (2 * Rk N v k + v / 2 ^ (N - 1 - k) % 2) % 7237005577332262213973186563042994240857116359379907606001950938285454250989 := by
  unfold Rk
  rw [show N - (k + 1) = N - 1 - k by omega, show N - k = (N - 1 - k) + 1 by omega, Nat.pow_succ, ← Nat.div_div_eq_div_mul]
  generalize v / 2 ^ (N - 1 - k) = t
  omega
theorem Rk_lt (N v k : Nat) : Rk N v k < 7237005577332262213973186563042994240857116359379907606001950938285454250989 := Nat.mod_lt _ (by decide)
theorem and_one {x : Nat} (hx : x < 18446744073709551616) : andR (Int.ofNat x) 1 = Int.ofNat (x % 2) := and_mask (m := 1) (by omega) hx
theorem i64_small (n : Nat) (h : n < 9223372036854775808) : IntKind.i64.wrap (Int.ofNat n) = Int.ofNat n := by
  rw [IntKind.wrap_i64]; simp only [Int.ofNat_eq_natCast]; omega

def cS1 (P : Program) : OrcP := addS (cS P) 56 s_step
theorem cS1_ok : OrcPOK Try.prog (cS1 Try.prog) := by
  unfold cS1
  refine addS_ok mixed cS_ok cS_ok ?_
  intro a M q v M' h hq
  unfold s_step at h
  split at h
  · simp only [Option.some.injEq, Prod.mk.injEq] at h
    obtain ⟨rfl, rfl, rfl⟩ := h
    exact step_ok2 hq
  · cases h
def d_rest8 : Nat → Option (List Nat) := fun n => match n with
  | 0 => some [1, 6, 7, 8, 9, 10, 11, 12, 13, 14, 15, 16, 17, 18, 19, 20, 21, 22, 23, 24, 25, 26, 27]
  | _ => none
def x_rest8 (lim : Option Nat) (l X : List Int) (k : Nat) : St := ⟨[.sl 0 0 0 8 1 lim, .junk, .ptr 1 0, .ptr 2 0, .fn 56 [.ptr 2 0] [], .int .i64 (511 - (Int.ofNat k)), .junk, .junk, .junk, .junk, .junk, .junk, .junk, .junk, .junk, .junk, .junk, .junk, .junk, .junk, .junk, .junk, .junk, .junk, .junk, .junk, .junk, .junk], [⟨.nums .u64 l, .own, false⟩, ⟨.nums .u8 [0, 0, 0, 0, 0, 0, 0, 0, 0, 0, 0, 0, 0, 0, 0, 0, 0, 0, 0, 0, 0, 0, 0, 0, 0, 0, 0, 0, 0, 0, 0, 0], .own, false⟩, ⟨.nums .u64 X, .own, !(Nat.beq k 0)⟩]⟩
def h_rest8 (lim : Option Nat) (l : List Int) : Hints := ⟨fun it t => match t, it with
  | 12, [some _] => some (.val (.bool true))
  | 18, [some k] => some (.val (.int .i64 (Int.ofNat ((511 - k) / 64))))
  | 19, [some _] => some .ask
  | 20, [some _] => some .ask
  | 22, [some k] => some (.val (.int .i64 (Int.ofNat ((511 - k) % 64))))
  | 24, [some k] => some (.val (.int .u64 (Int.ofNat (Wv l / 2 ^ (511 - k) % 2))))
  | 14, [some k] => some (.val (.int .i64 (511 - (Int.ofNat (k + 1)))))
  | _, _ => none, fun _ id => match id with
  | 0 => some ⟨512, true, false, fun k => x_rest8 lim l (W4 (Rk 512 (Wv l) k)) k⟩
  | _ => none⟩
theorem run_rest8 (lim : Option Nat) (l : List Int) : specW Try.prog d_rest8 (cS1 Try.prog) (h_rest8 lim l) 1000 36 [.sl 0 0 0 8 1 lim] [(⟨.nums .u64 l, .own, false⟩ : Blk)] (fun v M => v = .nums .u8 (B32 (V4 (w0 (Rk 512 (Wv l) 512)) (w1 (Rk 512 (Wv l) 512)) (w2 (Rk 512 (Wv l) 512)) (w3 (Rk 512 (Wv l) 512)))) ∧ M = [(⟨.nums .u64 l, .own, false⟩ : Blk)]) =
  (x_rest8 lim l [0, 0, 0, 0] 0 = x_rest8 lim l (W4 (Rk 512 (Wv l) 0)) 0 ∧ (∀ k, k < 512 → (AV.bool (decide ((511 - (Int.ofNat k)) ≥ 0)) = AV.bool true ∧ AV.int .i64 (IntKind.i64.wrap (Int.tdiv (511 - (Int.ofNat k)) 64)) = AV.int .i64 (Int.ofNat ((511 - k) / 64)) ∧ (1 = 1 ∧ inR (Int.ofNat ((511 - k) / 64)) 8 = some ((511 - k) / 64)) ∧ (0 + (511 - k) / 64 * 1 < l.length) ∧ AV.int .i64 (Int.tmod (511 - (Int.ofNat k)) 64) = AV.int .i64 (Int.ofNat ((511 - k) % 64)) ∧ AV.int .u64 (andR (shrR (l.getD (0 + (511 - k) / 64 * 1) 0) ((511 - k) % 64)) 1) = AV.int .u64 (Int.ofNat (Wv l / 2 ^ (511 - k) % 2)) ∧ (In4 (w0 (Rk 512 (Wv l) k)) (w1 (Rk 512 (Wv l) k)) (w2 (Rk 512 (Wv l) k)) (w3 (Rk 512 (Wv l) k)) ∧ (Wv l / 2 ^ (511 - k) % 2) ≤ 1 ∧ V4 (w0 (Rk 512 (Wv l) k)) (w1 (Rk 512 (Wv l) k)) (w2 (Rk 512 (Wv l) k)) (w3 (Rk 512 (Wv l) k)) < 7237005577332262213973186563042994240857116359379907606001950938285454250989) ∧ AV.int .i64 (IntKind.i64.wrap ((511 - (Int.ofNat k)) - 1)) = AV.int .i64 (511 - (Int.ofNat (k + 1))) ∧ x_rest8 lim l (W4 ((2 * V4 (w0 (Rk 512 (Wv l) k)) (w1 (Rk 512 (Wv l) k)) (w2 (Rk 512 (Wv l) k)) (w3 (Rk 512 (Wv l) k)) + (Wv l / 2 ^ (511 - k) % 2)) % 7237005577332262213973186563042994240857116359379907606001950938285454250989)) (k + 1) = x_rest8 lim l (W4 (Rk 512 (Wv l) (k + 1))) (k + 1))) ∧ In4 (w0 (Rk 512 (Wv l) 512)) (w1 (Rk 512 (Wv l) 512)) (w2 (Rk 512 (Wv l) 512)) (w3 (Rk 512 (Wv l) 512)) ∧ AV.nums .u8 (B32 (V4 (w0 (Rk 512 (Wv l) 512)) (w1 (Rk 512 (Wv l) 512)) (w2 (Rk 512 (Wv l) 512)) (w3 (Rk 512 (Wv l) 512)))) = AV.nums .u8 (B32 (V4 (w0 (Rk 512 (Wv l) 512)) (w1 (Rk 512 (Wv l) 512)) (w2 (Rk 512 (Wv l) 512)) (w3 (Rk 512 (Wv l) 512)))) ∧ [(⟨.nums .u64 l, .own, false⟩ : Blk)] = [(⟨.nums .u64 l, .own, false⟩ : Blk)]) := by kernel_rfl
theorem rest8_ok {lim : Option Nat} {l : List Int} (h : Ws 8 l) : ∃ D H N, specW Try.prog D (cS1 Try.prog) H N 36 [.sl 0 0 0 8 1 lim] [⟨.nums .u64 l, .own, false⟩] fun v M => v = .nums .u8 (B32 (Wv l % 7237005577332262213973186563042994240857116359379907606001950938285454250989)) ∧ M = [⟨.nums .u64 l, .own, false⟩] := by
  have big : ∀ k, Rk 512 (Wv l) k < 115792089237316195423570985008687907853269984665640564039457584007913129639936 := fun k => Nat.lt_trans (Rk_lt _ _ _) (by decide)
  have hfin : V4 (w0 (Rk 512 (Wv l) 512)) (w1 (Rk 512 (Wv l) 512)) (w2 (Rk 512 (Wv l) 512)) (w3 (Rk 512 (Wv l) 512)) = Wv l % 7237005577332262213973186563042994240857116359379907606001950938285454250989 := by
    rw [V4_w (big _)]
    simp only [Rk, Nat.sub_self, Nat.pow_zero, Nat.div_one]
  rw [← hfin]
  refine ⟨d_rest8, h_rest8 lim l, 1000, Eq.mpr (run_rest8 lim l) ⟨?_, fun k hk => ⟨?_, ?_, ⟨rfl, ?_⟩, ?_, ?_, ?_, ⟨In4_w _, ?_, ?_⟩, ?_, ?_⟩, In4_w _, rfl, rfl⟩⟩
  · congr 1
    have h1 := Wv_lt h.2
    rw [h.1] at h1
    have : Rk 512 (Wv l) 0 = 0 := by
      unfold Rk
      have e : (18446744073709551616 : Nat) ^ 8 = 2 ^ 512 := by decide +kernel
      rw [e] at h1
      rw [Nat.sub_zero, Nat.div_eq_of_lt h1, Nat.zero_mod]
    rw [this]; rfl
  · congr 1
    have : (511 - (Int.ofNat k)) ≥ 0 := by simp only [Int.ofNat_eq_natCast]; omega
    simpa using this
  · congr 1
    have : (511 - (Int.ofNat k)) = Int.ofNat (511 - k) := by simp only [Int.ofNat_eq_natCast]; omega
    rw [this]
    show IntKind.i64.wrap (Int.ofNat ((511 - k) / 64)) = _
    exact i64_small _ (by omega)
  · show inR (Int.ofNat _) 8 = _
    have : Nat.blt ((511 - k) / 64) 8 = true := by
      have : (511 - k) / 64 < 8 := by omega
      simpa using this
    simp only [inR, this, cond_true]
  · rw [h.1]; omega
  · congr 1
    have : (511 - (Int.ofNat k)) = Int.ofNat (511 - k) := by simp only [Int.ofNat_eq_natCast]; omega
    rw [this]; rfl
  · congr 1
    rw [Nat.zero_add, Nat.mul_one]
    obtain ⟨e1, e2⟩ := Ws_get h (show (511 - k) / 64 < 8 by omega)
    have e3 := Wv_bit (j := (511 - k) / 64) (m := (511 - k) % 64) h.2 (by rw [h.1]; omega) (by omega)
    rw [show 64 * ((511 - k) / 64) + (511 - k) % 64 = 511 - k by omega] at e3
    rw [e3]
    generalize l.getD ((511 - k) / 64) 0 = z at *
    generalize z.toNat = y at *
    subst e1
    rw [shr_eq (by omega), and_one (Nat.lt_of_le_of_lt (Nat.div_le_self _ _) e2)]
  · omega
  · rw [V4_w (big k)]; exact Rk_lt _ _ _
  · refine congrArg (AV.int .i64) ?_
    rw [IntKind.wrap_i64]; simp only [Int.ofNat_eq_natCast]; omega
  · rw [V4_w (big k), Rk_succ hk]
def d_rest4 : Nat → Option (List Nat) := fun n => match n with
  | 0 => some [1, 6, 7, 8, 9, 10, 11, 12, 13, 14, 15, 16, 17, 18, 19, 20, 21, 22, 23, 24, 25, 26, 27]
  | _ => none
def x_rest4 (lim : Option Nat) (l X : List Int) (k : Nat) : St := ⟨[.sl 0 0 0 4 1 lim, .junk, .ptr 1 0, .ptr 2 0, .fn 56 [.ptr 2 0] [], .int .i64 (255 - (Int.ofNat k)), .junk, .junk, .junk, .junk, .junk, .junk, .junk, .junk, .junk, .junk, .junk, .junk, .junk, .junk, .junk, .junk, .junk, .junk, .junk, .junk, .junk, .junk], [⟨.nums .u64 l, .own, false⟩, ⟨.nums .u8 [0, 0, 0, 0, 0, 0, 0, 0, 0, 0, 0, 0, 0, 0, 0, 0, 0, 0, 0, 0, 0, 0, 0, 0, 0, 0, 0, 0, 0, 0, 0, 0], .own, false⟩, ⟨.nums .u64 X, .own, !(Nat.beq k 0)⟩]⟩
def h_rest4 (lim : Option Nat) (l : List Int) : Hints := ⟨fun it t => match t, it with
  | 12, [some _] => some (.val (.bool true))
  | 18, [some k] => some (.val (.int .i64 (Int.ofNat ((255 - k) / 64))))
  | 19, [some _] => some .ask
  | 20, [some _] => some .ask
  | 22, [some k] => some (.val (.int .i64 (Int.ofNat ((255 - k) % 64))))
  | 24, [some k] => some (.val (.int .u64 (Int.ofNat (Wv l / 2 ^ (255 - k) % 2))))
  | 14, [some k] => some (.val (.int .i64 (255 - (Int.ofNat (k + 1)))))
  | _, _ => none, fun _ id => match id with
  | 0 => some ⟨256, true, false, fun k => x_rest4 lim l (W4 (Rk 256 (Wv l) k)) k⟩
  | _ => none⟩
theorem run_rest4 (lim : Option Nat) (l : List Int) : specW Try.prog d_rest4 (cS1 Try.prog) (h_rest4 lim l) 1000 36 [.sl 0 0 0 4 1 lim] [(⟨.nums .u64 l, .own, false⟩ : Blk)] (fun v M => v = .nums .u8 (B32 (V4 (w0 (Rk 256 (Wv l) 256)) (w1 (Rk 256 (Wv l) 256)) (w2 (Rk 256 (Wv l) 256)) (w3 (Rk 256 (Wv l) 256)))) ∧ M = [(⟨.nums .u64 l, .own, false⟩ : Blk)]) =
  (x_rest4 lim l [0, 0, 0, 0] 0 = x_rest4 lim l (W4 (Rk 256 (Wv l) 0)) 0 ∧ (∀ k, k < 256 → (AV.bool (decide ((255 - (Int.ofNat k)) ≥ 0)) = AV.bool true ∧ AV.int .i64 (IntKind.i64.wrap (Int.tdiv (255 - (Int.ofNat k)) 64)) = AV.int .i64 (Int.ofNat ((255 - k) / 64)) ∧ (1 = 1 ∧ inR (Int.ofNat ((255 - k) / 64)) 4 = some ((255 - k) / 64)) ∧ (0 + (255 - k) / 64 * 1 < l.length) ∧ AV.int .i64 (Int.tmod (255 - (Int.ofNat k)) 64) = AV.int .i64 (Int.ofNat ((255 - k) % 64)) ∧ AV.int .u64 (andR (shrR (l.getD (0 + (255 - k) / 64 * 1) 0) ((255 - k) % 64)) 1) = AV.int .u64 (Int.ofNat (Wv l / 2 ^ (255 - k) % 2)) ∧ (In4 (w0 (Rk 256 (Wv l) k)) (w1 (Rk 256 (Wv l) k)) (w2 (Rk 256 (Wv l) k)) (w3 (Rk 256 (Wv l) k)) ∧ (Wv l / 2 ^ (255 - k) % 2) ≤ 1 ∧ V4 (w0 (Rk 256 (Wv l) k)) (w1 (Rk 256 (Wv l) k)) (w2 (Rk 256 (Wv l) k)) (w3 (Rk 256 (Wv l) k)) < 7237005577332262213973186563042994240857116359379907606001950938285454250989) ∧ AV.int .i64 (IntKind.i64.wrap ((255 - (Int.ofNat k)) - 1)) = AV.int .i64 (255 - (Int.ofNat (k + 1))) ∧ x_rest4 lim l (W4 ((2 * V4 (w0 (Rk 256 (Wv l) k)) (w1 (Rk 256 (Wv l) k)) (w2 (Rk 256 (Wv l) k)) (w3 (Rk 256 (Wv l) k)) + (Wv l / 2 ^ (255 - k) % 2)) % 7237005577332262213973186563042994240857116359379907606001950938285454250989)) (k + 1) = x_rest4 lim l (W4 (Rk 256 (Wv l) (k + 1))) (k + 1))) ∧ In4 (w0 (Rk 256 (Wv l) 256)) (w1 (Rk 256 (Wv l) 256)) (w2 (Rk 256 (Wv l) 256)) (w3 (Rk 256 (Wv l) 256)) ∧ AV.nums .u8 (B32 (V4 (w0 (Rk 256 (Wv l) 256)) (w1 (Rk 256 (Wv l) 256)) (w2 (Rk 256 (Wv l) 256)) (w3 (Rk 256 (Wv l) 256)))) = AV.nums .u8 (B32 (V4 (w0 (Rk 256 (Wv l) 256)) (w1 (Rk 256 (Wv l) 256)) (w2 (Rk 256 (Wv l) 256)) (w3 (Rk 256 (Wv l) 256)))) ∧ [(⟨.nums .u64 l, .own, false⟩ : Blk)] = [(⟨.nums .u64 l, .own, false⟩ : Blk)]) := by kernel_rfl
theorem rest4_ok {lim : Option Nat} {l : List Int} (h : Ws 4 l) : ∃ D H N, specW Try.prog D (cS1 Try.prog) H N 36 [.sl 0 0 0 4 1 lim] [⟨.nums .u64 l, .own, false⟩] fun v M => v = .nums .u8 (B32 (Wv l % 7237005577332262213973186563042994240857116359379907606001950938285454250989)) ∧ M = [⟨.nums .u64 l, .own, false⟩] := by
  have big : ∀ k, Rk 256 (Wv l) k < 115792089237316195423570985008687907853269984665640564039457584007913129639936 := fun k => Nat.lt_trans (Rk_lt _ _ _) (by decide)
  have hfin : V4 (w0 (Rk 256 (Wv l) 256)) (w1 (Rk 256 (Wv l) 256)) (w2 (Rk 256 (Wv l) 256)) (w3 (Rk 256 (Wv l) 256)) = Wv l % 7237005577332262213973186563042994240857116359379907606001950938285454250989 := by
    rw [V4_w (big _)]
    simp only [Rk, Nat.sub_self, Nat.pow_zero, Nat.div_one]
  rw [← hfin]
  refine ⟨d_rest4, h_rest4 lim l, 1000, Eq.mpr (run_rest4 lim l) ⟨?_, fun k hk => ⟨?_, ?_, ⟨rfl, ?_⟩, ?_, ?_, ?_, ⟨In4_w _, ?_, ?_⟩, ?_, ?_⟩, In4_w _, rfl, rfl⟩⟩
  · congr 1
    have h1 := Wv_lt h.2
    rw [h.1] at h1
    have : Rk 256 (Wv l) 0 = 0 := by
      unfold Rk
      have e : (18446744073709551616 : Nat) ^ 4 = 2 ^ 256 := by decide +kernel
      rw [e] at h1
      rw [Nat.sub_zero, Nat.div_eq_of_lt h1, Nat.zero_mod]
    rw [this]; rfl
  · congr 1
    have : (255 - (Int.ofNat k)) ≥ 0 := by simp only [Int.ofNat_eq_natCast]; omega
    simpa using this
  · congr 1
    have : (255 - (Int.ofNat k)) = Int.ofNat (255 - k) := by simp only [Int.ofNat_eq_natCast]; omega
    rw [this]
    show IntKind.i64.wrap (Int.ofNat ((255 - k) / 64)) = _
    exact i64_small _ (by omega)
  · show inR (Int.ofNat _) 4 = _
    have : Nat.blt ((255 - k) / 64) 4 = true := by
      have : (255 - k) / 64 < 4 := by omega
      simpa using this
    simp only [inR, this, cond_true]
  · rw [h.1]; omega
  · congr 1
    have : (255 - (Int.ofNat k)) = Int.ofNat (255 - k) := by simp only [Int.ofNat_eq_natCast]; omega
    rw [this]; rfl
  · congr 1
    rw [Nat.zero_add, Nat.mul_one]
    obtain ⟨e1, e2⟩ := Ws_get h (show (255 - k) / 64 < 4 by omega)
    have e3 := Wv_bit (j := (255 - k) / 64) (m := (255 - k) % 64) h.2 (by rw [h.1]; omega) (by omega)
    rw [show 64 * ((255 - k) / 64) + (255 - k) % 64 = 255 - k by omega] at e3
    rw [e3]
    generalize l.getD ((255 - k) / 64) 0 = z at *
    generalize z.toNat = y at *
    subst e1
    rw [shr_eq (by omega), and_one (Nat.lt_of_le_of_lt (Nat.div_le_self _ _) e2)]
  · omega
  · rw [V4_w (big k)]; exact Rk_lt _ _ _
  · refine congrArg (AV.int .i64) ?_
    rw [IntKind.wrap_i64]; simp only [Int.ofNat_eq_natCast]; omega
  · rw [V4_w (big k), Rk_succ hk]
end Go.Proofs.Ytkeieikhmaeiiaa
