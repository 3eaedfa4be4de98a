/- The program's sums are the references' sums. No condition. -/
import Derived.Test.YtkeieikhmaeiiaaSh12
namespace Go.Proofs.Ytkeieikhmaeiiaa
open Go Go.RowKit
theorem getD_set {l : List Int} {i : Nat} (x : Int) (h : i < l.length) : (l.set i x).getD i 0 = x := by
  simp [List.getD, h]
theorem getD_ne {l : List Int} {i j : Nat} (x : Int) (h : i ≠ j) : (l.set i x).getD j 0 = l.getD j 0 := by
  simp only [List.getD, List.getElem?_set_ne h]
theorem getD_rep (n j : Nat) : (List.replicate n (0 : Int)).getD j 0 = 0 := by
  simp only [List.getD, List.getElem?_replicate]
  split <;> rfl
/-! ### Bytes to words -/
def f32 (w b : Int) : Int := IntKind.u32.wrap ((BitVec.ofInt 32 (IntKind.u32.wrap (w * 2 ^ 8)) ||| BitVec.ofInt 32 (IntKind.u32.wrap b)).toNat)
def f64 (w b : Int) : Int := IntKind.u64.wrap ((BitVec.ofInt 64 (IntKind.u64.wrap (w * 2 ^ 8)) ||| BitVec.ofInt 64 (IntKind.u64.wrap b)).toNat)
theorem wrap32n {n : Nat} (h : n < 4294967296) : IntKind.u32.wrap (Int.ofNat n) = Int.ofNat n := by
  rw [IntKind.wrap_u32]; simp only [Int.ofNat_eq_natCast]; omega
theorem or32 {a b s : Nat} (hb : b < 2 ^ s) (h : a * 2 ^ s + b < 4294967296) : IntKind.u32.wrap ((BitVec.ofInt 32 (Int.ofNat (a * 2 ^ s)) ||| BitVec.ofInt 32 (Int.ofNat b)).toNat) = Int.ofNat (a * 2 ^ s + b) := by
  have e2 : ∀ n : Nat, BitVec.ofInt 32 (Int.ofNat n) = BitVec.ofNat 32 n := fun n => by simp [Int.ofNat_eq_natCast]
  rw [e2, e2, BitVec.toNat_or, BitVec.toNat_ofNat, BitVec.toNat_ofNat, Nat.mod_eq_of_lt (by omega : a * 2 ^ s < 2 ^ 32), Nat.mod_eq_of_lt (by omega : b < 2 ^ 32)]
  rw [← Nat.shiftLeft_eq, ← Nat.shiftLeft_add_eq_or_of_lt hb, Nat.shiftLeft_eq]
  exact wrap32n h
theorem f32_eq {w b : Nat} (hb : b < 256) (hw : w < 16777216) : f32 (Int.ofNat w) (Int.ofNat b) = Int.ofNat (w * 2 ^ 8 + b) := by
  unfold f32
  have e : Int.ofNat w * 2 ^ 8 = Int.ofNat (w * 2 ^ 8) := by simp [Int.natCast_mul]
  rw [e, wrap32n (show w * 2 ^ 8 < 4294967296 by omega), wrap32n (show b < 4294967296 by omega)]
  exact or32 (s := 8) (by omega) (by omega)
/-- Four bytes, by shifts. -/
def g32 (a b c d : Int) : Int := IntKind.u32.wrap ((BitVec.ofInt 32 (IntKind.u32.wrap ((BitVec.ofInt 32 (IntKind.u32.wrap ((BitVec.ofInt 32 (IntKind.u32.wrap ((IntKind.u32.wrap a) * 2 ^ 24)) ||| BitVec.ofInt 32 (IntKind.u32.wrap ((IntKind.u32.wrap b) * 2 ^ 16))).toNat)) ||| BitVec.ofInt 32 (IntKind.u32.wrap ((IntKind.u32.wrap c) * 2 ^ 8))).toNat)) ||| BitVec.ofInt 32 (IntKind.u32.wrap d)).toNat)
set_option maxRecDepth 100000 in
theorem word32n {a b c d : Nat} (ha : a < 256) (hb : b < 256) (hc : c < 256) (hd : d < 256) : f32 (f32 (f32 (f32 0 (Int.ofNat a)) (Int.ofNat b)) (Int.ofNat c)) (Int.ofNat d) = g32 (Int.ofNat a) (Int.ofNat b) (Int.ofNat c) (Int.ofNat d) := by
  rw [show (0 : Int) = Int.ofNat 0 from rfl, f32_eq ha (by omega), f32_eq hb (by omega), f32_eq hc (by omega), f32_eq hd (by omega)]
  unfold g32
  have e : ∀ (x s : Nat), Int.ofNat x * 2 ^ s = Int.ofNat (x * 2 ^ s) := fun x s => by simp [Int.natCast_mul, Int.natCast_pow]
  rw [wrap32n (show a < 4294967296 by omega), wrap32n (show b < 4294967296 by omega), wrap32n (show c < 4294967296 by omega), wrap32n (show d < 4294967296 by omega), e, e, e,
    wrap32n (show a * 2 ^ 24 < 4294967296 by omega), wrap32n (show b * 2 ^ 16 < 4294967296 by omega), wrap32n (show c * 2 ^ 8 < 4294967296 by omega),
    or32 (a := a) (b := b * 2 ^ 16) (s := 24) (by omega) (by omega),
    show a * 2 ^ 24 + b * 2 ^ 16 = (a * 2 ^ 8 + b) * 2 ^ 16 by omega,
    or32 (a := a * 2 ^ 8 + b) (b := c * 2 ^ 8) (s := 16) (by omega) (by omega),
    show (a * 2 ^ 8 + b) * 2 ^ 16 + c * 2 ^ 8 = ((a * 2 ^ 8 + b) * 2 ^ 8 + c) * 2 ^ 8 by omega,
    or32 (s := 8) (by omega) (by omega)]
  congr 1; omega
theorem word32 {a b c d : Int} (ha : 0 ≤ a ∧ a < 256) (hb : 0 ≤ b ∧ b < 256) (hc : 0 ≤ c ∧ c < 256) (hd : 0 ≤ d ∧ d < 256) : f32 (f32 (f32 (f32 0 a) b) c) d = g32 a b c d := by
  have := word32n (a := a.toNat) (b := b.toNat) (c := c.toNat) (d := d.toNat) (by omega) (by omega) (by omega) (by omega)
  have e : ∀ {x : Int}, 0 ≤ x → Int.ofNat x.toNat = x := fun h => by simp only [Int.ofNat_eq_natCast]; omega
  rwa [e ha.1, e hb.1, e hc.1, e hd.1] at this
theorem mi32_4 {L B : List Int} {o i : Nat} (h : i < L.length) : mi32_W L B o i 4 = L.set (0 + i * 1) (f32 (f32 (f32 (f32 (L.getD (0 + i * 1) 0) (B.getD ((o + (4 * i)) + 0 * 1) 0)) (B.getD ((o + (4 * i)) + 1 * 1) 0)) (B.getD ((o + (4 * i)) + 2 * 1) 0)) (B.getD ((o + (4 * i)) + 3 * 1) 0)) := by
  have hl : ∀ x, 0 + i * 1 < (L.set (0 + i * 1) x).length := fun x => by rw [List.length_set]; omega
  have h0 : 0 + i * 1 < L.length := by omega
  have s : ∀ j, mi32_W L B o i (j + 1) = (mi32_W L B o i j).set (0 + i * 1) (f32 ((mi32_W L B o i j).getD (0 + i * 1) 0) (B.getD ((o + (4 * i)) + j * 1) 0)) := fun j => rfl
  rw [s 3, s 2, s 1, s 0, show mi32_W L B o i 0 = L from rfl]
  simp only [List.set_set, getD_set _ h0]
theorem rw32_0 (B : List Int) (o : Nat) : ∀ k j, k ≤ j → (rw32_W B o k).getD j 0 = 0
  | 0, j, _ => getD_rep 64 j
  | k + 1, j, h => by rw [rw32_W_s, getD_ne _ (by omega), rw32_0 B o k j (by omega)]
theorem mw_rw32 {B : List Int} (o : Nat) (hB : Bys B) : ∀ k, k ≤ 16 → mw32_W B o k = rw32_W B o k
  | 0, _ => rfl
  | k + 1, h => by
    rw [mw32_W_s, show decide (Int.ofNat k < 16) = true from d_lt (a := k) (b := 16) (by omega), cond_true, mw_rw32 o hB k (by omega), mi32_4 (by rw [rw32_len]; omega), rw32_0 B o k _ (by omega)]
    have b := fun j => bys_get hB j
    rw [word32 (b _) (b _) (b _) (b _), rw32_W_s]
    show (rw32_W B o k).set (0 + k * 1) (g32 _ _ _ _) = (rw32_W B o k).set (0 + k * 1) (g32 (B.getD (0 + (o + (4 * k)) * 1) 0) (B.getD (0 + ((o + (4 * k)) + 1) * 1) 0) (B.getD (0 + ((o + (4 * k)) + 2) * 1) 0) (B.getD (0 + ((o + (4 * k)) + 3) * 1) 0))
    congr 2 <;> congr 1 <;> omega
/-! ### For 64 bits -/
theorem mi64_s' (L B : List Int) (o i j : Nat) : mi64_W L B o i (j + 1) = (mi64_W L B o i j).set (0 + i * 1) (f64 ((mi64_W L B o i j).getD (0 + i * 1) 0) (B.getD ((o + (8 * i)) + j * 1) 0)) := rfl
theorem rw64_s' (B : List Int) (o k : Nat) : rw64_W B o (k + 1) = (rw64_W B o k).set (0 + (k / 8) * 1) (f64 ((rw64_W B o k).getD (0 + (k / 8) * 1) 0) (B.getD (0 + (o + k) * 1) 0)) := rfl
theorem rw64_in (B : List Int) (o i : Nat) : ∀ j, j ≤ 8 → rw64_W B o (8 * i + j) = mi64_W (rw64_W B o (8 * i)) B o i j
  | 0, _ => rfl
  | j + 1, h => by
    rw [← Nat.add_assoc, rw64_s', rw64_in B o i j (by omega), mi64_s', show (8 * i + j) / 8 = i by omega, show 0 + (o + (8 * i + j)) * 1 = o + 8 * i + j * 1 by omega]
theorem mw_rw64 (B : List Int) (o : Nat) : ∀ k, k ≤ 16 → mw64_W B o k = rw64_W B o (8 * k)
  | 0, _ => rfl
  | k + 1, h => by
    rw [mw64_W_s, show decide (Int.ofNat k < 16) = true from d_lt (a := k) (b := 16) (by omega), cond_true, mw_rw64 B o k (by omega), ← rw64_in B o k 8 (Nat.le_refl 8)]
    rfl
theorem w3_32 (a b s t : Int) : IntKind.u32.wrap (IntKind.u32.wrap (IntKind.u32.wrap (a + s) + b) + t) = IntKind.u32.wrap (IntKind.u32.wrap (IntKind.u32.wrap (a + b) + s) + t) := by
  simp only [IntKind.wrap_u32]; omega
theorem c0_32 (p k w t : Int) : IntKind.u32.wrap (IntKind.u32.wrap (p + IntKind.u32.wrap (w + k)) + t) = IntKind.u32.wrap (IntKind.u32.wrap (IntKind.u32.wrap (p + k) + w) + t) := by
  simp only [IntKind.wrap_u32]; omega
theorem c4_32 (p k w v : Int) : IntKind.u32.wrap (v + IntKind.u32.wrap (p + IntKind.u32.wrap (w + k))) = IntKind.u32.wrap (v + IntKind.u32.wrap (IntKind.u32.wrap (p + k) + w)) := by
  simp only [IntKind.wrap_u32]; omega
theorem mw_rc32 {B : List Int} (o : Nat) (hB : Bys B) : ∀ j, mw32_W B o (16 + j) = rc32_W (rw32_W B o 16) j
  | 0 => mw_rw32 o hB 16 (Nat.le_refl _)
  | j + 1 => by
    rw [← Nat.add_assoc, mw32_W_s, show decide (Int.ofNat (16 + j) < 16) = false from d_ltn (a := 16 + j) (b := 16) (by omega), cond_false, mw_rc32 o hB j, rc32_W_s, Nat.add_comm 16 j, w3_32]
theorem mf_ra32 : ∀ {V h : List Int}, V.length = 8 → h.length = 8 → mf32_V V h 8 = ra32_V h V 8
  | [a0, a1, a2, a3, a4, a5, a6, a7], [b0, b1, b2, b3, b4, b5, b6, b7], _, _ => by
    have e1 : mf32_V [a0, a1, a2, a3, a4, a5, a6, a7] [b0, b1, b2, b3, b4, b5, b6, b7] 8 = [IntKind.u32.wrap (a0 + b0), IntKind.u32.wrap (a1 + b1), IntKind.u32.wrap (a2 + b2), IntKind.u32.wrap (a3 + b3), IntKind.u32.wrap (a4 + b4), IntKind.u32.wrap (a5 + b5), IntKind.u32.wrap (a6 + b6), IntKind.u32.wrap (a7 + b7)] := by kernel_rfl
    have e2 : ra32_V [b0, b1, b2, b3, b4, b5, b6, b7] [a0, a1, a2, a3, a4, a5, a6, a7] 8 = [IntKind.u32.wrap (b0 + a0), IntKind.u32.wrap (b1 + a1), IntKind.u32.wrap (b2 + a2), IntKind.u32.wrap (b3 + a3), IntKind.u32.wrap (b4 + a4), IntKind.u32.wrap (b5 + a5), IntKind.u32.wrap (b6 + a6), IntKind.u32.wrap (b7 + a7)] := by kernel_rfl
    rw [e1, e2]
    simp only [Int.add_comm]
theorem tops : ∀ k : Fin 64, IntKind.u32.wrap (Int.fdiv (tl10.getD (0 + k.val * 1) 0) (2 ^ 32)) = IntKind.u32.wrap (Int.fdiv (tl11.getD (0 + k.val * 1) 0) (2 ^ 32)) := by decide +kernel
theorem mr_rr32 (v W : List Int) : ∀ k, k ≤ 64 → mr32_V v W tl10 k = rr32_V v W k
  | 0, _ => rfl
  | k + 1, h => by
    rw [mr32_V_s, mr_rr32 v W k (by omega), rr32_V_s]
    generalize rr32_V v W k = L
    rw [tops ⟨k, by omega⟩]
    simp only [Nat.mul_one, Nat.zero_add]
    unfold turnL32 turn32
    exact List.cons_eq_cons.2 ⟨c0_32 _ _ _ _, List.cons_eq_cons.2 ⟨rfl, List.cons_eq_cons.2 ⟨rfl, List.cons_eq_cons.2 ⟨rfl, List.cons_eq_cons.2 ⟨c4_32 _ _ _ _, rfl⟩⟩⟩⟩⟩
theorem mix_r32 {v B : List Int} (o : Nat) (hv : v.length = 8) (hB : Bys B) : mix32 v B o tl10 = ra32_V v (rr32_V v (rc32_W (rw32_W B o 16) 48) 64) 8 := by
  unfold mix32
  rw [mf_ra32 (mr32_len _ _ hv _) hv, mr_rr32 _ _ 64 (Nat.le_refl _), show mw32_W B o 64 = rc32_W (rw32_W B o 16) 48 from mw_rc32 o hB 48]
theorem sv_rv32 {B : List Int} (hB : Bys B) : ∀ k, sv32_V B k = rv32_V B k
  | 0 => rfl
  | k + 1 => by
    rw [rv32_V_s, ← sv_rv32 hB k]
    exact mix_r32 _ (sv32_len B k) hB
theorem so_ro32 (V : List Int) : ∀ k, so32_X V k = ro32_X V k
  | 0 => rfl
  | k + 1 => by
    rw [ro32_X_s, ← so_ro32 V k]
    show (so32_X V k).set _ _ = (so32_X V k).set _ _
    rw [show 8 * (3 - k % 4) = 24 - 8 * (k % 4) by omega]
theorem lenb_by (n s : Nat) : 0 ≤ lenb n s ∧ lenb n s < 256 := by
  unfold lenb; rw [IntKind.wrap_u8]; omega
theorem pz64_by {B : List Int} (hB : Bys B) : ∀ k, Bys (pz64_X B k)
  | 0 => fun x hx => by
    rcases List.mem_append.1 hx with h | h
    · exact hB x h
    · simp only [List.mem_singleton] at h; omega
  | k + 1 => fun x hx => by
    rcases List.mem_append.1 hx with h | h
    · exact pz64_by hB k x h
    · simp only [List.mem_singleton] at h; omega
theorem pa64_by {B : List Int} (hB : Bys B) (n : Nat) : ∀ k, Bys (pa64 B n k)
  | 0 => pz64_by hB _
  | k + 1 => fun x hx => by
    rcases List.mem_append.1 hx with h | h
    · exact pa64_by hB n k x h
    · simp only [List.mem_singleton] at h
      rw [h, pb64]
      cases Nat.blt k 0 with
      | true => show (0 : Int) ≤ 0 ∧ (0 : Int) < 256; decide
      | false => exact lenb_by _ _
theorem sum_r64 {B : List Int} (hB : Bys B) (n : Nat) : sum64 B n = rsum64 B n := by
  unfold sum64 rsum64
  have hb : Bys (pad64 B n) := pa64_by hB n _
  rw [sv_rv32 hb, so_ro32]
theorem w3_64 (a b s t : Int) : IntKind.u64.wrap (IntKind.u64.wrap (IntKind.u64.wrap (a + s) + b) + t) = IntKind.u64.wrap (IntKind.u64.wrap (IntKind.u64.wrap (a + b) + s) + t) := by
  simp only [IntKind.wrap_u64]; omega
theorem c0_64 (p k w t : Int) : IntKind.u64.wrap (IntKind.u64.wrap (p + IntKind.u64.wrap (w + k)) + t) = IntKind.u64.wrap (IntKind.u64.wrap (IntKind.u64.wrap (p + k) + w) + t) := by
  simp only [IntKind.wrap_u64]; omega
theorem c4_64 (p k w v : Int) : IntKind.u64.wrap (v + IntKind.u64.wrap (p + IntKind.u64.wrap (w + k))) = IntKind.u64.wrap (v + IntKind.u64.wrap (IntKind.u64.wrap (p + k) + w)) := by
  simp only [IntKind.wrap_u64]; omega
theorem mw_rc64 (B : List Int) (o : Nat) : ∀ j, mw64_W B o (16 + j) = rc64_W (rw64_W B o 128) j
  | 0 => mw_rw64 B o 16 (Nat.le_refl _)
  | j + 1 => by
    rw [← Nat.add_assoc, mw64_W_s, show decide (Int.ofNat (16 + j) < 16) = false from d_ltn (a := 16 + j) (b := 16) (by omega), cond_false, mw_rc64 B o j, rc64_W_s, Nat.add_comm 16 j, w3_64]
theorem mf_ra64 : ∀ {V h : List Int}, V.length = 8 → h.length = 8 → mf64_V V h 8 = ra64_V h V 8
  | [a0, a1, a2, a3, a4, a5, a6, a7], [b0, b1, b2, b3, b4, b5, b6, b7], _, _ => by
    have e1 : mf64_V [a0, a1, a2, a3, a4, a5, a6, a7] [b0, b1, b2, b3, b4, b5, b6, b7] 8 = [IntKind.u64.wrap (a0 + b0), IntKind.u64.wrap (a1 + b1), IntKind.u64.wrap (a2 + b2), IntKind.u64.wrap (a3 + b3), IntKind.u64.wrap (a4 + b4), IntKind.u64.wrap (a5 + b5), IntKind.u64.wrap (a6 + b6), IntKind.u64.wrap (a7 + b7)] := by kernel_rfl
    have e2 : ra64_V [b0, b1, b2, b3, b4, b5, b6, b7] [a0, a1, a2, a3, a4, a5, a6, a7] 8 = [IntKind.u64.wrap (b0 + a0), IntKind.u64.wrap (b1 + a1), IntKind.u64.wrap (b2 + a2), IntKind.u64.wrap (b3 + a3), IntKind.u64.wrap (b4 + a4), IntKind.u64.wrap (b5 + a5), IntKind.u64.wrap (b6 + a6), IntKind.u64.wrap (b7 + a7)] := by kernel_rfl
    rw [e1, e2]
    simp only [Int.add_comm]
theorem mr_rr64 (v W : List Int) : ∀ k, k ≤ 80 → mr64_V v W tl11 k = rr64_V v W k
  | 0, _ => rfl
  | k + 1, h => by
    rw [mr64_V_s, mr_rr64 v W k (by omega), rr64_V_s]
    generalize rr64_V v W k = L
    simp only [Nat.mul_one, Nat.zero_add]
    unfold turnL64 turn64
    exact List.cons_eq_cons.2 ⟨c0_64 _ _ _ _, List.cons_eq_cons.2 ⟨rfl, List.cons_eq_cons.2 ⟨rfl, List.cons_eq_cons.2 ⟨rfl, List.cons_eq_cons.2 ⟨c4_64 _ _ _ _, rfl⟩⟩⟩⟩⟩
theorem mix_r64 {v B : List Int} (o : Nat) (hv : v.length = 8) (hB : Bys B) : mix64 v B o tl11 = ra64_V v (rr64_V v (rc64_W (rw64_W B o 128) 64) 80) 8 := by
  unfold mix64
  rw [mf_ra64 (mr64_len _ _ hv _) hv, mr_rr64 _ _ 80 (Nat.le_refl _), show mw64_W B o 80 = rc64_W (rw64_W B o 128) 64 from mw_rc64 B o 64]
theorem sv_rv64 {B : List Int} (hB : Bys B) : ∀ k, sv64_V B k = rv64_V B k
  | 0 => rfl
  | k + 1 => by
    rw [rv64_V_s, ← sv_rv64 hB k]
    exact mix_r64 _ (sv64_len B k) hB
theorem so_ro64 (V : List Int) : ∀ k, so64_X V k = ro64_X V k
  | 0 => rfl
  | k + 1 => by
    rw [ro64_X_s, ← so_ro64 V k]
    show (so64_X V k).set _ _ = (so64_X V k).set _ _
    rw [show 8 * (7 - k % 8) = 56 - 8 * (k % 8) by omega]
theorem pz128_by {B : List Int} (hB : Bys B) : ∀ k, Bys (pz128_X B k)
  | 0 => fun x hx => by
    rcases List.mem_append.1 hx with h | h
    · exact hB x h
    · simp only [List.mem_singleton] at h; omega
  | k + 1 => fun x hx => by
    rcases List.mem_append.1 hx with h | h
    · exact pz128_by hB k x h
    · simp only [List.mem_singleton] at h; omega
theorem pa128_by {B : List Int} (hB : Bys B) (n : Nat) : ∀ k, Bys (pa128 B n k)
  | 0 => pz128_by hB _
  | k + 1 => fun x hx => by
    rcases List.mem_append.1 hx with h | h
    · exact pa128_by hB n k x h
    · simp only [List.mem_singleton] at h
      rw [h, pb128]
      cases Nat.blt k 8 with
      | true => show (0 : Int) ≤ 0 ∧ (0 : Int) < 256; decide
      | false => exact lenb_by _ _
theorem sum_r128 {B : List Int} (hB : Bys B) (n : Nat) : sum128 B n = rsum128 B n := by
  unfold sum128 rsum128
  have hb : Bys (pad128 B n) := pa128_by hB n _
  rw [sv_rv64 hb, so_ro64]
end Go.Proofs.Ytkeieikhmaeiiaa
