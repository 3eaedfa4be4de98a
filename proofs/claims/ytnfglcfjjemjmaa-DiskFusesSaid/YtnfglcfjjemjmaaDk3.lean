/- What lasts of the writes that a row of numbers tells; plain. No condition. -/
import Derived.Test.YtnfglcfjjemjmaaDk2
namespace Go.Proofs.Ytnfglcfjjemjmaa
open Go Go.RowKit
set_option linter.unusedVariables false
set_option linter.unusedSimpArgs false
theorem u64_rng (x : Int) : 0 ≤ IntKind.u64.wrap x ∧ IntKind.u64.wrap x < 18446744073709551616 := by
  rw [IntKind.wrap_u64]; omega
def tq (x : Int) : Int := IntKind.i64.wrap (Int.tmod (IntKind.u64.wrap x) 4)
theorem tq_rng (x : Int) : 0 ≤ tq x ∧ tq x < 4 := by
  have h := u64_rng x
  unfold tq
  generalize IntKind.u64.wrap x = y at h
  obtain ⟨k, rfl⟩ : ∃ k : Nat, y = Int.ofNat k := ⟨y.toNat, by simp only [Int.ofNat_eq_natCast]; omega⟩
  have e : Int.tmod (Int.ofNat k) 4 = Int.ofNat (k % 4) := rfl
  rw [e, i64_small (k % 4) (by omega)]
  simp only [Int.ofNat_eq_natCast]; omega
def cq (i : Nat) : Int := IntKind.u8.wrap (Int.ofNat (i + 1))
/-- A number modulo n more. -/
def sq (x : Int) (n : Nat) : Nat := (IntKind.u64.wrap x).toNat % (n + 1)
theorem sq_le (x : Int) (n : Nat) : sq x n ≤ n := by
  have : sq x n < n + 1 := Nat.mod_lt _ (Nat.succ_pos n)
  omega
theorem op_rem {C : Orc} {M : Mem} {x : Int} {n : Nat} : psem C (.bin .rem) [.int .u64 (IntKind.u64.wrap x), .int .u64 (Int.ofNat (n + 1))] M = some (.int .u64 (Int.ofNat (sq x n)), M, ⟨[], [], false, false⟩) := by
  have h := u64_rng x
  have h0 : Int.ofNat (n + 1) ≠ 0 := by simp only [Int.ofNat_eq_natCast]; omega
  have e : (IntKind.u64.wrap x).tmod (Int.ofNat (n + 1)) = Int.ofNat (sq x n) := by
    unfold sq
    generalize IntKind.u64.wrap x = y at h
    obtain ⟨k, rfl⟩ : ∃ k : Nat, y = Int.ofNat k := ⟨y.toNat, by simp only [Int.ofNat_eq_natCast]; omega⟩
    rfl
  simp only [psem, binA, isShift, cond_false, intBin, if_true, if_neg h0, e]
  rfl
theorem u64_small (n : Nat) (h : n < 18446744073709551616) : IntKind.u64.wrap (Int.ofNat n) = Int.ofNat n := by
  rw [IntKind.wrap_u64]; simp only [Int.ofNat_eq_natCast]; omega
def wsl (l : List Int) : Nat → List (Int × List Int)
  | 0 => []
  | i + 1 => wsl l i ++ [(tq (l.getD i 0), List.replicate 64 (cq i))]
theorem wsl_len (l : List Int) : ∀ i, (wsl l i).length = i
  | 0 => rfl
  | i + 1 => by simp only [wsl, List.length_append, wsl_len l i]; rfl
theorem wsl_ok (l : List Int) : ∀ i, Wok 4 (wsl l i)
  | 0 => Wok.nil 4
  | i + 1 => (wsl_ok l i).snoc (tq_rng _).1 (tq_rng _).2 (List.length_replicate ..)
theorem wsl_app (l : List Int) (i : Nat) : ∀ j, i ≤ j → (wsl l j).take i = wsl l i
  | 0, h => by obtain rfl : i = 0 := by omega
               rfl
  | j + 1, h => by
    by_cases e : i = j + 1
    · subst e; rw [List.take_of_length_le (by rw [wsl_len]; exact Nat.le_refl _)]
    · simp only [wsl]
      rw [List.take_append_of_le_length (by rw [wsl_len]; omega), wsl_app l i j (by omega)]
/-- The place from which on writes wait, ahead of round i: Sync came ahead of round s. -/
def sp (s i : Nat) : Nat := if i ≤ s then 0 else s
theorem sp_le (s i : Nat) : sp s i ≤ i := by unfold sp; split <;> omega
def z256 : List Int := List.replicate 256 0
theorem z256_len : z256.length = 64 * 4 := List.length_replicate ..
def Inv (l : List Int) (s i : Nat) (d : Dt) : Prop := d.x = appl z256 (wsl l (sp s i)) ∧ Wd 4 d.s d.a ∧ decW d.a d.s = (wsl l i).drop (sp s i)
theorem Inv.len {l : List Int} {s i : Nat} {d : Dt} (h : Inv l s i d) : d.a = i - sp s i := by
  have h1 := h.2.1.dec.2.1
  rw [h.2.2, List.length_drop, wsl_len] at h1
  omega
theorem Inv.xlen {l : List Int} {s i : Nat} {d : Dt} (h : Inv l s i d) : d.x.length = 64 * 4 := by
  rw [h.1]; exact appl_len (n := 4) (wsl_ok l _) z256_len
theorem one_ok (l : List Int) (i : Nat) : Wd 4 (wc (tq (l.getD i 0)) (List.replicate 64 (cq i))) 1 ∧ decW 1 (wc (tq (l.getD i 0)) (List.replicate 64 (cq i))) = [(tq (l.getD i 0), List.replicate 64 (cq i))] := Wd.one (tq_rng _).1 (tq_rng _).2 (List.length_replicate ..)
/-- No write waits, and Sync comes now or later, or has nothing to do. -/
theorem Inv.first {l : List Int} {s : Nat} {d : Dt} (hx : d.x = z256) (hs : d.s = wc (tq (l.getD 0 0)) (List.replicate 64 (cq 0))) (ha : d.a = 1) : Inv l s 1 d := by
  obtain ⟨h1, h2⟩ := one_ok l 0
  have e : sp s 1 = 0 := by unfold sp; split <;> omega
  refine ⟨?_, by rw [hs, ha]; exact h1, ?_⟩
  · rw [hx, e]; rfl
  · rw [hs, ha, h2, e]; rfl
theorem Inv.synced {l : List Int} {s : Nat} {d e : Dt} (h : Inv l s s d) (hx : e.x = appl d.x ((decW d.a d.s).take (cnt (Int.ofNat d.a) d.a))) (hs : e.s = wc (tq (l.getD s 0)) (List.replicate 64 (cq s))) (ha : e.a = 1) (h0 : 0 < s) : Inv l s (s + 1) e := by
  obtain ⟨h1, h2⟩ := one_ok l s
  have e0 : sp s s = 0 := by unfold sp; rw [if_pos (Nat.le_refl s)]
  have e1 : sp s (s + 1) = s := by unfold sp; rw [if_neg (by omega)]
  refine ⟨?_, by rw [hs, ha]; exact h1, ?_⟩
  · rw [hx, cnt_all, List.take_of_length_le (by rw [h.2.1.dec.2.1]; exact Nat.le_refl _), h.1, h.2.2, e0, e1]
    rfl
  · rw [hs, ha, h2, e1]
    simp only [wsl]
    rw [List.drop_append, List.drop_of_length_le (by rw [wsl_len]; exact Nat.le_refl _), wsl_len, Nat.sub_self]
    rfl
theorem Inv.next {l : List Int} {s i : Nat} {d e : Dt} (h : Inv l s i d) (hi : i ≠ s) (hx : e.x = d.x) (hs : e.s = d.s ++ wc (tq (l.getD i 0)) (List.replicate 64 (cq i))) (ha : e.a = d.a + 1) : Inv l s (i + 1) e := by
  have h1 := h.2.1.snoc (tq_rng (l.getD i 0)).1 (tq_rng (l.getD i 0)).2 (b := List.replicate 64 (cq i)) (List.length_replicate ..)
  have e0 : sp s (i + 1) = sp s i := by unfold sp; split <;> split <;> omega
  refine ⟨by rw [hx, h.1, e0], by rw [hs, ha]; exact h1.1, ?_⟩
  rw [hs, ha, h1.2, h.2.2, e0]
  simp only [wsl]
  rw [List.drop_append_of_le_length (by rw [wsl_len]; exact sp_le s i)]
/-- Behind the fall. -/
theorem Inv.fall {l : List Int} {s n : Nat} {d : Dt} {keep : Int} (h : Inv l s n d) (hs : s < n) : appl d.x ((decW d.a d.s).take (cnt keep d.a)) = appl z256 (wsl l (if keep < Int.ofNat (n - s) then s + keep.toNat else n)) := by
  have hl := h.len
  have e : sp s n = s := by unfold sp; rw [if_neg (by omega)]
  rw [e] at hl
  have h1 : ∀ j, j ≤ n - s → wsl l (s + j) = wsl l s ++ ((wsl l n).drop s).take j := by
    intro j hj
    rw [← wsl_app l (s + j) n (by omega), List.take_add, wsl_app l s n (by omega)]
  rw [h.1, h.2.2, e, ← appl_app, hl]
  congr 1
  unfold cnt
  split
  · rename_i hk
    simp only [Int.ofNat_eq_natCast] at hk
    rw [show min keep.toNat (n - s) = keep.toNat by omega, h1 _ (by omega)]
  · rename_i hk
    simp only [Int.ofNat_eq_natCast] at hk
    rw [show min keep.toNat (n - s) = n - s by omega, ← h1 (n - s) (Nat.le_refl _), show s + (n - s) = n by omega]
theorem Inv.all {l : List Int} {n : Nat} {d : Dt} (h : Inv l n n d) : appl d.x ((decW d.a d.s).take (cnt (Int.ofNat d.a) d.a)) = appl z256 (wsl l n) := by
  have e0 : sp n n = 0 := by unfold sp; rw [if_pos (Nat.le_refl n)]
  rw [cnt_all, List.take_of_length_le (by rw [h.2.1.dec.2.1]; exact Nat.le_refl _), h.1, h.2.2, e0]
  rfl
/-- The last byte written at K. -/
def wantV (l : List Int) (K : Nat) : Nat → Int
  | 0 => 0
  | i + 1 => bif tq (l.getD i 0) == Int.ofNat K then cq i else wantV l K i
theorem want_t {l : List Int} {K i : Nat} (h : (tq (l.getD i 0) == Int.ofNat K) = true) : wantV l K (i + 1) = cq i := by simp only [wantV, h, cond_true]
theorem want_f {l : List Int} {K i : Nat} (h : (tq (l.getD i 0) == Int.ofNat K) = false) : wantV l K (i + 1) = wantV l K i := by simp only [wantV, h, cond_false]
theorem seg_set {X b : List Int} {a K n : Nat} (hX : X.length = 64 * n) (hb : b.length = 64) (ha : a < n) (hK : K < n) : seg (setS X (a * 64) b) (K * 64) 64 = if a = K then b else seg X (K * 64) 64 := by
  unfold seg setS
  apply List.ext_getElem?
  intro i
  by_cases hi : i < 64
  · rw [List.getElem?_take, if_pos hi, List.getElem?_drop]
    by_cases e : a = K
    · subst e
      rw [if_pos rfl, List.getElem?_append_right (by simp only [List.length_take]; omega), List.getElem?_append_left (by simp only [List.length_take, hb]; omega)]
      congr 1
      simp only [List.length_take]; omega
    · rw [if_neg e, List.getElem?_take, if_pos hi, List.getElem?_drop]
      by_cases hlt : K < a
      · rw [List.getElem?_append_left (by simp only [List.length_take]; omega), List.getElem?_take, if_pos (by omega)]
      · rw [List.getElem?_append_right (by simp only [List.length_take]; omega), List.getElem?_append_right (by simp only [List.length_take, hb]; omega), List.getElem?_drop]
        congr 1
        simp only [List.length_take, hb]; omega
  · have h1 : ∀ L : List Int, (L.take 64)[i]? = none := fun L => by rw [List.getElem?_take, if_neg hi]
    rw [h1]
    split
    · rw [List.getElem?_eq_none (by omega)]
    · rw [h1]
theorem want_seg (l : List Int) {K : Nat} (hK : K < 4) : ∀ i, seg (appl z256 (wsl l i)) (K * 64) 64 = List.replicate 64 (wantV l K i)
  | 0 => by
    simp only [wsl, appl, wantV, seg, z256]
    rw [List.drop_replicate, List.take_replicate, show min 64 (256 - K * 64) = 64 by omega]
  | i + 1 => by
    have hr := tq_rng (l.getD i 0)
    simp only [wsl, appl_app, appl]
    rw [seg_set (n := 4) (appl_len (n := 4) (wsl_ok l i) z256_len) (List.length_replicate ..) (by omega) hK, want_seg l hK i]
    by_cases e : tq (l.getD i 0) = Int.ofNat K
    · rw [if_pos (by rw [e]; rfl), want_t (by rw [e]; exact beq_self_eq_true _)]
    · rw [if_neg (fun h => e (by simp only [Int.ofNat_eq_natCast]; omega)), want_f (by rw [beq_eq_false_iff_ne]; exact e)]
end Go.Proofs.Ytnfglcfjjemjmaa
