/- What powers, inverses, roots modulo P mean. No condition. -/
import Derived.Test.YtfknmccjfolhpaaEd
import Derived.Test.YtfknmccjfolhpaaFi10
namespace Go.Proofs.Ytfknmccjfolhpaa
open Go Go.RowKit

theorem mpow_pow (x e : Nat) (he : e < 2 ^ 256) : ∀ k, k ≤ 256 → mpow x e k = x ^ (e / 2 ^ (256 - k)) % 57896044618658097711785492504343953926634992332820282019728792003956564819949
  | 0, _ => by
    rw [Nat.sub_zero, Nat.div_eq_of_lt he, Nat.pow_zero]
    show 1 = 1 % 57896044618658097711785492504343953926634992332820282019728792003956564819949
    decide
  | k + 1, hk => by
    have ih := mpow_pow x e he k (by omega)
    have h2 : e / 2 ^ (256 - k) = e / 2 ^ (255 - k) / 2 := by
      rw [Nat.div_div_eq_div_mul, ← Nat.pow_succ, show (255 - k).succ = 256 - k by omega]
    have h3 : 256 - (k + 1) = 255 - k := by omega
    rw [h3]
    unfold mpow
    rw [ih, h2]
    generalize e / 2 ^ (255 - k) = b
    have e1 : x ^ (b / 2) % 57896044618658097711785492504343953926634992332820282019728792003956564819949 * (x ^ (b / 2) % 57896044618658097711785492504343953926634992332820282019728792003956564819949) % 57896044618658097711785492504343953926634992332820282019728792003956564819949 = x ^ (2 * (b / 2)) % 57896044618658097711785492504343953926634992332820282019728792003956564819949 := by
      rw [← Nat.mul_mod, ← Nat.pow_add, Nat.two_mul]
    rw [e1]
    cases hb : b % 2 == 1 with
    | true =>
      have hb := eq_of_beq hb
      rw [cond_true, Nat.mod_mul_mod, ← Nat.pow_succ, show (2 * (b / 2)).succ = b by omega]
    | false =>
      have hb : b % 2 ≠ 1 := fun h => by rw [h] at hb; cases hb
      rw [cond_false, show 2 * (b / 2) = b by omega]
theorem mpow_all (x e : Nat) (he : e < 2 ^ 256) : mpow x e 256 = x ^ e % 57896044618658097711785492504343953926634992332820282019728792003956564819949 := by
  have := mpow_pow x e he 256 (Nat.le_refl _)
  rw [Nat.sub_self, Nat.pow_zero, Nat.div_one] at this
  exact this
theorem kap_mpow (x : Nat) {e : Nat} (he : e < 2 ^ 256) : kap (mpow x e 256) = kap x ^ e := by
  rw [mpow_all x e he, kap_mod, kap_pow]
theorem K_one_ne : (1 : K) ≠ 0 := fun h => absurd (congrArg Fin.val h) (by decide)
theorem K_two_ne : (2 : K) ≠ 0 := fun h => absurd (congrArg Fin.val h) (by decide)
theorem K_pow_add (a : K) (m : Nat) : ∀ n : Nat, a ^ (m + n) = a ^ m * a ^ n
  | 0 => by rw [Nat.add_zero]; grind -lia -linarith
  | n + 1 => by
    have := K_pow_add a m n
    rw [← Nat.add_assoc]; grind -lia -linarith
theorem K_mul_pow (a b : K) : ∀ n : Nat, (a * b) ^ n = a ^ n * b ^ n
  | 0 => by grind -lia -linarith
  | n + 1 => by
    have := K_mul_pow a b n
    grind -lia -linarith
theorem K_zero_pow (n : Nat) : (0 : K) ^ (n + 1) = 0 := by grind -lia -linarith
theorem K_fermat {a : K} (h : a ≠ 0) {n : Nat} (hn : n = 57896044618658097711785492504343953926634992332820282019728792003956564819949 - 1) : a ^ n = 1 := by
  have hx : ¬ 57896044618658097711785492504343953926634992332820282019728792003956564819949 ∣ a.val := fun hd => h (Fin.ext (Nat.eq_zero_of_dvd_of_lt hd a.isLt))
  have hf := fermat prime_P hx
  rw [← hn] at hf
  have e : a ^ n = kap (a.val ^ n) := by rw [kap_pow, kap_val]
  rw [e]
  exact Fin.ext hf
theorem kap_inv (x : Nat) : kap (mpow x 57896044618658097711785492504343953926634992332820282019728792003956564819947 256) = kinv (kap x) := by
  obtain ⟨n, hn⟩ : ∃ n, 57896044618658097711785492504343953926634992332820282019728792003956564819947 = n + 1 := ⟨57896044618658097711785492504343953926634992332820282019728792003956564819946, rfl⟩
  have he : 57896044618658097711785492504343953926634992332820282019728792003956564819947 < 2 ^ 256 := by decide +kernel
  have hp : n + 1 + 1 = 57896044618658097711785492504343953926634992332820282019728792003956564819949 - 1 := by omega
  rw [hn] at he ⊢
  rw [kap_mpow x he]
  by_cases h : kap x = 0
  · rw [h, kinv_0, K_zero_pow]
  · refine kinv_of ?_
    have := K_fermat h hp
    rw [K_pow_add] at this
    grind -lia -linarith
theorem K_sq {a b : K} (h : a * a = b * b) : a = b ∨ a = -b := by
  have : (a - b) * (a + b) = 0 := by grind -lia -linarith
  rcases K_mul0 this with h | h
  · exact .inl (by grind -lia -linarith)
  · exact .inr (by grind -lia -linarith)
theorem K_sq1 {a : K} (h : a * a = 1) : a = 1 ∨ a = -1 := K_sq (by rw [h]; grind -lia -linarith)
theorem K_neg1 : (1 : K) ≠ -1 := fun h => absurd (congrArg Fin.val h) (by decide)

/-! ### Roots -/
def eH : Nat := 28948022309329048855892746252171976963317496166410141009864396001978282409974
def eQ : Nat := 14474011154664524427946373126085988481658748083205070504932198000989141204987
def e8 : Nat := 7237005577332262213973186563042994240829374041602535252466099000494570602494
def iR : Nat := 19681161376707505956807079304988542015446066515923890162744021073123829784752
theorem eH_eQ : eH = eQ + eQ := by decide +kernel
theorem e8_eQ : e8 + e8 = eQ + 1 := by decide +kernel
theorem eH_P : eH + eH = 57896044618658097711785492504343953926634992332820282019728792003956564819949 - 1 := by decide +kernel
theorem iR_sq : kap iR * kap iR = -1 := by decide +kernel
theorem two_H : kap 2 ^ eH = -1 := by
  rw [← kap_mpow 2 (by decide +kernel)]
  decide +kernel
/-- a to the half of P - 1: 1 of a square, else -1. -/
theorem euler {a : K} (h : a ≠ 0) : a ^ eH = 1 ∨ a ^ eH = -1 := by
  refine K_sq1 ?_
  rw [← K_pow_add, eH_P]
  exact K_fermat h rfl
theorem euler_sq {a b : K} (h : a ≠ 0) (hb : b * b = a) : a ^ eH = 1 := by
  have h0 : b ≠ 0 := by
    rintro rfl
    refine h ?_
    rw [← hb]; grind -lia -linarith
  rw [← hb, K_mul_pow, ← K_pow_add, eH_P]
  exact K_fermat h0 rfl
theorem euler_root {a : K} (h : a ≠ 0) (he : a ^ eH = 1) : (a ^ e8 * a ^ e8 = a) ∨ ((a ^ e8 * kap iR) * (a ^ e8 * kap iR) = a) := by
  rw [eH_eQ, K_pow_add] at he
  have h8 : a ^ e8 * a ^ e8 = a ^ eQ * a := by
    rw [← K_pow_add, e8_eQ, K_pow_add]; grind -lia -linarith
  have hi := iR_sq
  rcases K_sq1 he with e | e
  · exact .inl (by rw [h8, e]; grind -lia -linarith)
  · exact .inr (by
      have : (a ^ e8 * kap iR) * (a ^ e8 * kap iR) = (a ^ e8 * a ^ e8) * (kap iR * kap iR) := by grind -lia -linarith
      rw [this, h8, e, hi]; grind -lia -linarith)
theorem rootR_def (x : Nat) : rootR x = bif mpow x e8 256 * mpow x e8 256 % 57896044618658097711785492504343953926634992332820282019728792003956564819949 == x then mpow x e8 256 else mpow x e8 256 * iR % 57896044618658097711785492504343953926634992332820282019728792003956564819949 := rfl
theorem mod_kap {a b : Nat} (hb : b < 57896044618658097711785492504343953926634992332820282019728792003956564819949) (h : kap a = kap b) : a % 57896044618658097711785492504343953926634992332820282019728792003956564819949 = b := by
  rw [kap_inj h, Nat.mod_eq_of_lt hb]
theorem rootOK_iff {x : Nat} (hx : x < 57896044618658097711785492504343953926634992332820282019728792003956564819949) : rootOK x = true ↔ ∃ y : K, y * y = kap x := by
  constructor
  · intro h
    unfold rootOK at h
    refine ⟨kap (rootR x), ?_⟩
    rw [← kap_mul]
    exact kap_eq (by rw [eq_of_beq h, Nat.mod_eq_of_lt hx])
  · rintro ⟨y, hy⟩
    unfold rootOK
    refine beq_iff_eq.2 (mod_kap hx ?_)
    rw [kap_mul, rootR_def]
    by_cases h0 : kap x = 0
    · have : x = 0 := by have := congrArg Fin.val h0; rw [kap_v, Nat.mod_eq_of_lt hx] at this; exact this
      subst this
      decide +kernel
    · have he := euler_sq h0 hy
      have hm : kap (mpow x e8 256) = kap x ^ e8 := kap_mpow x (by decide +kernel)
      cases hb : mpow x e8 256 * mpow x e8 256 % 57896044618658097711785492504343953926634992332820282019728792003956564819949 == x with
      | true =>
        rw [cond_true, ← kap_mul]
        exact kap_eq (by rw [eq_of_beq hb, Nat.mod_eq_of_lt hx])
      | false =>
        rw [cond_false, kap_mod, kap_mul, hm]
        refine (euler_root h0 he).resolve_left fun e => ?_
        rw [← hm, ← kap_mul] at e
        have := mod_kap hx e
        rw [this, beq_self_eq_true] at hb
        cases hb
theorem rootV_yes {x r : Nat} (h : rootOK x = true) (hr : rootR x = r) : rootV x = bif r % 2 == 1 then 57896044618658097711785492504343953926634992332820282019728792003956564819949 - r else r := by
  subst hr; unfold rootV; rw [h, cond_true]
theorem rv_sq {b : Bool} {r : Nat} {a : K} (hlt : r < 57896044618658097711785492504343953926634992332820282019728792003956564819949) (hr : kap r * kap r = a) : kap (bif b then 57896044618658097711785492504343953926634992332820282019728792003956564819949 - r else r) * kap (bif b then 57896044618658097711785492504343953926634992332820282019728792003956564819949 - r else r) = a := by
  cases b with
  | false => exact hr
  | true =>
    rw [cond_true]
    have : kap (57896044618658097711785492504343953926634992332820282019728792003956564819949 - r) + kap r = 0 := by
      rw [← kap_add, Nat.sub_add_cancel (Nat.le_of_lt hlt)]; exact Fin.ext (Nat.mod_self _)
    have h2 : kap (57896044618658097711785492504343953926634992332820282019728792003956564819949 - r) = - kap r := by
      generalize kap (57896044618658097711785492504343953926634992332820282019728792003956564819949 - r) = u at *
      grind -lia -linarith
    rw [h2]; grind -lia -linarith
theorem rootV_sq {x : Nat} (hx : x < 57896044618658097711785492504343953926634992332820282019728792003956564819949) (h : rootOK x = true) : kap (rootV x) * kap (rootV x) = kap x := by
  have hr : kap (rootR x) * kap (rootR x) = kap x := by
    unfold rootOK at h
    rw [← kap_mul]
    exact kap_eq (by rw [eq_of_beq h, Nat.mod_eq_of_lt hx])
  rw [rootV_yes h rfl]
  exact rv_sq (rootR_lt x) hr
theorem rv_even {b : Bool} {r : Nat} (hlt : r < 57896044618658097711785492504343953926634992332820282019728792003956564819949) : (bif b then (bif r % 2 == 1 then 57896044618658097711785492504343953926634992332820282019728792003956564819949 - r else r) else 0) % 2 = 0 := by
  cases b with
  | false => rfl
  | true =>
    rw [cond_true]
    cases hb : r % 2 == 1 with
    | true =>
      have := eq_of_beq hb
      rw [cond_true]; omega
    | false =>
      have hb : r % 2 ≠ 1 := fun h => by rw [h] at hb; cases hb
      rw [cond_false]; omega
theorem rootV_even (x : Nat) : rootV x % 2 = 0 := rv_even (rootR_lt x)
theorem rootV_no {x : Nat} (h : rootOK x = false) : rootV x = 0 := by unfold rootV; rw [h]; rfl
theorem not_square {a : K} (h : a ^ eH = -1) : ∀ y : K, y * y ≠ a := fun y hy => by
  by_cases h0 : a = 0
  · subst h0
    obtain ⟨n, hn⟩ : ∃ n, eH = n + 1 := ⟨eH - 1, by decide +kernel⟩
    rw [hn, K_zero_pow] at h
    exact absurd (congrArg Fin.val h) (by decide)
  · have := euler_sq h0 hy
    rw [this] at h
    exact K_neg1 h
/-- Of a number and twice it just one is a square. -/
theorem twice_root {x y : Nat} (hx : x < 57896044618658097711785492504343953926634992332820282019728792003956564819949) (hy : y < 57896044618658097711785492504343953926634992332820282019728792003956564819949) (h0 : x ≠ 0) (h : kap y = kap 2 * kap x) : rootOK x = !rootOK y := by
  have hx0 : kap x ≠ 0 := fun e => by
    have := congrArg Fin.val e
    rw [kap_v, Nat.mod_eq_of_lt hx] at this
    exact h0 this
  have hy0 : kap y ≠ 0 := by rw [h]; exact K_ne (fun e => K_two_ne e) hx0
  have hp : kap y ^ eH = - (kap x ^ eH) := by
    rw [h, K_mul_pow, two_H]
    generalize kap x ^ eH = u
    grind -lia -linarith
  have key : ∀ z, z < 57896044618658097711785492504343953926634992332820282019728792003956564819949 → kap z ≠ 0 → (rootOK z = true ↔ kap z ^ eH = 1) := fun z hz hz0 => by
    rw [rootOK_iff hz]
    constructor
    · rintro ⟨w, hw⟩; exact euler_sq hz0 hw
    · intro he
      rcases euler_root hz0 he with e | e
      · exact ⟨_, e⟩
      · exact ⟨_, e⟩
  rcases euler hx0 with e | e
  · have h1 := (key x hx hx0).2 e
    have h2 : ¬ rootOK y = true := fun hh => by
      have := (key y hy hy0).1 hh
      rw [hp, e] at this
      exact K_neg1 this.symm
    rw [h1]; cases hh : rootOK y <;> simp_all
  · have h1 : ¬ rootOK x = true := fun hh => by
      have := (key x hx hx0).1 hh
      rw [e] at this
      exact K_neg1 this.symm
    have h2 := (key y hy hy0).2 (by rw [hp, e]; decide)
    rw [h2]; cases hh : rootOK x <;> simp_all
end Go.Proofs.Ytfknmccjfolhpaa
