/- The curve of Edwards modulo P, a group: sums of points, their laws. No condition. -/
import Derived.Test.YtfknmccjfolhpaaPr
namespace Go.Proofs.Ytfknmccjfolhpaa
instance instP : NeZero 57896044618658097711785492504343953926634992332820282019728792003956564819949 := ⟨by decide⟩
abbrev K := Fin 57896044618658097711785492504343953926634992332820282019728792003956564819949
def kap (n : Nat) : K := Fin.ofNat 57896044618658097711785492504343953926634992332820282019728792003956564819949 n
theorem kap_v (n : Nat) : (kap n).val = n % 57896044618658097711785492504343953926634992332820282019728792003956564819949 := rfl
theorem kap_eq {a b : Nat} (h : a % 57896044618658097711785492504343953926634992332820282019728792003956564819949 = b % 57896044618658097711785492504343953926634992332820282019728792003956564819949) : kap a = kap b := Fin.ext h
theorem kap_mod (a : Nat) : kap (a % 57896044618658097711785492504343953926634992332820282019728792003956564819949) = kap a := kap_eq (Nat.mod_mod _ _)
theorem kap_inj {a b : Nat} (h : kap a = kap b) : a % 57896044618658097711785492504343953926634992332820282019728792003956564819949 = b % 57896044618658097711785492504343953926634992332820282019728792003956564819949 := congrArg Fin.val h
theorem kap_add (a b : Nat) : kap (a + b) = kap a + kap b := Fin.ext (by show (a + b) % 57896044618658097711785492504343953926634992332820282019728792003956564819949 = (a % 57896044618658097711785492504343953926634992332820282019728792003956564819949 + b % 57896044618658097711785492504343953926634992332820282019728792003956564819949) % 57896044618658097711785492504343953926634992332820282019728792003956564819949; rw [Nat.add_mod])
theorem kap_mul (a b : Nat) : kap (a * b) = kap a * kap b := Fin.ext (by show (a * b) % 57896044618658097711785492504343953926634992332820282019728792003956564819949 = (a % 57896044618658097711785492504343953926634992332820282019728792003956564819949 * (b % 57896044618658097711785492504343953926634992332820282019728792003956564819949)) % 57896044618658097711785492504343953926634992332820282019728792003956564819949; rw [Nat.mul_mod])
theorem kap_val (a : K) : kap a.val = a := Fin.ext (Nat.mod_eq_of_lt a.isLt)
theorem kap_0 : kap 0 = 0 := rfl
theorem kap_1 : kap 1 = 1 := rfl
theorem kap_zero {a : Nat} (h : kap a = 0) : 57896044618658097711785492504343953926634992332820282019728792003956564819949 ∣ a := Nat.dvd_of_mod_eq_zero (congrArg Fin.val h)
theorem K_mul0 {a b : K} (h : a * b = 0) : a = 0 ∨ b = 0 := by
  have h : 57896044618658097711785492504343953926634992332820282019728792003956564819949 ∣ a.val * b.val := Nat.dvd_of_mod_eq_zero (congrArg Fin.val h)
  rcases prime_mul prime_P h with h | h
  · exact .inl (Fin.ext (Nat.eq_zero_of_dvd_of_lt h a.isLt))
  · exact .inr (Fin.ext (Nat.eq_zero_of_dvd_of_lt h b.isLt))
theorem K_ne {a b : K} (ha : a ≠ 0) (hb : b ≠ 0) : a * b ≠ 0 := fun h => (K_mul0 h).elim ha hb
theorem K_cancel {a b c : K} (hc : c ≠ 0) (h : a * c = b * c) : a = b := by
  have : (a - b) * c = 0 := by grind -lia -linarith
  rcases K_mul0 this with h | h
  · grind -lia -linarith
  · exact (hc h).elim
theorem kap_pow (a : Nat) : ∀ n, kap (a ^ n) = kap a ^ n
  | 0 => by rw [Nat.pow_zero]; exact kap_1.trans (by grind -lia -linarith)
  | n + 1 => by rw [Nat.pow_succ, kap_mul, kap_pow a n]; grind -lia -linarith
theorem K_inv {a : K} (h : a ≠ 0) : ∃ b : K, a * b = 1 := by
  have hx : ¬ 57896044618658097711785492504343953926634992332820282019728792003956564819949 ∣ a.val := fun hd => h (Fin.ext (Nat.eq_zero_of_dvd_of_lt hd a.isLt))
  have hf := fermat prime_P hx
  obtain ⟨n, hn⟩ : ∃ n, 57896044618658097711785492504343953926634992332820282019728792003956564819949 - 1 = n + 1 := ⟨57896044618658097711785492504343953926634992332820282019728792003956564819949 - 2, rfl⟩
  rw [hn] at hf
  refine ⟨kap (a.val ^ n), ?_⟩
  have e : a * kap (a.val ^ n) = kap (a.val * a.val ^ n) := by rw [kap_mul, kap_val]
  rw [e]
  refine Fin.ext ?_
  show a.val * a.val ^ n % 57896044618658097711785492504343953926634992332820282019728792003956564819949 = 1
  rw [Nat.mul_comm, ← Nat.pow_succ]
  exact hf
open Classical in
noncomputable def kinv (a : K) : K := if h : ∃ b : K, a * b = 1 then choose h else 0
theorem kinv_ok {a : K} (h : a ≠ 0) : a * kinv a = 1 := by
  unfold kinv
  rw [dif_pos (K_inv h)]
  exact Classical.choose_spec (K_inv h)
theorem kinv_0 : kinv 0 = 0 := by
  unfold kinv
  rw [dif_neg]
  rintro ⟨b, hb⟩
  have : (0 : K) * b = 0 := by grind -lia -linarith
  rw [this] at hb
  exact absurd (congrArg Fin.val hb) (by decide)
theorem kinv_of {a b : K} (h : a * b = 1) : b = kinv a := by
  have ha : a ≠ 0 := fun e => by
    subst e
    have : (0 : K) * b = 0 := by grind -lia -linarith
    rw [this] at h
    exact absurd (congrArg Fin.val h) (by decide)
  refine K_cancel ha ?_
  have := kinv_ok ha
  grind -lia -linarith

/-! ### Sums -/
def On (d x y : K) : Prop := y * y - x * x = 1 + d * (x * x) * (y * y)
theorem On_e {d x y : K} (h : On d x y) : y * y - x * x - 1 - d * x * x * y * y = 0 := by unfold On at h; grind -lia -linarith
/-- What makes the sums' denominators not nought. -/
theorem complete {d i x1 y1 x2 y2 e : K} (hi : i * i = -1) (hd : ∀ s, s * s ≠ d) (h1 : On d x1 y1) (h2 : On d x2 y2) (he : e * e = 1) : d * x1 * x2 * y1 * y2 ≠ e := by
  intro hE
  have h1 := On_e h1
  have h2 := On_e h2
  have no : ∀ u v : K, u * u = d * (v * v) → v = 0 := fun u v h => by
    refine Classical.byContradiction fun hv => ?_
    have hk := kinv_ok hv
    refine hd (u * kinv v) ?_
    have : u * kinv v * (u * kinv v) = d * ((v * kinv v) * (v * kinv v)) := by grind -lia -linarith
    rw [this, hk]; grind -lia -linarith
  have hx1 : x1 ≠ 0 := by rintro rfl; have : e = 0 := by grind -lia -linarith
                          subst this; exact absurd (congrArg Fin.val he) (by decide)
  have hy1 : y1 ≠ 0 := by rintro rfl; have : e = 0 := by grind -lia -linarith
                          subst this; exact absurd (congrArg Fin.val he) (by decide)
  have hx2 : x2 ≠ 0 := by rintro rfl; have : e = 0 := by grind -lia -linarith
                          subst this; exact absurd (congrArg Fin.val he) (by decide)
  have a1 : (i * x1 + e * y1) * (i * x1 + e * y1) = d * ((x1 * y1 * (y2 + i * x2)) * (x1 * y1 * (y2 + i * x2))) := by
    have l : (i * x1 + e * y1) * (i * x1 + e * y1) = 1 + d * x1 * x1 * y1 * y1 + 2 * i * e * x1 * y1 := by grind -lia -linarith
    have r : d * ((x1 * y1 * (y2 + i * x2)) * (x1 * y1 * (y2 + i * x2))) = d * x1 * x1 * y1 * y1 + e * e + 2 * i * e * x1 * y1 := by grind -lia -linarith
    rw [l, r, he]; grind -lia -linarith
  have a2 : (i * x1 - e * y1) * (i * x1 - e * y1) = d * ((x1 * y1 * (y2 - i * x2)) * (x1 * y1 * (y2 - i * x2))) := by
    have l : (i * x1 - e * y1) * (i * x1 - e * y1) = 1 + d * x1 * x1 * y1 * y1 - 2 * i * e * x1 * y1 := by grind -lia -linarith
    have r : d * ((x1 * y1 * (y2 - i * x2)) * (x1 * y1 * (y2 - i * x2))) = d * x1 * x1 * y1 * y1 + e * e - 2 * i * e * x1 * y1 := by grind -lia -linarith
    rw [l, r, he]; grind -lia -linarith
  have b1 := (K_mul0 (no _ _ a1)).resolve_left (K_ne hx1 hy1)
  have b2 := (K_mul0 (no _ _ a2)).resolve_left (K_ne hx1 hy1)
  have c : (2 * i) * x2 = 0 := by grind -lia -linarith
  refine (K_mul0 c).elim (fun h => ?_) hx2
  rcases K_mul0 h with h | h
  · exact absurd (congrArg Fin.val h) (by decide)
  · subst h
    have : (0 : K) = -1 := by grind -lia -linarith
    exact absurd (congrArg Fin.val this) (by decide)
theorem closed {d x1 y1 x2 y2 x y : K} (h1 : On d x1 y1) (h2 : On d x2 y2) (hp : 1 + d * x1 * x2 * y1 * y2 ≠ 0) (hm : 1 - d * x1 * x2 * y1 * y2 ≠ 0)
    (hx : x * (1 + d * x1 * x2 * y1 * y2) = x1 * y2 + x2 * y1) (hy : y * (1 - d * x1 * x2 * y1 * y2) = y1 * y2 + x1 * x2) : On d x y := by
  have h1 := On_e h1
  have h2 := On_e h2
  have key : (y1 * y2 + x1 * x2) * (y1 * y2 + x1 * x2) * ((1 + d * x1 * x2 * y1 * y2) * (1 + d * x1 * x2 * y1 * y2)) - (x1 * y2 + x2 * y1) * (x1 * y2 + x2 * y1) * ((1 - d * x1 * x2 * y1 * y2) * (1 - d * x1 * x2 * y1 * y2)) - (1 + d * x1 * x2 * y1 * y2) * (1 + d * x1 * x2 * y1 * y2) * ((1 - d * x1 * x2 * y1 * y2) * (1 - d * x1 * x2 * y1 * y2)) - d * ((x1 * y2 + x2 * y1) * (x1 * y2 + x2 * y1)) * ((y1 * y2 + x1 * x2) * (y1 * y2 + x1 * x2)) = 0 := by
    have : (y1 * y2 + x1 * x2) * (y1 * y2 + x1 * x2) * ((1 + d * x1 * x2 * y1 * y2) * (1 + d * x1 * x2 * y1 * y2)) - (x1 * y2 + x2 * y1) * (x1 * y2 + x2 * y1) * ((1 - d * x1 * x2 * y1 * y2) * (1 - d * x1 * x2 * y1 * y2)) - (1 + d * x1 * x2 * y1 * y2) * (1 + d * x1 * x2 * y1 * y2) * ((1 - d * x1 * x2 * y1 * y2) * (1 - d * x1 * x2 * y1 * y2)) - d * ((x1 * y2 + x2 * y1) * (x1 * y2 + x2 * y1)) * ((y1 * y2 + x1 * x2) * (y1 * y2 + x1 * x2)) = (x1*x1*x2*x2*x2*x2*y1*y1*y2*y2*y2*y2*d*d*d - x1*x1*x2*x2*x2*x2*y2*y2*y2*y2*d*d - x1*x1*x2*x2*x2*x2*y2*y2*d + x1*x1*x2*x2*y2*y2*y2*y2*d + x2*x2*x2*x2*y1*y1*y2*y2*y2*y2*d*d + x2*x2*x2*x2*y1*y1*y2*y2*d - x2*x2*x2*x2*y2*y2*y2*y2*d*d - 2*x2*x2*x2*x2*y2*y2*y2*y2*d - 2*x2*x2*x2*x2*y2*y2 + x2*x2*x2*x2 - x2*x2*y1*y1*y2*y2*y2*y2*d + 2*x2*x2*y2*y2*y2*y2 - 2*x2*x2*y2*y2*d - 4*x2*x2*y2*y2 + y2*y2*y2*y2) * (y1 * y1 - x1 * x1 - 1 - d * x1 * x1 * y1 * y1) + (x1*x1*x1*x1*x2*x2*y2*y2*d + 2*x1*x1*x2*x2*y2*y2*d + 2*x1*x1*x2*x2*y2*y2 - x1*x1*x2*x2 + x1*x1*y2*y2 + x2*x2*y1*y1*y1*y1*y2*y2*d - 2*x2*x2*y1*y1*y2*y2*d - 2*x2*x2*y1*y1*y2*y2 + x2*x2*y1*y1 + x2*x2*y2*y2*d + 2*x2*x2*y2*y2 - x2*x2 - y1*y1*y2*y2 + y2*y2 + 1) * (y2 * y2 - x2 * x2 - 1 - d * x2 * x2 * y2 * y2) := by
      clear h1 h2 hx hy hp hm
      grind -lia -linarith
    rw [this, h1, h2]; grind -lia -linarith
  rw [← hx, ← hy] at key
  unfold On
  generalize 1 + d * x1 * x2 * y1 * y2 = p at *
  generalize 1 - d * x1 * x2 * y1 * y2 = m at *
  have : (y * y - x * x - 1 - d * (x * x) * (y * y)) * ((p * p) * (m * m)) = y * m * (y * m) * (p * p) - x * p * (x * p) * (m * m) - p * p * (m * m) - d * (x * p * (x * p)) * (y * m * (y * m)) := by
    clear key h1 h2 hx hy hp hm
    grind -lia -linarith
  rw [key] at this
  have := (K_mul0 this).resolve_right (K_ne (K_ne hp hp) (K_ne hm hm))
  clear key h1 h2 hx hy hp hm
  grind -lia -linarith
theorem assocX {d x1 y1 x2 y2 x3 y3 : K} (h1 : On d x1 y1) (h2 : On d x2 y2) (h3 : On d x3 y3) :
    ((x1 * y2 + x2 * y1) * (1 - d * x1 * x2 * y1 * y2) * y3 + x3 * (y1 * y2 + x1 * x2) * (1 + d * x1 * x2 * y1 * y2)) * ((1 + d * x2 * x3 * y2 * y3) * (1 - d * x2 * x3 * y2 * y3) + d * (x2 * y3 + x3 * y2) * (y2 * y3 + x2 * x3) * x1 * y1) =
    (x1 * (y2 * y3 + x2 * x3) * (1 + d * x2 * x3 * y2 * y3) + (x2 * y3 + x3 * y2) * (1 - d * x2 * x3 * y2 * y3) * y1) * ((1 + d * x1 * x2 * y1 * y2) * (1 - d * x1 * x2 * y1 * y2) + d * (x1 * y2 + x2 * y1) * (y1 * y2 + x1 * x2) * x3 * y3) := by
  have h1 := On_e h1
  have h2 := On_e h2
  have h3 := On_e h3
  have : ((x1 * y2 + x2 * y1) * (1 - d * x1 * x2 * y1 * y2) * y3 + x3 * (y1 * y2 + x1 * x2) * (1 + d * x1 * x2 * y1 * y2)) * ((1 + d * x2 * x3 * y2 * y3) * (1 - d * x2 * x3 * y2 * y3) + d * (x2 * y3 + x3 * y2) * (y2 * y3 + x2 * x3) * x1 * y1) -
    (x1 * (y2 * y3 + x2 * x3) * (1 + d * x2 * x3 * y2 * y3) + (x2 * y3 + x3 * y2) * (1 - d * x2 * x3 * y2 * y3) * y1) * ((1 + d * x1 * x2 * y1 * y2) * (1 - d * x1 * x2 * y1 * y2) + d * (x1 * y2 + x2 * y1) * (y1 * y2 + x1 * x2) * x3 * y3) =
    (- x1*x2*x2*x2*x2*x3*x3*y2*y2*y2*y3*d*d - x1*x2*x2*x2*x2*x3*x3*y2*y3*d - x1*x2*x2*x2*x3*x3*x3*y2*y2*d - x1*x2*x2*x2*x3*y2*y2*y2*y2*y3*y3*d*d - x1*x2*x2*x2*x3*y2*y2*d + x1*x2*x2*y2*y2*y2*y3*y3*y3*d - x1*x2*x2*y2*y2*y2*y3*d + x1*x2*x3*y2*y2*y2*y2*y3*y3*d + x2*x2*x2*x2*x3*y1*y2*y2*y2*y3*y3*d*d + x2*x2*x2*x2*x3*y1*y2*y3*y3*d + x2*x2*x2*x3*x3*y1*y2*y2*y2*y2*y3*d*d + x2*x2*x2*y1*y2*y2*y3*y3*y3*d - x2*x2*x2*y1*y2*y2*y3*d - x2*x2*x3*x3*x3*y1*y2*y2*y2*d - x2*x2*x3*y1*y2*y2*y2*d - x2*x3*x3*y1*y2*y2*y2*y2*y3*d) * (y1 * y1 - x1 * x1 - 1 - d * x1 * x1 * y1 * y1) + (x1*x1*x1*x2*x2*x3*x3*y2*y3*d + x1*x1*x1*x2*x3*x3*x3*y3*y3*d + x1*x1*x1*x2*x3*x3*x3 + x1*x1*x1*x2*x3*y2*y2*y3*y3*d - x1*x1*x1*x2*x3*y3*y3 + x1*x1*x1*x2*x3 + x1*x1*x1*x3*x3*y2*y3*y3*y3*d + x1*x1*x1*x3*x3*y2*y3 - x1*x1*x1*y2*y3*y3*y3 + x1*x1*x1*y2*y3 + x1*x1*x2*x2*x3*x3*x3*y1*y2*y3*y3*d*d - x1*x1*x2*x2*x3*y1*y2*y3*y3*d - x1*x1*x2*x3*x3*y1*y2*y2*y3*y3*y3*d*d - x1*x1*x2*x3*x3*y1*y2*y2*y3*d + x1*x1*x2*x3*x3*y1*y3*y3*y3*d + x1*x1*x2*x3*x3*y1*y3 - x1*x1*x2*y1*y3*y3*y3 + x1*x1*x2*y1*y3 + x1*x1*x3*x3*x3*y1*y2*y3*y3*d + x1*x1*x3*x3*x3*y1*y2 - x1*x1*x3*y1*y2*y3*y3 + x1*x1*x3*y1*y2 - x1*x2*x2*x3*x3*y1*y1*y2*y3*y3*y3*d*d - x1*x2*x2*x3*x3*y1*y1*y2*y3*d + x1*x2*x2*x3*x3*y2*y3*d + x1*x2*x3*x3*x3*y1*y1*y2*y2*y3*y3*d*d - x1*x2*x3*x3*x3*y1*y1*y3*y3*d - x1*x2*x3*x3*x3*y1*y1 + x1*x2*x3*x3*x3*y3*y3*d + x1*x2*x3*x3*x3 - x1*x2*x3*y1*y1*y2*y2*y3*y3*d + x1*x2*x3*y1*y1*y3*y3 - x1*x2*x3*y1*y1 + x1*x2*x3*y2*y2*y3*y3*d - x1*x2*x3*y3*y3 + x1*x2*x3 - x1*x3*x3*y1*y1*y2*y3*y3*y3*d - x1*x3*x3*y1*y1*y2*y3 + x1*x3*x3*y2*y3*y3*y3*d + x1*x3*x3*y2*y3 + x1*y1*y1*y2*y3*y3*y3 - x1*y1*y1*y2*y3 - x1*y2*y3*y3*y3 + x1*y2*y3 + x2*x2*x3*y1*y1*y1*y2*y3*y3*d - x2*x2*x3*y1*y2*y3*y3*d + x2*x3*x3*y1*y1*y1*y2*y2*y3*d - x2*x3*x3*y1*y1*y1*y3*y3*y3*d - x2*x3*x3*y1*y1*y1*y3 - x2*x3*x3*y1*y2*y2*y3*d + x2*x3*x3*y1*y3*y3*y3*d + x2*x3*x3*y1*y3 + x2*y1*y1*y1*y3*y3*y3 - x2*y1*y1*y1*y3 - x2*y1*y3*y3*y3 + x2*y1*y3 - x3*x3*x3*y1*y1*y1*y2*y3*y3*d - x3*x3*x3*y1*y1*y1*y2 + x3*x3*x3*y1*y2*y3*y3*d + x3*x3*x3*y1*y2 + x3*y1*y1*y1*y2*y3*y3 - x3*y1*y1*y1*y2 - x3*y1*y2*y3*y3 + x3*y1*y2) * (y2 * y2 - x2 * x2 - 1 - d * x2 * x2 * y2 * y2) + (- x1*x1*x1*x2*x2*x2*x3 - x1*x1*x1*x2*x2*y2*y3 + x1*x1*x1*x2*x3*y2*y2 - x1*x1*x1*x2*x3 + x1*x1*x1*y2*y2*y2*y3 - x1*x1*x1*y2*y3 - x1*x1*x2*x2*x2*y1*y3 - x1*x1*x2*x2*x3*y1*y2*d - x1*x1*x2*x2*x3*y1*y2 + x1*x1*x2*y1*y2*y2*y3*d + x1*x1*x2*y1*y2*y2*y3 - x1*x1*x2*y1*y3 + x1*x1*x3*y1*y2*y2*y2 - x1*x1*x3*y1*y2 + x1*x2*x2*x2*x3*y1*y1 - x1*x2*x2*x2*x3 + x1*x2*x2*y1*y1*y2*y3*d + x1*x2*x2*y1*y1*y2*y3 - x1*x2*x2*y2*y3 - x1*x2*x3*y1*y1*y2*y2*d - x1*x2*x3*y1*y1*y2*y2 + x1*x2*x3*y1*y1 + x1*x2*x3*y2*y2 - x1*x2*x3 - x1*y1*y1*y2*y2*y2*y3 + x1*y1*y1*y2*y3 + x1*y2*y2*y2*y3 - x1*y2*y3 + x2*x2*x2*y1*y1*y1*y3 - x2*x2*x2*y1*y3 + x2*x2*x3*y1*y1*y1*y2 - x2*x2*x3*y1*y2 - x2*y1*y1*y1*y2*y2*y3 + x2*y1*y1*y1*y3 + x2*y1*y2*y2*y3 - x2*y1*y3 - x3*y1*y1*y1*y2*y2*y2 + x3*y1*y1*y1*y2 + x3*y1*y2*y2*y2 - x3*y1*y2) * (y3 * y3 - x3 * x3 - 1 - d * x3 * x3 * y3 * y3) := by
    clear h1 h2 h3
    grind -lia -linarith
  rw [h1, h2, h3] at this
  generalize ((x1 * y2 + x2 * y1) * (1 - d * x1 * x2 * y1 * y2) * y3 + x3 * (y1 * y2 + x1 * x2) * (1 + d * x1 * x2 * y1 * y2)) * ((1 + d * x2 * x3 * y2 * y3) * (1 - d * x2 * x3 * y2 * y3) + d * (x2 * y3 + x3 * y2) * (y2 * y3 + x2 * x3) * x1 * y1) = l at *
  generalize (x1 * (y2 * y3 + x2 * x3) * (1 + d * x2 * x3 * y2 * y3) + (x2 * y3 + x3 * y2) * (1 - d * x2 * x3 * y2 * y3) * y1) * ((1 + d * x1 * x2 * y1 * y2) * (1 - d * x1 * x2 * y1 * y2) + d * (x1 * y2 + x2 * y1) * (y1 * y2 + x1 * x2) * x3 * y3) = r at *
  generalize (- x1*x2*x2*x2*x2*x3*x3*y2*y2*y2*y3*d*d - x1*x2*x2*x2*x2*x3*x3*y2*y3*d - x1*x2*x2*x2*x3*x3*x3*y2*y2*d - x1*x2*x2*x2*x3*y2*y2*y2*y2*y3*y3*d*d - x1*x2*x2*x2*x3*y2*y2*d + x1*x2*x2*y2*y2*y2*y3*y3*y3*d - x1*x2*x2*y2*y2*y2*y3*d + x1*x2*x3*y2*y2*y2*y2*y3*y3*d + x2*x2*x2*x2*x3*y1*y2*y2*y2*y3*y3*d*d + x2*x2*x2*x2*x3*y1*y2*y3*y3*d + x2*x2*x2*x3*x3*y1*y2*y2*y2*y2*y3*d*d + x2*x2*x2*y1*y2*y2*y3*y3*y3*d - x2*x2*x2*y1*y2*y2*y3*d - x2*x2*x3*x3*x3*y1*y2*y2*y2*d - x2*x2*x3*y1*y2*y2*y2*d - x2*x3*x3*y1*y2*y2*y2*y2*y3*d) = a at *
  generalize (x1*x1*x1*x2*x2*x3*x3*y2*y3*d + x1*x1*x1*x2*x3*x3*x3*y3*y3*d + x1*x1*x1*x2*x3*x3*x3 + x1*x1*x1*x2*x3*y2*y2*y3*y3*d - x1*x1*x1*x2*x3*y3*y3 + x1*x1*x1*x2*x3 + x1*x1*x1*x3*x3*y2*y3*y3*y3*d + x1*x1*x1*x3*x3*y2*y3 - x1*x1*x1*y2*y3*y3*y3 + x1*x1*x1*y2*y3 + x1*x1*x2*x2*x3*x3*x3*y1*y2*y3*y3*d*d - x1*x1*x2*x2*x3*y1*y2*y3*y3*d - x1*x1*x2*x3*x3*y1*y2*y2*y3*y3*y3*d*d - x1*x1*x2*x3*x3*y1*y2*y2*y3*d + x1*x1*x2*x3*x3*y1*y3*y3*y3*d + x1*x1*x2*x3*x3*y1*y3 - x1*x1*x2*y1*y3*y3*y3 + x1*x1*x2*y1*y3 + x1*x1*x3*x3*x3*y1*y2*y3*y3*d + x1*x1*x3*x3*x3*y1*y2 - x1*x1*x3*y1*y2*y3*y3 + x1*x1*x3*y1*y2 - x1*x2*x2*x3*x3*y1*y1*y2*y3*y3*y3*d*d - x1*x2*x2*x3*x3*y1*y1*y2*y3*d + x1*x2*x2*x3*x3*y2*y3*d + x1*x2*x3*x3*x3*y1*y1*y2*y2*y3*y3*d*d - x1*x2*x3*x3*x3*y1*y1*y3*y3*d - x1*x2*x3*x3*x3*y1*y1 + x1*x2*x3*x3*x3*y3*y3*d + x1*x2*x3*x3*x3 - x1*x2*x3*y1*y1*y2*y2*y3*y3*d + x1*x2*x3*y1*y1*y3*y3 - x1*x2*x3*y1*y1 + x1*x2*x3*y2*y2*y3*y3*d - x1*x2*x3*y3*y3 + x1*x2*x3 - x1*x3*x3*y1*y1*y2*y3*y3*y3*d - x1*x3*x3*y1*y1*y2*y3 + x1*x3*x3*y2*y3*y3*y3*d + x1*x3*x3*y2*y3 + x1*y1*y1*y2*y3*y3*y3 - x1*y1*y1*y2*y3 - x1*y2*y3*y3*y3 + x1*y2*y3 + x2*x2*x3*y1*y1*y1*y2*y3*y3*d - x2*x2*x3*y1*y2*y3*y3*d + x2*x3*x3*y1*y1*y1*y2*y2*y3*d - x2*x3*x3*y1*y1*y1*y3*y3*y3*d - x2*x3*x3*y1*y1*y1*y3 - x2*x3*x3*y1*y2*y2*y3*d + x2*x3*x3*y1*y3*y3*y3*d + x2*x3*x3*y1*y3 + x2*y1*y1*y1*y3*y3*y3 - x2*y1*y1*y1*y3 - x2*y1*y3*y3*y3 + x2*y1*y3 - x3*x3*x3*y1*y1*y1*y2*y3*y3*d - x3*x3*x3*y1*y1*y1*y2 + x3*x3*x3*y1*y2*y3*y3*d + x3*x3*x3*y1*y2 + x3*y1*y1*y1*y2*y3*y3 - x3*y1*y1*y1*y2 - x3*y1*y2*y3*y3 + x3*y1*y2) = b at *
  generalize (- x1*x1*x1*x2*x2*x2*x3 - x1*x1*x1*x2*x2*y2*y3 + x1*x1*x1*x2*x3*y2*y2 - x1*x1*x1*x2*x3 + x1*x1*x1*y2*y2*y2*y3 - x1*x1*x1*y2*y3 - x1*x1*x2*x2*x2*y1*y3 - x1*x1*x2*x2*x3*y1*y2*d - x1*x1*x2*x2*x3*y1*y2 + x1*x1*x2*y1*y2*y2*y3*d + x1*x1*x2*y1*y2*y2*y3 - x1*x1*x2*y1*y3 + x1*x1*x3*y1*y2*y2*y2 - x1*x1*x3*y1*y2 + x1*x2*x2*x2*x3*y1*y1 - x1*x2*x2*x2*x3 + x1*x2*x2*y1*y1*y2*y3*d + x1*x2*x2*y1*y1*y2*y3 - x1*x2*x2*y2*y3 - x1*x2*x3*y1*y1*y2*y2*d - x1*x2*x3*y1*y1*y2*y2 + x1*x2*x3*y1*y1 + x1*x2*x3*y2*y2 - x1*x2*x3 - x1*y1*y1*y2*y2*y2*y3 + x1*y1*y1*y2*y3 + x1*y2*y2*y2*y3 - x1*y2*y3 + x2*x2*x2*y1*y1*y1*y3 - x2*x2*x2*y1*y3 + x2*x2*x3*y1*y1*y1*y2 - x2*x2*x3*y1*y2 - x2*y1*y1*y1*y2*y2*y3 + x2*y1*y1*y1*y3 + x2*y1*y2*y2*y3 - x2*y1*y3 - x3*y1*y1*y1*y2*y2*y2 + x3*y1*y1*y1*y2 + x3*y1*y2*y2*y2 - x3*y1*y2) = c at *
  clear h1 h2 h3
  grind -lia -linarith
theorem assocY {d x1 y1 x2 y2 x3 y3 : K} (h1 : On d x1 y1) (h2 : On d x2 y2) (h3 : On d x3 y3) :
    ((y1 * y2 + x1 * x2) * (1 + d * x1 * x2 * y1 * y2) * y3 + (x1 * y2 + x2 * y1) * (1 - d * x1 * x2 * y1 * y2) * x3) * ((1 + d * x2 * x3 * y2 * y3) * (1 - d * x2 * x3 * y2 * y3) - d * (x2 * y3 + x3 * y2) * (y2 * y3 + x2 * x3) * x1 * y1) =
    (y1 * (y2 * y3 + x2 * x3) * (1 + d * x2 * x3 * y2 * y3) + (x2 * y3 + x3 * y2) * (1 - d * x2 * x3 * y2 * y3) * x1) * ((1 + d * x1 * x2 * y1 * y2) * (1 - d * x1 * x2 * y1 * y2) - d * (x1 * y2 + x2 * y1) * (y1 * y2 + x1 * x2) * x3 * y3) := by
  have h1 := On_e h1
  have h2 := On_e h2
  have h3 := On_e h3
  have : ((y1 * y2 + x1 * x2) * (1 + d * x1 * x2 * y1 * y2) * y3 + (x1 * y2 + x2 * y1) * (1 - d * x1 * x2 * y1 * y2) * x3) * ((1 + d * x2 * x3 * y2 * y3) * (1 - d * x2 * x3 * y2 * y3) - d * (x2 * y3 + x3 * y2) * (y2 * y3 + x2 * x3) * x1 * y1) -
    (y1 * (y2 * y3 + x2 * x3) * (1 + d * x2 * x3 * y2 * y3) + (x2 * y3 + x3 * y2) * (1 - d * x2 * x3 * y2 * y3) * x1) * ((1 + d * x1 * x2 * y1 * y2) * (1 - d * x1 * x2 * y1 * y2) - d * (x1 * y2 + x2 * y1) * (y1 * y2 + x1 * x2) * x3 * y3) =
    (x1*x2*x2*x2*x2*x3*y2*y2*y2*y3*y3*d*d + x1*x2*x2*x2*x2*x3*y2*y3*y3*d + x1*x2*x2*x2*x3*x3*y2*y2*y2*y2*y3*d*d + x1*x2*x2*x2*y2*y2*y3*y3*y3*d - x1*x2*x2*x2*y2*y2*y3*d - x1*x2*x2*x3*x3*x3*y2*y2*y2*d - x1*x2*x2*x3*y2*y2*y2*d - x1*x2*x3*x3*y2*y2*y2*y2*y3*d - x2*x2*x2*x2*x3*x3*y1*y2*y2*y2*y3*d*d - x2*x2*x2*x2*x3*x3*y1*y2*y3*d - x2*x2*x2*x3*x3*x3*y1*y2*y2*d - x2*x2*x2*x3*y1*y2*y2*y2*y2*y3*y3*d*d - x2*x2*x2*x3*y1*y2*y2*d + x2*x2*y1*y2*y2*y2*y3*y3*y3*d - x2*x2*y1*y2*y2*y2*y3*d + x2*x3*y1*y2*y2*y2*y2*y3*y3*d) * (y1 * y1 - x1 * x1 - 1 - d * x1 * x1 * y1 * y1) + (- x1*x1*x1*x2*x2*x3*y2*y3*y3*d - x1*x1*x1*x2*x3*x3*y2*y2*y3*d + x1*x1*x1*x2*x3*x3*y3*y3*y3*d + x1*x1*x1*x2*x3*x3*y3 - x1*x1*x1*x2*y3*y3*y3 + x1*x1*x1*x2*y3 + x1*x1*x1*x3*x3*x3*y2*y3*y3*d + x1*x1*x1*x3*x3*x3*y2 - x1*x1*x1*x3*y2*y3*y3 + x1*x1*x1*x3*y2 + x1*x1*x2*x2*x3*x3*y1*y2*y3*y3*y3*d*d + x1*x1*x2*x2*x3*x3*y1*y2*y3*d - x1*x1*x2*x3*x3*x3*y1*y2*y2*y3*y3*d*d + x1*x1*x2*x3*x3*x3*y1*y3*y3*d + x1*x1*x2*x3*x3*x3*y1 + x1*x1*x2*x3*y1*y2*y2*y3*y3*d - x1*x1*x2*x3*y1*y3*y3 + x1*x1*x2*x3*y1 + x1*x1*x3*x3*y1*y2*y3*y3*y3*d + x1*x1*x3*x3*y1*y2*y3 - x1*x1*y1*y2*y3*y3*y3 + x1*x1*y1*y2*y3 - x1*x2*x2*x3*x3*x3*y1*y1*y2*y3*y3*d*d + x1*x2*x2*x3*y1*y1*y2*y3*y3*d - x1*x2*x2*x3*y2*y3*y3*d + x1*x2*x3*x3*y1*y1*y2*y2*y3*y3*y3*d*d + x1*x2*x3*x3*y1*y1*y2*y2*y3*d - x1*x2*x3*x3*y1*y1*y3*y3*y3*d - x1*x2*x3*x3*y1*y1*y3 - x1*x2*x3*x3*y2*y2*y3*d + x1*x2*x3*x3*y3*y3*y3*d + x1*x2*x3*x3*y3 + x1*x2*y1*y1*y3*y3*y3 - x1*x2*y1*y1*y3 - x1*x2*y3*y3*y3 + x1*x2*y3 - x1*x3*x3*x3*y1*y1*y2*y3*y3*d - x1*x3*x3*x3*y1*y1*y2 + x1*x3*x3*x3*y2*y3*y3*d + x1*x3*x3*x3*y2 + x1*x3*y1*y1*y2*y3*y3 - x1*x3*y1*y1*y2 - x1*x3*y2*y3*y3 + x1*x3*y2 - x2*x2*x3*x3*y1*y1*y1*y2*y3*d + x2*x2*x3*x3*y1*y2*y3*d - x2*x3*x3*x3*y1*y1*y1*y3*y3*d - x2*x3*x3*x3*y1*y1*y1 + x2*x3*x3*x3*y1*y3*y3*d + x2*x3*x3*x3*y1 - x2*x3*y1*y1*y1*y2*y2*y3*y3*d + x2*x3*y1*y1*y1*y3*y3 - x2*x3*y1*y1*y1 + x2*x3*y1*y2*y2*y3*y3*d - x2*x3*y1*y3*y3 + x2*x3*y1 - x3*x3*y1*y1*y1*y2*y3*y3*y3*d - x3*x3*y1*y1*y1*y2*y3 + x3*x3*y1*y2*y3*y3*y3*d + x3*x3*y1*y2*y3 + y1*y1*y1*y2*y3*y3*y3 - y1*y1*y1*y2*y3 - y1*y2*y3*y3*y3 + y1*y2*y3) * (y2 * y2 - x2 * x2 - 1 - d * x2 * x2 * y2 * y2) + (- x1*x1*x1*x2*x2*x2*y3 - x1*x1*x1*x2*x2*x3*y2 + x1*x1*x1*x2*y2*y2*y3 - x1*x1*x1*x2*y3 + x1*x1*x1*x3*y2*y2*y2 - x1*x1*x1*x3*y2 - x1*x1*x2*x2*x2*x3*y1 - x1*x1*x2*x2*y1*y2*y3*d - x1*x1*x2*x2*y1*y2*y3 + x1*x1*x2*x3*y1*y2*y2*d + x1*x1*x2*x3*y1*y2*y2 - x1*x1*x2*x3*y1 + x1*x1*y1*y2*y2*y2*y3 - x1*x1*y1*y2*y3 + x1*x2*x2*x2*y1*y1*y3 - x1*x2*x2*x2*y3 + x1*x2*x2*x3*y1*y1*y2*d + x1*x2*x2*x3*y1*y1*y2 - x1*x2*x2*x3*y2 - x1*x2*y1*y1*y2*y2*y3*d - x1*x2*y1*y1*y2*y2*y3 + x1*x2*y1*y1*y3 + x1*x2*y2*y2*y3 - x1*x2*y3 - x1*x3*y1*y1*y2*y2*y2 + x1*x3*y1*y1*y2 + x1*x3*y2*y2*y2 - x1*x3*y2 + x2*x2*x2*x3*y1*y1*y1 - x2*x2*x2*x3*y1 + x2*x2*y1*y1*y1*y2*y3 - x2*x2*y1*y2*y3 - x2*x3*y1*y1*y1*y2*y2 + x2*x3*y1*y1*y1 + x2*x3*y1*y2*y2 - x2*x3*y1 - y1*y1*y1*y2*y2*y2*y3 + y1*y1*y1*y2*y3 + y1*y2*y2*y2*y3 - y1*y2*y3) * (y3 * y3 - x3 * x3 - 1 - d * x3 * x3 * y3 * y3) := by
    clear h1 h2 h3
    grind -lia -linarith
  rw [h1, h2, h3] at this
  generalize ((y1 * y2 + x1 * x2) * (1 + d * x1 * x2 * y1 * y2) * y3 + (x1 * y2 + x2 * y1) * (1 - d * x1 * x2 * y1 * y2) * x3) * ((1 + d * x2 * x3 * y2 * y3) * (1 - d * x2 * x3 * y2 * y3) - d * (x2 * y3 + x3 * y2) * (y2 * y3 + x2 * x3) * x1 * y1) = l at *
  generalize (y1 * (y2 * y3 + x2 * x3) * (1 + d * x2 * x3 * y2 * y3) + (x2 * y3 + x3 * y2) * (1 - d * x2 * x3 * y2 * y3) * x1) * ((1 + d * x1 * x2 * y1 * y2) * (1 - d * x1 * x2 * y1 * y2) - d * (x1 * y2 + x2 * y1) * (y1 * y2 + x1 * x2) * x3 * y3) = r at *
  generalize (x1*x2*x2*x2*x2*x3*y2*y2*y2*y3*y3*d*d + x1*x2*x2*x2*x2*x3*y2*y3*y3*d + x1*x2*x2*x2*x3*x3*y2*y2*y2*y2*y3*d*d + x1*x2*x2*x2*y2*y2*y3*y3*y3*d - x1*x2*x2*x2*y2*y2*y3*d - x1*x2*x2*x3*x3*x3*y2*y2*y2*d - x1*x2*x2*x3*y2*y2*y2*d - x1*x2*x3*x3*y2*y2*y2*y2*y3*d - x2*x2*x2*x2*x3*x3*y1*y2*y2*y2*y3*d*d - x2*x2*x2*x2*x3*x3*y1*y2*y3*d - x2*x2*x2*x3*x3*x3*y1*y2*y2*d - x2*x2*x2*x3*y1*y2*y2*y2*y2*y3*y3*d*d - x2*x2*x2*x3*y1*y2*y2*d + x2*x2*y1*y2*y2*y2*y3*y3*y3*d - x2*x2*y1*y2*y2*y2*y3*d + x2*x3*y1*y2*y2*y2*y2*y3*y3*d) = a at *
  generalize (- x1*x1*x1*x2*x2*x3*y2*y3*y3*d - x1*x1*x1*x2*x3*x3*y2*y2*y3*d + x1*x1*x1*x2*x3*x3*y3*y3*y3*d + x1*x1*x1*x2*x3*x3*y3 - x1*x1*x1*x2*y3*y3*y3 + x1*x1*x1*x2*y3 + x1*x1*x1*x3*x3*x3*y2*y3*y3*d + x1*x1*x1*x3*x3*x3*y2 - x1*x1*x1*x3*y2*y3*y3 + x1*x1*x1*x3*y2 + x1*x1*x2*x2*x3*x3*y1*y2*y3*y3*y3*d*d + x1*x1*x2*x2*x3*x3*y1*y2*y3*d - x1*x1*x2*x3*x3*x3*y1*y2*y2*y3*y3*d*d + x1*x1*x2*x3*x3*x3*y1*y3*y3*d + x1*x1*x2*x3*x3*x3*y1 + x1*x1*x2*x3*y1*y2*y2*y3*y3*d - x1*x1*x2*x3*y1*y3*y3 + x1*x1*x2*x3*y1 + x1*x1*x3*x3*y1*y2*y3*y3*y3*d + x1*x1*x3*x3*y1*y2*y3 - x1*x1*y1*y2*y3*y3*y3 + x1*x1*y1*y2*y3 - x1*x2*x2*x3*x3*x3*y1*y1*y2*y3*y3*d*d + x1*x2*x2*x3*y1*y1*y2*y3*y3*d - x1*x2*x2*x3*y2*y3*y3*d + x1*x2*x3*x3*y1*y1*y2*y2*y3*y3*y3*d*d + x1*x2*x3*x3*y1*y1*y2*y2*y3*d - x1*x2*x3*x3*y1*y1*y3*y3*y3*d - x1*x2*x3*x3*y1*y1*y3 - x1*x2*x3*x3*y2*y2*y3*d + x1*x2*x3*x3*y3*y3*y3*d + x1*x2*x3*x3*y3 + x1*x2*y1*y1*y3*y3*y3 - x1*x2*y1*y1*y3 - x1*x2*y3*y3*y3 + x1*x2*y3 - x1*x3*x3*x3*y1*y1*y2*y3*y3*d - x1*x3*x3*x3*y1*y1*y2 + x1*x3*x3*x3*y2*y3*y3*d + x1*x3*x3*x3*y2 + x1*x3*y1*y1*y2*y3*y3 - x1*x3*y1*y1*y2 - x1*x3*y2*y3*y3 + x1*x3*y2 - x2*x2*x3*x3*y1*y1*y1*y2*y3*d + x2*x2*x3*x3*y1*y2*y3*d - x2*x3*x3*x3*y1*y1*y1*y3*y3*d - x2*x3*x3*x3*y1*y1*y1 + x2*x3*x3*x3*y1*y3*y3*d + x2*x3*x3*x3*y1 - x2*x3*y1*y1*y1*y2*y2*y3*y3*d + x2*x3*y1*y1*y1*y3*y3 - x2*x3*y1*y1*y1 + x2*x3*y1*y2*y2*y3*y3*d - x2*x3*y1*y3*y3 + x2*x3*y1 - x3*x3*y1*y1*y1*y2*y3*y3*y3*d - x3*x3*y1*y1*y1*y2*y3 + x3*x3*y1*y2*y3*y3*y3*d + x3*x3*y1*y2*y3 + y1*y1*y1*y2*y3*y3*y3 - y1*y1*y1*y2*y3 - y1*y2*y3*y3*y3 + y1*y2*y3) = b at *
  generalize (- x1*x1*x1*x2*x2*x2*y3 - x1*x1*x1*x2*x2*x3*y2 + x1*x1*x1*x2*y2*y2*y3 - x1*x1*x1*x2*y3 + x1*x1*x1*x3*y2*y2*y2 - x1*x1*x1*x3*y2 - x1*x1*x2*x2*x2*x3*y1 - x1*x1*x2*x2*y1*y2*y3*d - x1*x1*x2*x2*y1*y2*y3 + x1*x1*x2*x3*y1*y2*y2*d + x1*x1*x2*x3*y1*y2*y2 - x1*x1*x2*x3*y1 + x1*x1*y1*y2*y2*y2*y3 - x1*x1*y1*y2*y3 + x1*x2*x2*x2*y1*y1*y3 - x1*x2*x2*x2*y3 + x1*x2*x2*x3*y1*y1*y2*d + x1*x2*x2*x3*y1*y1*y2 - x1*x2*x2*x3*y2 - x1*x2*y1*y1*y2*y2*y3*d - x1*x2*y1*y1*y2*y2*y3 + x1*x2*y1*y1*y3 + x1*x2*y2*y2*y3 - x1*x2*y3 - x1*x3*y1*y1*y2*y2*y2 + x1*x3*y1*y1*y2 + x1*x3*y2*y2*y2 - x1*x3*y2 + x2*x2*x2*x3*y1*y1*y1 - x2*x2*x2*x3*y1 + x2*x2*y1*y1*y1*y2*y3 - x2*x2*y1*y2*y3 - x2*x3*y1*y1*y1*y2*y2 + x2*x3*y1*y1*y1 + x2*x3*y1*y2*y2 - x2*x3*y1 - y1*y1*y1*y2*y2*y2*y3 + y1*y1*y1*y2*y3 + y1*y2*y2*y2*y3 - y1*y2*y3) = c at *
  clear h1 h2 h3
  grind -lia -linarith
end Go.Proofs.Ytfknmccjfolhpaa
