/- Prime numbers: Euclid, Fermat, Pocklington; two numbers that are prime. No condition. -/
namespace Go.Proofs.Ytfdhfhgljhnhlaa

def IsPrime (p : Nat) : Prop := 2 ≤ p ∧ ∀ d, d ∣ p → d = 1 ∨ d = p
theorem prime_coprime {p a : Nat} (hp : IsPrime p) (h : ¬ p ∣ a) : Nat.gcd p a = 1 := by
  rcases hp.2 _ (Nat.gcd_dvd_left p a) with h1 | h1
  · exact h1
  · exact absurd (by have := Nat.gcd_dvd_right p a; rw [h1] at this; exact this) h
theorem prime_mul {p a b : Nat} (hp : IsPrime p) (h : p ∣ a * b) : p ∣ a ∨ p ∣ b := by
  by_cases ha : p ∣ a
  · exact Or.inl ha
  · exact Or.inr (Nat.Coprime.dvd_of_dvd_mul_left (prime_coprime hp ha) h)
theorem prime_pow {p a : Nat} (hp : IsPrime p) : ∀ n, p ∣ a ^ n → p ∣ a
  | 0, h => by
    rw [Nat.pow_zero] at h
    have := Nat.le_of_dvd (by omega) h
    have := hp.1; omega
  | n + 1, h => by
    rw [Nat.pow_succ] at h
    rcases prime_mul hp h with h | h
    · exact prime_pow hp n h
    · exact h
theorem prime_factor (n : Nat) : 2 ≤ n → ∃ p, IsPrime p ∧ p ∣ n := by
  induction n using Nat.strongRecOn with
  | _ n ih =>
    intro h
    by_cases hp : IsPrime n
    · exact ⟨n, hp, Nat.dvd_refl n⟩
    · have : ∃ d, d ∣ n ∧ d ≠ 1 ∧ d ≠ n := by
        refine Classical.byContradiction fun hn => hp ⟨h, fun d hd => ?_⟩
        by_cases h1 : d = 1
        · exact .inl h1
        · by_cases h2 : d = n
          · exact .inr h2
          · exact (hn ⟨d, hd, h1, h2⟩).elim
      obtain ⟨d, hd, h1, h2⟩ := this
      have hle := Nat.le_of_dvd (by omega) hd
      have hpos : 0 < d := Nat.pos_of_dvd_of_pos hd (by omega)
      obtain ⟨p, hp, hpd⟩ := ih d (by omega) (by omega)
      exact ⟨p, hp, Nat.dvd_trans hpd hd⟩

/-! ### Lists -/
theorem perm_sub : ∀ {l m : List Nat}, l.Nodup → (∀ x ∈ l, x ∈ m) → m.length ≤ l.length → l.Perm m := by
  intro l
  induction l with
  | nil =>
    intro m _ _ hn
    cases m with
    | nil => exact .nil
    | cons a m => simp at hn
  | cons a l ih =>
    intro m hl hs hn
    have ha := hs a (by simp)
    have hp := List.perm_cons_erase ha
    have hl' := List.nodup_cons.1 hl
    refine .trans (.cons a (ih hl'.2 ?_ ?_)) hp.symm
    · intro x hx
      have hne : x ≠ a := fun e => hl'.1 (e ▸ hx)
      exact (List.mem_erase_of_ne hne).2 (hs x (by simp [hx]))
    · have := hp.length_eq
      simp only [List.length_cons] at this hn
      omega
/-- Holes and pigeons. -/
theorem holes {α : Type} [DecidableEq α] : ∀ {l m : List α}, l.Nodup → (∀ x ∈ l, x ∈ m) → l.length ≤ m.length := by
  intro l
  induction l with
  | nil => intro m _ _; simp
  | cons a l ih =>
    intro m hl hs
    have ha := hs a (by simp)
    have hp := List.perm_cons_erase ha
    have hl' := List.nodup_cons.1 hl
    have := ih (m := m.erase a) hl'.2 fun x hx => (List.mem_erase_of_ne (fun e => hl'.1 (by rw [← e]; exact hx))).2 (hs x (by simp [hx]))
    have := hp.length_eq
    simp only [List.length_cons] at *
    omega

/-! ### Fermat -/
def prodL : List Nat → Nat
  | [] => 1
  | a :: l => a * prodL l
theorem prodL_perm {l m : List Nat} (h : l.Perm m) : prodL l = prodL m := by
  induction h with
  | nil => rfl
  | cons a _ ih => simp only [prodL, ih]
  | swap a b l => simp only [prodL]; exact Nat.mul_left_comm _ _ _
  | trans _ _ h1 h2 => exact h1.trans h2
theorem prod_map (p x : Nat) : ∀ l : List Nat, prodL (l.map fun i => x * i % p) % p = x ^ l.length * prodL l % p
  | [] => by simp [prodL]
  | a :: l => by
    have ih := prod_map p x l
    simp only [List.map_cons, prodL, List.length_cons]
    rw [Nat.mul_mod, ih, Nat.mod_mod, ← Nat.mul_mod, Nat.pow_succ]
    congr 1
    simp only [Nat.mul_assoc, Nat.mul_left_comm, Nat.mul_comm]
theorem prime_prod {p : Nat} (hp : IsPrime p) : ∀ l : List Nat, p ∣ prodL l → ∃ a ∈ l, p ∣ a
  | [], h => by
    have := Nat.le_of_dvd (by decide) (show p ∣ 1 from h)
    have := hp.1
    omega
  | a :: l, h => by
    rcases prime_mul hp h with h | h
    · exact ⟨a, by simp, h⟩
    · obtain ⟨b, hb, hd⟩ := prime_prod hp l h
      exact ⟨b, by simp [hb], hd⟩
theorem mod_sub {p a b : Nat} (h : a % p = b % p) : p ∣ a - b := by
  by_cases hl : b ≤ a
  · refine Nat.dvd_of_mod_eq_zero ?_
    exact Nat.sub_mod_eq_zero_of_mod_eq h
  · rw [show a - b = 0 by omega]; exact Nat.dvd_zero p
theorem inj_mod {p x i j : Nat} (hp : IsPrime p) (hx : ¬ p ∣ x) (hi : i < p) (hj : j < p) (hij : j ≤ i) (e : x * i % p = x * j % p) : i = j := by
  have h := mod_sub e
  rw [← Nat.mul_sub] at h
  rcases prime_mul hp h with h | h
  · exact (hx h).elim
  · have := Nat.eq_zero_of_dvd_of_lt h (by omega)
    omega
theorem fermat {p x : Nat} (hp : IsPrime p) (hx : ¬ p ∣ x) : x ^ (p - 1) % p = 1 := by
  have h2 := hp.1
  have hmem : ∀ i, i ∈ List.range' 1 (p - 1) ↔ 1 ≤ i ∧ i < p := fun i => by
    rw [List.mem_range'_1]; omega
  have hperm : ((List.range' 1 (p - 1)).map fun i => x * i % p).Perm (List.range' 1 (p - 1)) := by
    refine perm_sub ?_ ?_ (by simp)
    · rw [List.Nodup, List.pairwise_map]
      refine List.Pairwise.imp_of_mem ?_ (List.nodup_range' (s := 1) (n := p - 1))
      intro a b ha hb hab e
      have ha := (hmem a).1 ha
      have hb := (hmem b).1 hb
      rcases Nat.le_total a b with h | h
      · exact hab (inj_mod hp hx hb.2 ha.2 h e.symm).symm
      · exact hab (inj_mod hp hx ha.2 hb.2 h e)
    · intro y hy
      obtain ⟨i, hi, rfl⟩ := List.mem_map.1 hy
      have hi := (hmem i).1 hi
      refine (hmem _).2 ⟨?_, Nat.mod_lt _ (by omega)⟩
      rcases Nat.eq_zero_or_pos (x * i % p) with h | h
      · rcases prime_mul hp (Nat.dvd_of_mod_eq_zero h) with h | h
        · exact (hx h).elim
        · have := Nat.le_of_dvd (by omega) h
          omega
      · exact h
  have h := prod_map p x (List.range' 1 (p - 1))
  rw [prodL_perm hperm, List.length_range'] at h
  have hF : ¬ p ∣ prodL (List.range' 1 (p - 1)) := fun hd => by
    obtain ⟨a, ha, hd⟩ := prime_prod hp _ hd
    have ha := (hmem a).1 ha
    have := Nat.le_of_dvd (by omega) hd
    omega
  have hx0 : 1 ≤ x ^ (p - 1) := Nat.pow_pos (Nat.pos_of_ne_zero fun e => hx (e ▸ Nat.dvd_zero p))
  have hd := mod_sub h.symm
  rw [show x ^ (p - 1) * prodL (List.range' 1 (p - 1)) - prodL (List.range' 1 (p - 1)) = (x ^ (p - 1) - 1) * prodL (List.range' 1 (p - 1)) by rw [Nat.sub_mul, Nat.one_mul]] at hd
  rcases prime_mul hp hd with hd | hd
  · obtain ⟨k, hk⟩ := hd
    rw [show x ^ (p - 1) = 1 + p * k by omega, Nat.add_mul_mod_self_left, Nat.mod_eq_of_lt (by omega)]
  · exact (hF hd).elim

/-! ### Pocklington -/
theorem pow_one_mod {p x : Nat} (n : Nat) (h : x % p = 1) (h2 : 2 ≤ p) : x ^ n % p = 1 := by
  rw [Nat.pow_mod, h, Nat.one_pow, Nat.mod_eq_of_lt (by omega)]
theorem pow_gcd {p x : Nat} (h2 : 2 ≤ p) (m n : Nat) : x ^ m % p = 1 → x ^ n % p = 1 → x ^ Nat.gcd m n % p = 1 := by
  induction m, n using Nat.gcd.induction with
  | H0 n => intro _ h; rw [Nat.gcd_zero_left]; exact h
  | H1 m n hm ih =>
    intro h1 h3
    rw [Nat.gcd_rec]
    refine ih ?_ h1
    have e : x ^ n = (x ^ m) ^ (n / m) * x ^ (n % m) := by
      rw [← Nat.pow_mul, ← Nat.pow_add, Nat.div_add_mod]
    rw [e, Nat.mul_mod, pow_one_mod _ h1 h2, Nat.one_mul, Nat.mod_mod] at h3
    exact h3
theorem pock_step {p q x : Nat} (hp : IsPrime p) (hq : IsPrime q) (h1 : x ^ q % p = 1) (h2 : x % p ≠ 1) : q ∣ p - 1 := by
  have hp2 := hp.1
  have hq2 := hq.1
  have hx : ¬ p ∣ x := fun h => by
    have : p ∣ x ^ q := Nat.dvd_trans h (by obtain ⟨k, rfl⟩ : ∃ k, q = k + 1 := ⟨q - 1, by omega⟩; rw [Nat.pow_succ]; exact Nat.dvd_mul_left _ _)
    rw [Nat.mod_eq_zero_of_dvd this] at h1
    cases h1
  refine Classical.byContradiction fun hn => ?_
  have hg := prime_coprime hq hn
  have := pow_gcd hp2 q (p - 1) h1 (fermat hp hx)
  rw [hg, Nat.pow_one] at this
  exact h2 this
/-- b to the e, modulo n: e of at most so many bits. -/
def powm (n : Nat) : Nat → Nat → Nat → Nat
  | 0, _, _ => 1
  | k + 1, b, e => bif Nat.beq (e % 2) 1 then b * powm n k (b * b % n) (e / 2) % n else powm n k (b * b % n) (e / 2)
theorem powm_ok {n : Nat} : ∀ (k b e : Nat), e < 2 ^ k → powm n k b e % n = b ^ e % n
  | 0, b, e, h => by
    have : e = 0 := by rw [Nat.pow_zero] at h; omega
    subst this; rfl
  | k + 1, b, e, h => by
    have ih := powm_ok (n := n) k (b * b % n) (e / 2) (by rw [Nat.pow_succ] at h; omega)
    have e1 : (b * b) ^ (e / 2) = b ^ (2 * (e / 2)) := by rw [← Nat.pow_two, ← Nat.pow_mul]
    rw [← Nat.pow_mod, e1] at ih
    unfold powm
    cases hb : Nat.beq (e % 2) 1 with
    | true =>
      have hb : e % 2 = 1 := Nat.eq_of_beq_eq_true hb
      rw [cond_true, Nat.mod_mod, Nat.mul_mod, ih, ← Nat.mul_mod, Nat.mul_comm b, ← Nat.pow_succ, show (2 * (e / 2)).succ = e by omega]
    | false =>
      have hb : e % 2 ≠ 1 := fun h => by rw [h] at hb; cases hb
      rw [cond_false, ih, show 2 * (e / 2) = e by omega]
def pockB (n : Nat) : List Nat → Bool
  | [] => true
  | q :: qs => Nat.beq ((n - 1) % q) 0 && Nat.beq (Nat.gcd (powm n 256 2 ((n - 1) / q) % n + (n - 1)) n) 1 && pockB n qs
def allPrime : List Nat → Prop
  | [] => True
  | q :: qs => IsPrime q ∧ allPrime qs
def apartB : List Nat → Bool
  | [] => true
  | q :: qs => Nat.beq (Nat.gcd q (prodL qs)) 1 && apartB qs
theorem prod_dvd {m : Nat} : ∀ qs : List Nat, apartB qs = true → (∀ q ∈ qs, q ∣ m) → prodL qs ∣ m
  | [], _, _ => Nat.one_dvd m
  | q :: qs, h, hd => by
    simp only [apartB, Bool.and_eq_true] at h
    exact Nat.Coprime.mul_dvd_of_dvd_of_dvd (Nat.eq_of_beq_eq_true h.1) (hd q (by simp)) (prod_dvd qs h.2 fun r hr => hd r (by simp [hr]))
theorem pock_mem {n p : Nat} (hp : IsPrime p) (hpn : p ∣ n) (hn : 2 ≤ n) (hlt : n < 2 ^ 256) (h2 : powm n 256 2 (n - 1) % n = 1) : ∀ qs : List Nat, allPrime qs → pockB n qs = true → ∀ q ∈ qs, q ∣ p - 1
  | [], _, _, q, hq => by cases hq
  | q :: qs, ha, hb, r, hr => by
    simp only [pockB, Bool.and_eq_true] at hb
    obtain ⟨⟨b1, b2⟩, b3⟩ := hb
    rcases List.mem_cons.1 hr with rfl | hr
    · have b1 := Nat.eq_of_beq_eq_true b1
      have b2 := Nat.eq_of_beq_eq_true b2
      have hp2 := hp.1
      have hm : ∀ a : Nat, a % n % p = a % p := fun a => Nat.mod_mod_of_dvd a hpn
      have hdiv : (n - 1) / r < 2 ^ 256 := Nat.lt_of_le_of_lt (Nat.div_le_self _ _) (by omega)
      rw [powm_ok _ _ _ hdiv] at b2
      rw [powm_ok _ _ _ (by omega)] at h2
      refine pock_step (x := 2 ^ ((n - 1) / r)) hp ha.1 ?_ ?_
      · rw [← Nat.pow_mul, Nat.div_mul_cancel (Nat.dvd_of_mod_eq_zero b1), ← hm, h2, Nat.mod_eq_of_lt (by omega)]
      · intro e
        have : p ∣ Nat.gcd (2 ^ ((n - 1) / r) % n + (n - 1)) n := by
          refine Nat.dvd_gcd ?_ hpn
          refine Nat.dvd_of_mod_eq_zero ?_
          obtain ⟨k, hk⟩ := hpn
          rw [Nat.add_mod, hm, e]
          have hk1 : 1 ≤ k := Nat.pos_of_ne_zero fun h0 => by subst h0; omega
          obtain ⟨j, rfl⟩ : ∃ j, k = j + 1 := ⟨k - 1, by omega⟩
          rw [show n - 1 = p * j + (p - 1) by rw [hk, Nat.mul_add]; omega, Nat.mul_add_mod, Nat.mod_eq_of_lt (show p - 1 < p by omega), show 1 + (p - 1) = p by omega, Nat.mod_self]
        rw [b2] at this
        have := Nat.le_of_dvd (by omega) this
        omega
    · exact pock_mem hp hpn hn hlt h2 qs ha.2 b3 r hr
theorem pocklington {n : Nat} (qs : List Nat) (hn : 2 ≤ n) (hlt : n < 2 ^ 256) (h2 : powm n 256 2 (n - 1) % n = 1) (ha : allPrime qs) (hb : pockB n qs = true) (hc : apartB qs = true) (hF : n < (prodL qs + 1) * (prodL qs + 1)) : IsPrime n := by
  refine ⟨hn, fun d hd => ?_⟩
  refine Classical.byContradiction fun hno => ?_
  have h1 : d ≠ 1 := fun e => hno (.inl e)
  have hdn : d ≠ n := fun e => hno (.inr e)
  obtain ⟨e, he⟩ := hd
  have key : ∃ a, 2 ≤ a ∧ a * a ≤ n ∧ a ∣ n := by
    have hd0 : d ≠ 0 := fun h => by rw [h, Nat.zero_mul] at he; omega
    have he0 : e ≠ 0 := fun h => by rw [h, Nat.mul_zero] at he; omega
    have he1 : e ≠ 1 := fun h => by rw [h, Nat.mul_one] at he; exact hdn he.symm
    rcases Nat.le_total d e with h | h
    · exact ⟨d, by omega, by rw [he]; exact Nat.mul_le_mul_left d h, ⟨e, he⟩⟩
    · exact ⟨e, by omega, by rw [he]; exact Nat.mul_le_mul_right e h, ⟨d, by rw [he, Nat.mul_comm]⟩⟩
  obtain ⟨a, a2, aa, an⟩ := key
  obtain ⟨p, hp, hpa⟩ := prime_factor a a2
  have hle := Nat.le_of_dvd (by omega) hpa
  have hdv := prod_dvd qs hc (pock_mem hp (Nat.dvd_trans hpa an) hn hlt h2 qs ha hb)
  have hp2 := hp.1
  have hle2 := Nat.le_of_dvd (by omega) hdv
  have : (prodL qs + 1) * (prodL qs + 1) ≤ a * a := Nat.mul_le_mul (by omega) (by omega)
  omega
/-- Small primes, by trial. -/
def trial (n : Nat) : Nat → Nat → Bool
  | 0, _ => false
  | k + 1, d => bif Nat.blt n (d * d) then true else !Nat.beq (n % d) 0 && trial n k (d + 1)
theorem trial_ok {n : Nat} : ∀ (k d : Nat), trial n k d = true → ∃ m, n < m * m ∧ ∀ a, d ≤ a → a < m → ¬ a ∣ n
  | 0, d, h => by cases h
  | k + 1, d, h => by
    unfold trial at h
    cases hb : Nat.blt n (d * d) with
    | true => exact ⟨d, by simpa using hb, fun a h1 h2 => by omega⟩
    | false =>
      rw [hb, cond_false, Bool.and_eq_true] at h
      obtain ⟨m, hm, ha⟩ := trial_ok k (d + 1) h.2
      refine ⟨m, hm, fun a h1 h2 hd => ?_⟩
      rcases Nat.lt_or_eq_of_le h1 with h3 | rfl
      · exact ha a h3 h2 hd
      · rw [Nat.mod_eq_zero_of_dvd hd] at h
        cases h.1
theorem trial_prime {n : Nat} (k : Nat) (hn : 2 ≤ n) (h : trial n k 2 = true) : IsPrime n := by
  obtain ⟨m, hm, ha⟩ := trial_ok k 2 h
  refine ⟨hn, fun d hd => ?_⟩
  refine Classical.byContradiction fun hno => ?_
  have h1 : d ≠ 1 := fun e => hno (.inl e)
  have hdn : d ≠ n := fun e => hno (.inr e)
  obtain ⟨e, he⟩ := hd
  have hd0 : d ≠ 0 := fun h => by rw [h, Nat.zero_mul] at he; omega
  have he0 : e ≠ 0 := fun h => by rw [h, Nat.mul_zero] at he; omega
  have he1 : e ≠ 1 := fun h => by rw [h, Nat.mul_one] at he; exact hdn he.symm
  by_cases hdm : d < m
  · exact ha d (by omega) hdm ⟨e, he⟩
  · by_cases hem : e < m
    · exact ha e (by omega) hem ⟨d, by rw [he, Nat.mul_comm]⟩
    · have : m * m ≤ d * e := Nat.mul_le_mul (by omega) (by omega)
      omega
theorem prime_3 : IsPrime 3 := trial_prime 800 (by decide) (by decide +kernel)
theorem prime_353 : IsPrime 353 := trial_prime 800 (by decide) (by decide +kernel)
theorem prime_57467 : IsPrime 57467 := trial_prime 800 (by decide) (by decide +kernel)
theorem prime_132049 : IsPrime 132049 := trial_prime 800 (by decide) (by decide +kernel)
theorem prime_3727 : IsPrime 3727 := trial_prime 800 (by decide) (by decide +kernel)
theorem prime_1923133 : IsPrime 1923133 := pocklington [3727] (by decide) (by decide +kernel) (by decide +kernel) ⟨prime_3727, trivial⟩ (by decide +kernel) (by decide +kernel) (by decide +kernel)
theorem prime_31 : IsPrime 31 := trial_prime 800 (by decide) (by decide +kernel)
theorem prime_107 : IsPrime 107 := trial_prime 800 (by decide) (by decide +kernel)
theorem prime_223 : IsPrime 223 := trial_prime 800 (by decide) (by decide +kernel)
theorem prime_4153 : IsPrime 4153 := trial_prime 800 (by decide) (by decide +kernel)
theorem prime_31757755568855353 : IsPrime 31757755568855353 := pocklington [31, 107, 223, 4153] (by decide) (by decide +kernel) (by decide +kernel) ⟨prime_31, ⟨prime_107, ⟨prime_223, ⟨prime_4153, trivial⟩⟩⟩⟩ (by decide +kernel) (by decide +kernel) (by decide +kernel)
theorem prime_74058212732561358302231226437062788676166966415465897661863160754340907 : IsPrime 74058212732561358302231226437062788676166966415465897661863160754340907 := pocklington [3, 353, 57467, 132049, 1923133, 31757755568855353] (by decide) (by decide +kernel) (by decide +kernel) ⟨prime_3, ⟨prime_353, ⟨prime_57467, ⟨prime_132049, ⟨prime_1923133, ⟨prime_31757755568855353, trivial⟩⟩⟩⟩⟩⟩ (by decide +kernel) (by decide +kernel) (by decide +kernel)
theorem prime_P : IsPrime 57896044618658097711785492504343953926634992332820282019728792003956564819949 := pocklington [74058212732561358302231226437062788676166966415465897661863160754340907] (by decide) (by decide +kernel) (by decide +kernel) ⟨prime_74058212732561358302231226437062788676166966415465897661863160754340907, trivial⟩ (by decide +kernel) (by decide +kernel) (by decide +kernel)
theorem prime_7 : IsPrime 7 := trial_prime 800 (by decide) (by decide +kernel)
theorem prime_23 : IsPrime 23 := trial_prime 800 (by decide) (by decide +kernel)
theorem prime_531581 : IsPrime 531581 := trial_prime 800 (by decide) (by decide +kernel)
theorem prime_1257559732178653 : IsPrime 1257559732178653 := pocklington [7, 23, 531581] (by decide) (by decide +kernel) (by decide +kernel) ⟨prime_7, ⟨prime_23, ⟨prime_531581, trivial⟩⟩⟩ (by decide +kernel) (by decide +kernel) (by decide +kernel)
theorem prime_4434155615661930479 : IsPrime 4434155615661930479 := pocklington [1257559732178653] (by decide) (by decide +kernel) (by decide +kernel) ⟨prime_1257559732178653, trivial⟩ (by decide +kernel) (by decide +kernel) (by decide +kernel)
theorem prime_172054593956031949258510691 : IsPrime 172054593956031949258510691 := pocklington [4434155615661930479] (by decide) (by decide +kernel) (by decide +kernel) ⟨prime_4434155615661930479, trivial⟩ (by decide +kernel) (by decide +kernel) (by decide +kernel)
theorem prime_19757330305831588566944191468367130476339 : IsPrime 19757330305831588566944191468367130476339 := pocklington [172054593956031949258510691] (by decide) (by decide +kernel) (by decide +kernel) ⟨prime_172054593956031949258510691, trivial⟩ (by decide +kernel) (by decide +kernel) (by decide +kernel)
theorem prime_276602624281642239937218680557139826668747 : IsPrime 276602624281642239937218680557139826668747 := pocklington [19757330305831588566944191468367130476339] (by decide) (by decide +kernel) (by decide +kernel) ⟨prime_19757330305831588566944191468367130476339, trivial⟩ (by decide +kernel) (by decide +kernel) (by decide +kernel)
theorem prime_L : IsPrime 7237005577332262213973186563042994240857116359379907606001950938285454250989 := pocklington [276602624281642239937218680557139826668747] (by decide) (by decide +kernel) (by decide +kernel) ⟨prime_276602624281642239937218680557139826668747, trivial⟩ (by decide +kernel) (by decide +kernel) (by decide +kernel)
end Go.Proofs.Ytfdhfhgljhnhlaa
/- The curve of Edwards modulo P, a group: sums of points, their laws. No condition. -/
namespace Go.Proofs.Ytfdhfhgljhnhlaa
instance instP : NeZero 57896044618658097711785492504343953926634992332820282019728792003956564819949 := ⟨by decide⟩
abbrev K := Fin 57896044618658097711785492504343953926634992332820282019728792003956564819949
def kap (n : Nat) : K := Fin.ofNat 57896044618658097711785492504343953926634992332820282019728792003956564819949 n
theorem kap_v (n : Nat) : (kap n).val = n % 57896044618658097711785492504343953926634992332820282019728792003956564819949 := rfl
theorem kap_eq {a b : Nat} (h : a % 57896044618658097711785492504343953926634992332820282019728792003956564819949 = b % 57896044618658097711785492504343953926634992332820282019728792003956564819949) : kap a = kap b := Fin.ext h
theorem kap_mod (a : Nat) : kap (a % 57896044618658097711785492504343953926634992332820282019728792003956564819949) = kap a := kap_eq (Nat.mod_mod _ _)
theorem kap_inj {a b : Nat} (h : kap a = kap b) : a % 57896044618658097711785492504343953926634992332820282019728792003956564819949 = b % 57896044618658097711785492504343953926634992332820282019728792003956564819949 := congrArg Fin.val h
theorem kap_add (a b : Nat) : kap (a + b) = kap a + kap b := Fin.ext (by show (a + b) % 57896044618658097711785492504343953926634992332820282019728792003956564819949 = (a % 57896044618658097711785492504343953926634992332820282019728792003956564819949 + b % 57896044618658097711785492504343953926634992332820282019728792003956564819949) % 57896044618658097711785492504343953926634992332820282019728792003956564819949; rw [Nat.add_mod])
theorem kap_mul (a b : Nat) : kap (a * b) = kap a * kap b := Fin.ext (by show (a * b) % 57896044618658097711785492504343953926634992332820282019728792003956564819949 = (a % 57896044618658097711785492504343953926634992332820282019728792003956564819949 * (b % 57896044618658097711785492504343953926634992332820282019728792003956564819949)) % 57896044618658097711785492504343953926634992332820282019728792003956564819949; rw [Nat.mul_mod])
theorem kap_val (a : K) : kap a.val = a := Fin.ext (Nat.mod_eq_of_lt a.isLt)
theorem kap_0 : kap 0 = 0 := rfl
theorem kap_1 : kap 1 = 1 := rfl
theorem kap_zero {a : Nat} (h : kap a = 0) : 57896044618658097711785492504343953926634992332820282019728792003956564819949 ∣ a := Nat.dvd_of_mod_eq_zero (congrArg Fin.val h)
theorem K_mul0 {a b : K} (h : a * b = 0) : a = 0 ∨ b = 0 := by
  have h : 57896044618658097711785492504343953926634992332820282019728792003956564819949 ∣ a.val * b.val := Nat.dvd_of_mod_eq_zero (congrArg Fin.val h)
  rcases prime_mul prime_P h with h | h
  · exact .inl (Fin.ext (Nat.eq_zero_of_dvd_of_lt h a.isLt))
  · exact .inr (Fin.ext (Nat.eq_zero_of_dvd_of_lt h b.isLt))
theorem K_ne {a b : K} (ha : a ≠ 0) (hb : b ≠ 0) : a * b ≠ 0 := fun h => (K_mul0 h).elim ha hb
theorem K_cancel {a b c : K} (hc : c ≠ 0) (h : a * c = b * c) : a = b := by
  have : (a - b) * c = 0 := by grind -lia -linarith
  rcases K_mul0 this with h | h
  · grind -lia -linarith
  · exact (hc h).elim
theorem kap_pow (a : Nat) : ∀ n, kap (a ^ n) = kap a ^ n
  | 0 => by rw [Nat.pow_zero]; exact kap_1.trans (by grind -lia -linarith)
  | n + 1 => by rw [Nat.pow_succ, kap_mul, kap_pow a n]; grind -lia -linarith
theorem K_inv {a : K} (h : a ≠ 0) : ∃ b : K, a * b = 1 := by
  have hx : ¬ 57896044618658097711785492504343953926634992332820282019728792003956564819949 ∣ a.val := fun hd => h (Fin.ext (Nat.eq_zero_of_dvd_of_lt hd a.isLt))
  have hf := fermat prime_P hx
  obtain ⟨n, hn⟩ : ∃ n, 57896044618658097711785492504343953926634992332820282019728792003956564819949 - 1 = n + 1 := ⟨57896044618658097711785492504343953926634992332820282019728792003956564819949 - 2, rfl⟩
  rw [hn] at hf
  refine ⟨kap (a.val ^ n), ?_⟩
  have e : a * kap (a.val ^ n) = kap (a.val * a.val ^ n) := by rw [kap_mul, kap_val]
  rw [e]
  refine Fin.ext ?_
  show a.val * a.val ^ n % 57896044618658097711785492504343953926634992332820282019728792003956564819949 = 1
  rw [Nat.mul_comm, ← Nat.pow_succ]
  exact hf
open Classical in
noncomputable def kinv (a : K) : K := if h : ∃ b : K, a * b = 1 then choose h else 0
theorem kinv_ok {a : K} (h : a ≠ 0) : a * kinv a = 1 := by
  unfold kinv
  rw [dif_pos (K_inv h)]
  exact Classical.choose_spec (K_inv h)
theorem kinv_0 : kinv 0 = 0 := by
  unfold kinv
  rw [dif_neg]
  rintro ⟨b, hb⟩
  have : (0 : K) * b = 0 := by grind -lia -linarith
  rw [this] at hb
  exact absurd (congrArg Fin.val hb) (by decide)
theorem kinv_of {a b : K} (h : a * b = 1) : b = kinv a := by
  have ha : a ≠ 0 := fun e => by
    subst e
    have : (0 : K) * b = 0 := by grind -lia -linarith
    rw [this] at h
    exact absurd (congrArg Fin.val h) (by decide)
  refine K_cancel ha ?_
  have := kinv_ok ha
  grind -lia -linarith

/-! ### Sums -/
def On (d x y : K) : Prop := y * y - x * x = 1 + d * (x * x) * (y * y)
theorem On_e {d x y : K} (h : On d x y) : y * y - x * x - 1 - d * x * x * y * y = 0 := by unfold On at h; grind -lia -linarith
/-- What makes the sums' denominators not nought. -/
theorem complete {d i x1 y1 x2 y2 e : K} (hi : i * i = -1) (hd : ∀ s, s * s ≠ d) (h1 : On d x1 y1) (h2 : On d x2 y2) (he : e * e = 1) : d * x1 * x2 * y1 * y2 ≠ e := by
  intro hE
  have h1 := On_e h1
  have h2 := On_e h2
  have no : ∀ u v : K, u * u = d * (v * v) → v = 0 := fun u v h => by
    refine Classical.byContradiction fun hv => ?_
    have hk := kinv_ok hv
    refine hd (u * kinv v) ?_
    have : u * kinv v * (u * kinv v) = d * ((v * kinv v) * (v * kinv v)) := by grind -lia -linarith
    rw [this, hk]; grind -lia -linarith
  have hx1 : x1 ≠ 0 := by rintro rfl; have : e = 0 := by grind -lia -linarith
                          subst this; exact absurd (congrArg Fin.val he) (by decide)
  have hy1 : y1 ≠ 0 := by rintro rfl; have : e = 0 := by grind -lia -linarith
                          subst this; exact absurd (congrArg Fin.val he) (by decide)
  have hx2 : x2 ≠ 0 := by rintro rfl; have : e = 0 := by grind -lia -linarith
                          subst this; exact absurd (congrArg Fin.val he) (by decide)
  have a1 : (i * x1 + e * y1) * (i * x1 + e * y1) = d * ((x1 * y1 * (y2 + i * x2)) * (x1 * y1 * (y2 + i * x2))) := by
    have l : (i * x1 + e * y1) * (i * x1 + e * y1) = 1 + d * x1 * x1 * y1 * y1 + 2 * i * e * x1 * y1 := by grind -lia -linarith
    have r : d * ((x1 * y1 * (y2 + i * x2)) * (x1 * y1 * (y2 + i * x2))) = d * x1 * x1 * y1 * y1 + e * e + 2 * i * e * x1 * y1 := by grind -lia -linarith
    rw [l, r, he]; grind -lia -linarith
  have a2 : (i * x1 - e * y1) * (i * x1 - e * y1) = d * ((x1 * y1 * (y2 - i * x2)) * (x1 * y1 * (y2 - i * x2))) := by
    have l : (i * x1 - e * y1) * (i * x1 - e * y1) = 1 + d * x1 * x1 * y1 * y1 - 2 * i * e * x1 * y1 := by grind -lia -linarith
    have r : d * ((x1 * y1 * (y2 - i * x2)) * (x1 * y1 * (y2 - i * x2))) = d * x1 * x1 * y1 * y1 + e * e - 2 * i * e * x1 * y1 := by grind -lia -linarith
    rw [l, r, he]; grind -lia -linarith
  have b1 := (K_mul0 (no _ _ a1)).resolve_left (K_ne hx1 hy1)
  have b2 := (K_mul0 (no _ _ a2)).resolve_left (K_ne hx1 hy1)
  have c : (2 * i) * x2 = 0 := by grind -lia -linarith
  refine (K_mul0 c).elim (fun h => ?_) hx2
  rcases K_mul0 h with h | h
  · exact absurd (congrArg Fin.val h) (by decide)
  · subst h
    have : (0 : K) = -1 := by grind -lia -linarith
    exact absurd (congrArg Fin.val this) (by decide)
theorem closed {d x1 y1 x2 y2 x y : K} (h1 : On d x1 y1) (h2 : On d x2 y2) (hp : 1 + d * x1 * x2 * y1 * y2 ≠ 0) (hm : 1 - d * x1 * x2 * y1 * y2 ≠ 0)
    (hx : x * (1 + d * x1 * x2 * y1 * y2) = x1 * y2 + x2 * y1) (hy : y * (1 - d * x1 * x2 * y1 * y2) = y1 * y2 + x1 * x2) : On d x y := by
  have h1 := On_e h1
  have h2 := On_e h2
  have key : (y1 * y2 + x1 * x2) * (y1 * y2 + x1 * x2) * ((1 + d * x1 * x2 * y1 * y2) * (1 + d * x1 * x2 * y1 * y2)) - (x1 * y2 + x2 * y1) * (x1 * y2 + x2 * y1) * ((1 - d * x1 * x2 * y1 * y2) * (1 - d * x1 * x2 * y1 * y2)) - (1 + d * x1 * x2 * y1 * y2) * (1 + d * x1 * x2 * y1 * y2) * ((1 - d * x1 * x2 * y1 * y2) * (1 - d * x1 * x2 * y1 * y2)) - d * ((x1 * y2 + x2 * y1) * (x1 * y2 + x2 * y1)) * ((y1 * y2 + x1 * x2) * (y1 * y2 + x1 * x2)) = 0 := by
    have : (y1 * y2 + x1 * x2) * (y1 * y2 + x1 * x2) * ((1 + d * x1 * x2 * y1 * y2) * (1 + d * x1 * x2 * y1 * y2)) - (x1 * y2 + x2 * y1) * (x1 * y2 + x2 * y1) * ((1 - d * x1 * x2 * y1 * y2) * (1 - d * x1 * x2 * y1 * y2)) - (1 + d * x1 * x2 * y1 * y2) * (1 + d * x1 * x2 * y1 * y2) * ((1 - d * x1 * x2 * y1 * y2) * (1 - d * x1 * x2 * y1 * y2)) - d * ((x1 * y2 + x2 * y1) * (x1 * y2 + x2 * y1)) * ((y1 * y2 + x1 * x2) * (y1 * y2 + x1 * x2)) = (x1*x1*x2*x2*x2*x2*y1*y1*y2*y2*y2*y2*d*d*d - x1*x1*x2*x2*x2*x2*y2*y2*y2*y2*d*d - x1*x1*x2*x2*x2*x2*y2*y2*d + x1*x1*x2*x2*y2*y2*y2*y2*d + x2*x2*x2*x2*y1*y1*y2*y2*y2*y2*d*d + x2*x2*x2*x2*y1*y1*y2*y2*d - x2*x2*x2*x2*y2*y2*y2*y2*d*d - 2*x2*x2*x2*x2*y2*y2*y2*y2*d - 2*x2*x2*x2*x2*y2*y2 + x2*x2*x2*x2 - x2*x2*y1*y1*y2*y2*y2*y2*d + 2*x2*x2*y2*y2*y2*y2 - 2*x2*x2*y2*y2*d - 4*x2*x2*y2*y2 + y2*y2*y2*y2) * (y1 * y1 - x1 * x1 - 1 - d * x1 * x1 * y1 * y1) + (x1*x1*x1*x1*x2*x2*y2*y2*d + 2*x1*x1*x2*x2*y2*y2*d + 2*x1*x1*x2*x2*y2*y2 - x1*x1*x2*x2 + x1*x1*y2*y2 + x2*x2*y1*y1*y1*y1*y2*y2*d - 2*x2*x2*y1*y1*y2*y2*d - 2*x2*x2*y1*y1*y2*y2 + x2*x2*y1*y1 + x2*x2*y2*y2*d + 2*x2*x2*y2*y2 - x2*x2 - y1*y1*y2*y2 + y2*y2 + 1) * (y2 * y2 - x2 * x2 - 1 - d * x2 * x2 * y2 * y2) := by
      clear h1 h2 hx hy hp hm
      grind -lia -linarith
    rw [this, h1, h2]; grind -lia -linarith
  rw [← hx, ← hy] at key
  unfold On
  generalize 1 + d * x1 * x2 * y1 * y2 = p at *
  generalize 1 - d * x1 * x2 * y1 * y2 = m at *
  have : (y * y - x * x - 1 - d * (x * x) * (y * y)) * ((p * p) * (m * m)) = y * m * (y * m) * (p * p) - x * p * (x * p) * (m * m) - p * p * (m * m) - d * (x * p * (x * p)) * (y * m * (y * m)) := by
    clear key h1 h2 hx hy hp hm
    grind -lia -linarith
  rw [key] at this
  have := (K_mul0 this).resolve_right (K_ne (K_ne hp hp) (K_ne hm hm))
  clear key h1 h2 hx hy hp hm
  grind -lia -linarith
theorem assocX {d x1 y1 x2 y2 x3 y3 : K} (h1 : On d x1 y1) (h2 : On d x2 y2) (h3 : On d x3 y3) :
    ((x1 * y2 + x2 * y1) * (1 - d * x1 * x2 * y1 * y2) * y3 + x3 * (y1 * y2 + x1 * x2) * (1 + d * x1 * x2 * y1 * y2)) * ((1 + d * x2 * x3 * y2 * y3) * (1 - d * x2 * x3 * y2 * y3) + d * (x2 * y3 + x3 * y2) * (y2 * y3 + x2 * x3) * x1 * y1) =
    (x1 * (y2 * y3 + x2 * x3) * (1 + d * x2 * x3 * y2 * y3) + (x2 * y3 + x3 * y2) * (1 - d * x2 * x3 * y2 * y3) * y1) * ((1 + d * x1 * x2 * y1 * y2) * (1 - d * x1 * x2 * y1 * y2) + d * (x1 * y2 + x2 * y1) * (y1 * y2 + x1 * x2) * x3 * y3) := by
  have h1 := On_e h1
  have h2 := On_e h2
  have h3 := On_e h3
  have : ((x1 * y2 + x2 * y1) * (1 - d * x1 * x2 * y1 * y2) * y3 + x3 * (y1 * y2 + x1 * x2) * (1 + d * x1 * x2 * y1 * y2)) * ((1 + d * x2 * x3 * y2 * y3) * (1 - d * x2 * x3 * y2 * y3) + d * (x2 * y3 + x3 * y2) * (y2 * y3 + x2 * x3) * x1 * y1) -
    (x1 * (y2 * y3 + x2 * x3) * (1 + d * x2 * x3 * y2 * y3) + (x2 * y3 + x3 * y2) * (1 - d * x2 * x3 * y2 * y3) * y1) * ((1 + d * x1 * x2 * y1 * y2) * (1 - d * x1 * x2 * y1 * y2) + d * (x1 * y2 + x2 * y1) * (y1 * y2 + x1 * x2) * x3 * y3) =
    (- x1*x2*x2*x2*x2*x3*x3*y2*y2*y2*y3*d*d - x1*x2*x2*x2*x2*x3*x3*y2*y3*d - x1*x2*x2*x2*x3*x3*x3*y2*y2*d - x1*x2*x2*x2*x3*y2*y2*y2*y2*y3*y3*d*d - x1*x2*x2*x2*x3*y2*y2*d + x1*x2*x2*y2*y2*y2*y3*y3*y3*d - x1*x2*x2*y2*y2*y2*y3*d + x1*x2*x3*y2*y2*y2*y2*y3*y3*d + x2*x2*x2*x2*x3*y1*y2*y2*y2*y3*y3*d*d + x2*x2*x2*x2*x3*y1*y2*y3*y3*d + x2*x2*x2*x3*x3*y1*y2*y2*y2*y2*y3*d*d + x2*x2*x2*y1*y2*y2*y3*y3*y3*d - x2*x2*x2*y1*y2*y2*y3*d - x2*x2*x3*x3*x3*y1*y2*y2*y2*d - x2*x2*x3*y1*y2*y2*y2*d - x2*x3*x3*y1*y2*y2*y2*y2*y3*d) * (y1 * y1 - x1 * x1 - 1 - d * x1 * x1 * y1 * y1) + (x1*x1*x1*x2*x2*x3*x3*y2*y3*d + x1*x1*x1*x2*x3*x3*x3*y3*y3*d + x1*x1*x1*x2*x3*x3*x3 + x1*x1*x1*x2*x3*y2*y2*y3*y3*d - x1*x1*x1*x2*x3*y3*y3 + x1*x1*x1*x2*x3 + x1*x1*x1*x3*x3*y2*y3*y3*y3*d + x1*x1*x1*x3*x3*y2*y3 - x1*x1*x1*y2*y3*y3*y3 + x1*x1*x1*y2*y3 + x1*x1*x2*x2*x3*x3*x3*y1*y2*y3*y3*d*d - x1*x1*x2*x2*x3*y1*y2*y3*y3*d - x1*x1*x2*x3*x3*y1*y2*y2*y3*y3*y3*d*d - x1*x1*x2*x3*x3*y1*y2*y2*y3*d + x1*x1*x2*x3*x3*y1*y3*y3*y3*d + x1*x1*x2*x3*x3*y1*y3 - x1*x1*x2*y1*y3*y3*y3 + x1*x1*x2*y1*y3 + x1*x1*x3*x3*x3*y1*y2*y3*y3*d + x1*x1*x3*x3*x3*y1*y2 - x1*x1*x3*y1*y2*y3*y3 + x1*x1*x3*y1*y2 - x1*x2*x2*x3*x3*y1*y1*y2*y3*y3*y3*d*d - x1*x2*x2*x3*x3*y1*y1*y2*y3*d + x1*x2*x2*x3*x3*y2*y3*d + x1*x2*x3*x3*x3*y1*y1*y2*y2*y3*y3*d*d - x1*x2*x3*x3*x3*y1*y1*y3*y3*d - x1*x2*x3*x3*x3*y1*y1 + x1*x2*x3*x3*x3*y3*y3*d + x1*x2*x3*x3*x3 - x1*x2*x3*y1*y1*y2*y2*y3*y3*d + x1*x2*x3*y1*y1*y3*y3 - x1*x2*x3*y1*y1 + x1*x2*x3*y2*y2*y3*y3*d - x1*x2*x3*y3*y3 + x1*x2*x3 - x1*x3*x3*y1*y1*y2*y3*y3*y3*d - x1*x3*x3*y1*y1*y2*y3 + x1*x3*x3*y2*y3*y3*y3*d + x1*x3*x3*y2*y3 + x1*y1*y1*y2*y3*y3*y3 - x1*y1*y1*y2*y3 - x1*y2*y3*y3*y3 + x1*y2*y3 + x2*x2*x3*y1*y1*y1*y2*y3*y3*d - x2*x2*x3*y1*y2*y3*y3*d + x2*x3*x3*y1*y1*y1*y2*y2*y3*d - x2*x3*x3*y1*y1*y1*y3*y3*y3*d - x2*x3*x3*y1*y1*y1*y3 - x2*x3*x3*y1*y2*y2*y3*d + x2*x3*x3*y1*y3*y3*y3*d + x2*x3*x3*y1*y3 + x2*y1*y1*y1*y3*y3*y3 - x2*y1*y1*y1*y3 - x2*y1*y3*y3*y3 + x2*y1*y3 - x3*x3*x3*y1*y1*y1*y2*y3*y3*d - x3*x3*x3*y1*y1*y1*y2 + x3*x3*x3*y1*y2*y3*y3*d + x3*x3*x3*y1*y2 + x3*y1*y1*y1*y2*y3*y3 - x3*y1*y1*y1*y2 - x3*y1*y2*y3*y3 + x3*y1*y2) * (y2 * y2 - x2 * x2 - 1 - d * x2 * x2 * y2 * y2) + (- x1*x1*x1*x2*x2*x2*x3 - x1*x1*x1*x2*x2*y2*y3 + x1*x1*x1*x2*x3*y2*y2 - x1*x1*x1*x2*x3 + x1*x1*x1*y2*y2*y2*y3 - x1*x1*x1*y2*y3 - x1*x1*x2*x2*x2*y1*y3 - x1*x1*x2*x2*x3*y1*y2*d - x1*x1*x2*x2*x3*y1*y2 + x1*x1*x2*y1*y2*y2*y3*d + x1*x1*x2*y1*y2*y2*y3 - x1*x1*x2*y1*y3 + x1*x1*x3*y1*y2*y2*y2 - x1*x1*x3*y1*y2 + x1*x2*x2*x2*x3*y1*y1 - x1*x2*x2*x2*x3 + x1*x2*x2*y1*y1*y2*y3*d + x1*x2*x2*y1*y1*y2*y3 - x1*x2*x2*y2*y3 - x1*x2*x3*y1*y1*y2*y2*d - x1*x2*x3*y1*y1*y2*y2 + x1*x2*x3*y1*y1 + x1*x2*x3*y2*y2 - x1*x2*x3 - x1*y1*y1*y2*y2*y2*y3 + x1*y1*y1*y2*y3 + x1*y2*y2*y2*y3 - x1*y2*y3 + x2*x2*x2*y1*y1*y1*y3 - x2*x2*x2*y1*y3 + x2*x2*x3*y1*y1*y1*y2 - x2*x2*x3*y1*y2 - x2*y1*y1*y1*y2*y2*y3 + x2*y1*y1*y1*y3 + x2*y1*y2*y2*y3 - x2*y1*y3 - x3*y1*y1*y1*y2*y2*y2 + x3*y1*y1*y1*y2 + x3*y1*y2*y2*y2 - x3*y1*y2) * (y3 * y3 - x3 * x3 - 1 - d * x3 * x3 * y3 * y3) := by
    clear h1 h2 h3
    grind -lia -linarith
  rw [h1, h2, h3] at this
  generalize ((x1 * y2 + x2 * y1) * (1 - d * x1 * x2 * y1 * y2) * y3 + x3 * (y1 * y2 + x1 * x2) * (1 + d * x1 * x2 * y1 * y2)) * ((1 + d * x2 * x3 * y2 * y3) * (1 - d * x2 * x3 * y2 * y3) + d * (x2 * y3 + x3 * y2) * (y2 * y3 + x2 * x3) * x1 * y1) = l at *
  generalize (x1 * (y2 * y3 + x2 * x3) * (1 + d * x2 * x3 * y2 * y3) + (x2 * y3 + x3 * y2) * (1 - d * x2 * x3 * y2 * y3) * y1) * ((1 + d * x1 * x2 * y1 * y2) * (1 - d * x1 * x2 * y1 * y2) + d * (x1 * y2 + x2 * y1) * (y1 * y2 + x1 * x2) * x3 * y3) = r at *
  generalize (- x1*x2*x2*x2*x2*x3*x3*y2*y2*y2*y3*d*d - x1*x2*x2*x2*x2*x3*x3*y2*y3*d - x1*x2*x2*x2*x3*x3*x3*y2*y2*d - x1*x2*x2*x2*x3*y2*y2*y2*y2*y3*y3*d*d - x1*x2*x2*x2*x3*y2*y2*d + x1*x2*x2*y2*y2*y2*y3*y3*y3*d - x1*x2*x2*y2*y2*y2*y3*d + x1*x2*x3*y2*y2*y2*y2*y3*y3*d + x2*x2*x2*x2*x3*y1*y2*y2*y2*y3*y3*d*d + x2*x2*x2*x2*x3*y1*y2*y3*y3*d + x2*x2*x2*x3*x3*y1*y2*y2*y2*y2*y3*d*d + x2*x2*x2*y1*y2*y2*y3*y3*y3*d - x2*x2*x2*y1*y2*y2*y3*d - x2*x2*x3*x3*x3*y1*y2*y2*y2*d - x2*x2*x3*y1*y2*y2*y2*d - x2*x3*x3*y1*y2*y2*y2*y2*y3*d) = a at *
  generalize (x1*x1*x1*x2*x2*x3*x3*y2*y3*d + x1*x1*x1*x2*x3*x3*x3*y3*y3*d + x1*x1*x1*x2*x3*x3*x3 + x1*x1*x1*x2*x3*y2*y2*y3*y3*d - x1*x1*x1*x2*x3*y3*y3 + x1*x1*x1*x2*x3 + x1*x1*x1*x3*x3*y2*y3*y3*y3*d + x1*x1*x1*x3*x3*y2*y3 - x1*x1*x1*y2*y3*y3*y3 + x1*x1*x1*y2*y3 + x1*x1*x2*x2*x3*x3*x3*y1*y2*y3*y3*d*d - x1*x1*x2*x2*x3*y1*y2*y3*y3*d - x1*x1*x2*x3*x3*y1*y2*y2*y3*y3*y3*d*d - x1*x1*x2*x3*x3*y1*y2*y2*y3*d + x1*x1*x2*x3*x3*y1*y3*y3*y3*d + x1*x1*x2*x3*x3*y1*y3 - x1*x1*x2*y1*y3*y3*y3 + x1*x1*x2*y1*y3 + x1*x1*x3*x3*x3*y1*y2*y3*y3*d + x1*x1*x3*x3*x3*y1*y2 - x1*x1*x3*y1*y2*y3*y3 + x1*x1*x3*y1*y2 - x1*x2*x2*x3*x3*y1*y1*y2*y3*y3*y3*d*d - x1*x2*x2*x3*x3*y1*y1*y2*y3*d + x1*x2*x2*x3*x3*y2*y3*d + x1*x2*x3*x3*x3*y1*y1*y2*y2*y3*y3*d*d - x1*x2*x3*x3*x3*y1*y1*y3*y3*d - x1*x2*x3*x3*x3*y1*y1 + x1*x2*x3*x3*x3*y3*y3*d + x1*x2*x3*x3*x3 - x1*x2*x3*y1*y1*y2*y2*y3*y3*d + x1*x2*x3*y1*y1*y3*y3 - x1*x2*x3*y1*y1 + x1*x2*x3*y2*y2*y3*y3*d - x1*x2*x3*y3*y3 + x1*x2*x3 - x1*x3*x3*y1*y1*y2*y3*y3*y3*d - x1*x3*x3*y1*y1*y2*y3 + x1*x3*x3*y2*y3*y3*y3*d + x1*x3*x3*y2*y3 + x1*y1*y1*y2*y3*y3*y3 - x1*y1*y1*y2*y3 - x1*y2*y3*y3*y3 + x1*y2*y3 + x2*x2*x3*y1*y1*y1*y2*y3*y3*d - x2*x2*x3*y1*y2*y3*y3*d + x2*x3*x3*y1*y1*y1*y2*y2*y3*d - x2*x3*x3*y1*y1*y1*y3*y3*y3*d - x2*x3*x3*y1*y1*y1*y3 - x2*x3*x3*y1*y2*y2*y3*d + x2*x3*x3*y1*y3*y3*y3*d + x2*x3*x3*y1*y3 + x2*y1*y1*y1*y3*y3*y3 - x2*y1*y1*y1*y3 - x2*y1*y3*y3*y3 + x2*y1*y3 - x3*x3*x3*y1*y1*y1*y2*y3*y3*d - x3*x3*x3*y1*y1*y1*y2 + x3*x3*x3*y1*y2*y3*y3*d + x3*x3*x3*y1*y2 + x3*y1*y1*y1*y2*y3*y3 - x3*y1*y1*y1*y2 - x3*y1*y2*y3*y3 + x3*y1*y2) = b at *
  generalize (- x1*x1*x1*x2*x2*x2*x3 - x1*x1*x1*x2*x2*y2*y3 + x1*x1*x1*x2*x3*y2*y2 - x1*x1*x1*x2*x3 + x1*x1*x1*y2*y2*y2*y3 - x1*x1*x1*y2*y3 - x1*x1*x2*x2*x2*y1*y3 - x1*x1*x2*x2*x3*y1*y2*d - x1*x1*x2*x2*x3*y1*y2 + x1*x1*x2*y1*y2*y2*y3*d + x1*x1*x2*y1*y2*y2*y3 - x1*x1*x2*y1*y3 + x1*x1*x3*y1*y2*y2*y2 - x1*x1*x3*y1*y2 + x1*x2*x2*x2*x3*y1*y1 - x1*x2*x2*x2*x3 + x1*x2*x2*y1*y1*y2*y3*d + x1*x2*x2*y1*y1*y2*y3 - x1*x2*x2*y2*y3 - x1*x2*x3*y1*y1*y2*y2*d - x1*x2*x3*y1*y1*y2*y2 + x1*x2*x3*y1*y1 + x1*x2*x3*y2*y2 - x1*x2*x3 - x1*y1*y1*y2*y2*y2*y3 + x1*y1*y1*y2*y3 + x1*y2*y2*y2*y3 - x1*y2*y3 + x2*x2*x2*y1*y1*y1*y3 - x2*x2*x2*y1*y3 + x2*x2*x3*y1*y1*y1*y2 - x2*x2*x3*y1*y2 - x2*y1*y1*y1*y2*y2*y3 + x2*y1*y1*y1*y3 + x2*y1*y2*y2*y3 - x2*y1*y3 - x3*y1*y1*y1*y2*y2*y2 + x3*y1*y1*y1*y2 + x3*y1*y2*y2*y2 - x3*y1*y2) = c at *
  clear h1 h2 h3
  grind -lia -linarith
theorem assocY {d x1 y1 x2 y2 x3 y3 : K} (h1 : On d x1 y1) (h2 : On d x2 y2) (h3 : On d x3 y3) :
    ((y1 * y2 + x1 * x2) * (1 + d * x1 * x2 * y1 * y2) * y3 + (x1 * y2 + x2 * y1) * (1 - d * x1 * x2 * y1 * y2) * x3) * ((1 + d * x2 * x3 * y2 * y3) * (1 - d * x2 * x3 * y2 * y3) - d * (x2 * y3 + x3 * y2) * (y2 * y3 + x2 * x3) * x1 * y1) =
    (y1 * (y2 * y3 + x2 * x3) * (1 + d * x2 * x3 * y2 * y3) + (x2 * y3 + x3 * y2) * (1 - d * x2 * x3 * y2 * y3) * x1) * ((1 + d * x1 * x2 * y1 * y2) * (1 - d * x1 * x2 * y1 * y2) - d * (x1 * y2 + x2 * y1) * (y1 * y2 + x1 * x2) * x3 * y3) := by
  have h1 := On_e h1
  have h2 := On_e h2
  have h3 := On_e h3
  have : ((y1 * y2 + x1 * x2) * (1 + d * x1 * x2 * y1 * y2) * y3 + (x1 * y2 + x2 * y1) * (1 - d * x1 * x2 * y1 * y2) * x3) * ((1 + d * x2 * x3 * y2 * y3) * (1 - d * x2 * x3 * y2 * y3) - d * (x2 * y3 + x3 * y2) * (y2 * y3 + x2 * x3) * x1 * y1) -
    (y1 * (y2 * y3 + x2 * x3) * (1 + d * x2 * x3 * y2 * y3) + (x2 * y3 + x3 * y2) * (1 - d * x2 * x3 * y2 * y3) * x1) * ((1 + d * x1 * x2 * y1 * y2) * (1 - d * x1 * x2 * y1 * y2) - d * (x1 * y2 + x2 * y1) * (y1 * y2 + x1 * x2) * x3 * y3) =
    (x1*x2*x2*x2*x2*x3*y2*y2*y2*y3*y3*d*d + x1*x2*x2*x2*x2*x3*y2*y3*y3*d + x1*x2*x2*x2*x3*x3*y2*y2*y2*y2*y3*d*d + x1*x2*x2*x2*y2*y2*y3*y3*y3*d - x1*x2*x2*x2*y2*y2*y3*d - x1*x2*x2*x3*x3*x3*y2*y2*y2*d - x1*x2*x2*x3*y2*y2*y2*d - x1*x2*x3*x3*y2*y2*y2*y2*y3*d - x2*x2*x2*x2*x3*x3*y1*y2*y2*y2*y3*d*d - x2*x2*x2*x2*x3*x3*y1*y2*y3*d - x2*x2*x2*x3*x3*x3*y1*y2*y2*d - x2*x2*x2*x3*y1*y2*y2*y2*y2*y3*y3*d*d - x2*x2*x2*x3*y1*y2*y2*d + x2*x2*y1*y2*y2*y2*y3*y3*y3*d - x2*x2*y1*y2*y2*y2*y3*d + x2*x3*y1*y2*y2*y2*y2*y3*y3*d) * (y1 * y1 - x1 * x1 - 1 - d * x1 * x1 * y1 * y1) + (- x1*x1*x1*x2*x2*x3*y2*y3*y3*d - x1*x1*x1*x2*x3*x3*y2*y2*y3*d + x1*x1*x1*x2*x3*x3*y3*y3*y3*d + x1*x1*x1*x2*x3*x3*y3 - x1*x1*x1*x2*y3*y3*y3 + x1*x1*x1*x2*y3 + x1*x1*x1*x3*x3*x3*y2*y3*y3*d + x1*x1*x1*x3*x3*x3*y2 - x1*x1*x1*x3*y2*y3*y3 + x1*x1*x1*x3*y2 + x1*x1*x2*x2*x3*x3*y1*y2*y3*y3*y3*d*d + x1*x1*x2*x2*x3*x3*y1*y2*y3*d - x1*x1*x2*x3*x3*x3*y1*y2*y2*y3*y3*d*d + x1*x1*x2*x3*x3*x3*y1*y3*y3*d + x1*x1*x2*x3*x3*x3*y1 + x1*x1*x2*x3*y1*y2*y2*y3*y3*d - x1*x1*x2*x3*y1*y3*y3 + x1*x1*x2*x3*y1 + x1*x1*x3*x3*y1*y2*y3*y3*y3*d + x1*x1*x3*x3*y1*y2*y3 - x1*x1*y1*y2*y3*y3*y3 + x1*x1*y1*y2*y3 - x1*x2*x2*x3*x3*x3*y1*y1*y2*y3*y3*d*d + x1*x2*x2*x3*y1*y1*y2*y3*y3*d - x1*x2*x2*x3*y2*y3*y3*d + x1*x2*x3*x3*y1*y1*y2*y2*y3*y3*y3*d*d + x1*x2*x3*x3*y1*y1*y2*y2*y3*d - x1*x2*x3*x3*y1*y1*y3*y3*y3*d - x1*x2*x3*x3*y1*y1*y3 - x1*x2*x3*x3*y2*y2*y3*d + x1*x2*x3*x3*y3*y3*y3*d + x1*x2*x3*x3*y3 + x1*x2*y1*y1*y3*y3*y3 - x1*x2*y1*y1*y3 - x1*x2*y3*y3*y3 + x1*x2*y3 - x1*x3*x3*x3*y1*y1*y2*y3*y3*d - x1*x3*x3*x3*y1*y1*y2 + x1*x3*x3*x3*y2*y3*y3*d + x1*x3*x3*x3*y2 + x1*x3*y1*y1*y2*y3*y3 - x1*x3*y1*y1*y2 - x1*x3*y2*y3*y3 + x1*x3*y2 - x2*x2*x3*x3*y1*y1*y1*y2*y3*d + x2*x2*x3*x3*y1*y2*y3*d - x2*x3*x3*x3*y1*y1*y1*y3*y3*d - x2*x3*x3*x3*y1*y1*y1 + x2*x3*x3*x3*y1*y3*y3*d + x2*x3*x3*x3*y1 - x2*x3*y1*y1*y1*y2*y2*y3*y3*d + x2*x3*y1*y1*y1*y3*y3 - x2*x3*y1*y1*y1 + x2*x3*y1*y2*y2*y3*y3*d - x2*x3*y1*y3*y3 + x2*x3*y1 - x3*x3*y1*y1*y1*y2*y3*y3*y3*d - x3*x3*y1*y1*y1*y2*y3 + x3*x3*y1*y2*y3*y3*y3*d + x3*x3*y1*y2*y3 + y1*y1*y1*y2*y3*y3*y3 - y1*y1*y1*y2*y3 - y1*y2*y3*y3*y3 + y1*y2*y3) * (y2 * y2 - x2 * x2 - 1 - d * x2 * x2 * y2 * y2) + (- x1*x1*x1*x2*x2*x2*y3 - x1*x1*x1*x2*x2*x3*y2 + x1*x1*x1*x2*y2*y2*y3 - x1*x1*x1*x2*y3 + x1*x1*x1*x3*y2*y2*y2 - x1*x1*x1*x3*y2 - x1*x1*x2*x2*x2*x3*y1 - x1*x1*x2*x2*y1*y2*y3*d - x1*x1*x2*x2*y1*y2*y3 + x1*x1*x2*x3*y1*y2*y2*d + x1*x1*x2*x3*y1*y2*y2 - x1*x1*x2*x3*y1 + x1*x1*y1*y2*y2*y2*y3 - x1*x1*y1*y2*y3 + x1*x2*x2*x2*y1*y1*y3 - x1*x2*x2*x2*y3 + x1*x2*x2*x3*y1*y1*y2*d + x1*x2*x2*x3*y1*y1*y2 - x1*x2*x2*x3*y2 - x1*x2*y1*y1*y2*y2*y3*d - x1*x2*y1*y1*y2*y2*y3 + x1*x2*y1*y1*y3 + x1*x2*y2*y2*y3 - x1*x2*y3 - x1*x3*y1*y1*y2*y2*y2 + x1*x3*y1*y1*y2 + x1*x3*y2*y2*y2 - x1*x3*y2 + x2*x2*x2*x3*y1*y1*y1 - x2*x2*x2*x3*y1 + x2*x2*y1*y1*y1*y2*y3 - x2*x2*y1*y2*y3 - x2*x3*y1*y1*y1*y2*y2 + x2*x3*y1*y1*y1 + x2*x3*y1*y2*y2 - x2*x3*y1 - y1*y1*y1*y2*y2*y2*y3 + y1*y1*y1*y2*y3 + y1*y2*y2*y2*y3 - y1*y2*y3) * (y3 * y3 - x3 * x3 - 1 - d * x3 * x3 * y3 * y3) := by
    clear h1 h2 h3
    grind -lia -linarith
  rw [h1, h2, h3] at this
  generalize ((y1 * y2 + x1 * x2) * (1 + d * x1 * x2 * y1 * y2) * y3 + (x1 * y2 + x2 * y1) * (1 - d * x1 * x2 * y1 * y2) * x3) * ((1 + d * x2 * x3 * y2 * y3) * (1 - d * x2 * x3 * y2 * y3) - d * (x2 * y3 + x3 * y2) * (y2 * y3 + x2 * x3) * x1 * y1) = l at *
  generalize (y1 * (y2 * y3 + x2 * x3) * (1 + d * x2 * x3 * y2 * y3) + (x2 * y3 + x3 * y2) * (1 - d * x2 * x3 * y2 * y3) * x1) * ((1 + d * x1 * x2 * y1 * y2) * (1 - d * x1 * x2 * y1 * y2) - d * (x1 * y2 + x2 * y1) * (y1 * y2 + x1 * x2) * x3 * y3) = r at *
  generalize (x1*x2*x2*x2*x2*x3*y2*y2*y2*y3*y3*d*d + x1*x2*x2*x2*x2*x3*y2*y3*y3*d + x1*x2*x2*x2*x3*x3*y2*y2*y2*y2*y3*d*d + x1*x2*x2*x2*y2*y2*y3*y3*y3*d - x1*x2*x2*x2*y2*y2*y3*d - x1*x2*x2*x3*x3*x3*y2*y2*y2*d - x1*x2*x2*x3*y2*y2*y2*d - x1*x2*x3*x3*y2*y2*y2*y2*y3*d - x2*x2*x2*x2*x3*x3*y1*y2*y2*y2*y3*d*d - x2*x2*x2*x2*x3*x3*y1*y2*y3*d - x2*x2*x2*x3*x3*x3*y1*y2*y2*d - x2*x2*x2*x3*y1*y2*y2*y2*y2*y3*y3*d*d - x2*x2*x2*x3*y1*y2*y2*d + x2*x2*y1*y2*y2*y2*y3*y3*y3*d - x2*x2*y1*y2*y2*y2*y3*d + x2*x3*y1*y2*y2*y2*y2*y3*y3*d) = a at *
  generalize (- x1*x1*x1*x2*x2*x3*y2*y3*y3*d - x1*x1*x1*x2*x3*x3*y2*y2*y3*d + x1*x1*x1*x2*x3*x3*y3*y3*y3*d + x1*x1*x1*x2*x3*x3*y3 - x1*x1*x1*x2*y3*y3*y3 + x1*x1*x1*x2*y3 + x1*x1*x1*x3*x3*x3*y2*y3*y3*d + x1*x1*x1*x3*x3*x3*y2 - x1*x1*x1*x3*y2*y3*y3 + x1*x1*x1*x3*y2 + x1*x1*x2*x2*x3*x3*y1*y2*y3*y3*y3*d*d + x1*x1*x2*x2*x3*x3*y1*y2*y3*d - x1*x1*x2*x3*x3*x3*y1*y2*y2*y3*y3*d*d + x1*x1*x2*x3*x3*x3*y1*y3*y3*d + x1*x1*x2*x3*x3*x3*y1 + x1*x1*x2*x3*y1*y2*y2*y3*y3*d - x1*x1*x2*x3*y1*y3*y3 + x1*x1*x2*x3*y1 + x1*x1*x3*x3*y1*y2*y3*y3*y3*d + x1*x1*x3*x3*y1*y2*y3 - x1*x1*y1*y2*y3*y3*y3 + x1*x1*y1*y2*y3 - x1*x2*x2*x3*x3*x3*y1*y1*y2*y3*y3*d*d + x1*x2*x2*x3*y1*y1*y2*y3*y3*d - x1*x2*x2*x3*y2*y3*y3*d + x1*x2*x3*x3*y1*y1*y2*y2*y3*y3*y3*d*d + x1*x2*x3*x3*y1*y1*y2*y2*y3*d - x1*x2*x3*x3*y1*y1*y3*y3*y3*d - x1*x2*x3*x3*y1*y1*y3 - x1*x2*x3*x3*y2*y2*y3*d + x1*x2*x3*x3*y3*y3*y3*d + x1*x2*x3*x3*y3 + x1*x2*y1*y1*y3*y3*y3 - x1*x2*y1*y1*y3 - x1*x2*y3*y3*y3 + x1*x2*y3 - x1*x3*x3*x3*y1*y1*y2*y3*y3*d - x1*x3*x3*x3*y1*y1*y2 + x1*x3*x3*x3*y2*y3*y3*d + x1*x3*x3*x3*y2 + x1*x3*y1*y1*y2*y3*y3 - x1*x3*y1*y1*y2 - x1*x3*y2*y3*y3 + x1*x3*y2 - x2*x2*x3*x3*y1*y1*y1*y2*y3*d + x2*x2*x3*x3*y1*y2*y3*d - x2*x3*x3*x3*y1*y1*y1*y3*y3*d - x2*x3*x3*x3*y1*y1*y1 + x2*x3*x3*x3*y1*y3*y3*d + x2*x3*x3*x3*y1 - x2*x3*y1*y1*y1*y2*y2*y3*y3*d + x2*x3*y1*y1*y1*y3*y3 - x2*x3*y1*y1*y1 + x2*x3*y1*y2*y2*y3*y3*d - x2*x3*y1*y3*y3 + x2*x3*y1 - x3*x3*y1*y1*y1*y2*y3*y3*y3*d - x3*x3*y1*y1*y1*y2*y3 + x3*x3*y1*y2*y3*y3*y3*d + x3*x3*y1*y2*y3 + y1*y1*y1*y2*y3*y3*y3 - y1*y1*y1*y2*y3 - y1*y2*y3*y3*y3 + y1*y2*y3) = b at *
  generalize (- x1*x1*x1*x2*x2*x2*y3 - x1*x1*x1*x2*x2*x3*y2 + x1*x1*x1*x2*y2*y2*y3 - x1*x1*x1*x2*y3 + x1*x1*x1*x3*y2*y2*y2 - x1*x1*x1*x3*y2 - x1*x1*x2*x2*x2*x3*y1 - x1*x1*x2*x2*y1*y2*y3*d - x1*x1*x2*x2*y1*y2*y3 + x1*x1*x2*x3*y1*y2*y2*d + x1*x1*x2*x3*y1*y2*y2 - x1*x1*x2*x3*y1 + x1*x1*y1*y2*y2*y2*y3 - x1*x1*y1*y2*y3 + x1*x2*x2*x2*y1*y1*y3 - x1*x2*x2*x2*y3 + x1*x2*x2*x3*y1*y1*y2*d + x1*x2*x2*x3*y1*y1*y2 - x1*x2*x2*x3*y2 - x1*x2*y1*y1*y2*y2*y3*d - x1*x2*y1*y1*y2*y2*y3 + x1*x2*y1*y1*y3 + x1*x2*y2*y2*y3 - x1*x2*y3 - x1*x3*y1*y1*y2*y2*y2 + x1*x3*y1*y1*y2 + x1*x3*y2*y2*y2 - x1*x3*y2 + x2*x2*x2*x3*y1*y1*y1 - x2*x2*x2*x3*y1 + x2*x2*y1*y1*y1*y2*y3 - x2*x2*y1*y2*y3 - x2*x3*y1*y1*y1*y2*y2 + x2*x3*y1*y1*y1 + x2*x3*y1*y2*y2 - x2*x3*y1 - y1*y1*y1*y2*y2*y2*y3 + y1*y1*y1*y2*y3 + y1*y2*y2*y2*y3 - y1*y2*y3) = c at *
  clear h1 h2 h3
  grind -lia -linarith
end Go.Proofs.Ytfdhfhgljhnhlaa
