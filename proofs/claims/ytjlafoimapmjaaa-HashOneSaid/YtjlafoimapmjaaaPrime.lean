/- Plain: 2^61 - 1 is prime (by a generator of its rests), so rests that are not 0 can be divided by; and each to the power of 2^61 - 2 is 1. -/
namespace Go.Proofs.Ytjlafoimapmjaaa.Prime

/-- As many places as pigeons, at least. -/
theorem pigeon (m : Nat) : ∀ (n : Nat) (f : Nat → Nat), (∀ i, i < n → 1 ≤ f i ∧ f i ≤ m) → (∀ i j, i < n → j < n → f i = f j → i = j) → n ≤ m := by
  induction m with
  | zero =>
    intro n f h _
    cases n with
    | zero => omega
    | succ n => have := h 0 (by omega); omega
  | succ m ih =>
    intro n f h hi
    by_cases hx : ∃ i, i < n ∧ f i = m + 1
    · obtain ⟨i, hin, hf⟩ := hx
      have h2 : n - 1 ≤ m := by
        refine ih (n - 1) (fun j => if j = i then f (n - 1) else f j) ?_ ?_
        · intro j hj
          by_cases hji : j = i
          · simp only [hji, if_true]
            have h1 := h (n - 1) (by omega)
            refine ⟨h1.1, ?_⟩
            have : f (n - 1) ≠ m + 1 := fun h3 => by have := hi (n - 1) i (by omega) hin (by omega); omega
            omega
          · simp only [hji, if_false]
            have h1 := h j (by omega)
            refine ⟨h1.1, ?_⟩
            have : f j ≠ m + 1 := fun h3 => by have := hi j i (by omega) hin (by omega); omega
            omega
        · intro a b ha hb hab
          by_cases h1 : a = i <;> by_cases h2 : b = i
          · omega
          · simp only [h1, h2, if_true, if_false] at hab
            have := hi (n - 1) b (by omega) (by omega) hab; omega
          · simp only [h1, h2, if_true, if_false] at hab
            have := hi a (n - 1) (by omega) (by omega) hab; omega
          · simp only [h1, h2, if_false] at hab
            exact hi a b (by omega) (by omega) hab
      omega
    · have h2 : n ≤ m := by
        refine ih n f (fun i hin => ?_) hi
        have h1 := h i hin
        have : f i ≠ m + 1 := fun h3 => hx ⟨i, hin, h3⟩
        omega
      omega

/-- Whoever is not met makes one place too few. -/
theorem met (m : Nat) (f : Nat → Nat) (h : ∀ i, i < m → 1 ≤ f i ∧ f i ≤ m) (hi : ∀ i j, i < m → j < m → f i = f j → i = j) (v : Nat) (h1 : 1 ≤ v) (h2 : v ≤ m) : ∃ i, i < m ∧ f i = v := by
  refine Classical.byContradiction fun hx => ?_
  have := pigeon m (m + 1) (fun i => if i = m then v else f i) (by
    intro i hin
    by_cases h3 : i = m
    · simp only [h3, if_true]; exact ⟨h1, h2⟩
    · simp only [h3, if_false]; exact h i (by omega)) (by
    intro i j hin hjn hij
    by_cases h3 : i = m <;> by_cases h4 : j = m
    · omega
    · simp only [h3, h4, if_true, if_false] at hij
      exact absurd ⟨j, by omega, hij.symm⟩ hx
    · simp only [h3, h4, if_true, if_false] at hij
      exact absurd ⟨i, by omega, hij⟩ hx
    · simp only [h3, h4, if_false] at hij
      exact hi i j (by omega) (by omega) hij)
  omega

/-! ### Powers -/
/-- A power's rest, by squaring; 'fuel' binary places. -/
def pm (P : Nat) : Nat → Nat → Nat → Nat
  | 0, _, _ => 1 % P
  | fuel + 1, b, e => if e % 2 = 1 then pm P fuel (b * b % P) (e / 2) * b % P else pm P fuel (b * b % P) (e / 2)
theorem pm_eq (P : Nat) : ∀ (fuel b e : Nat), e < 2 ^ fuel → pm P fuel b e = b ^ e % P
  | 0, b, e, h => by
    have : e = 0 := by omega
    subst this
    rfl
  | fuel + 1, b, e, h => by
    have h2 : e / 2 < 2 ^ fuel := by rw [Nat.pow_succ] at h; omega
    have ih := pm_eq P fuel (b * b % P) (e / 2) h2
    have hp : (b * b % P) ^ (e / 2) % P = b ^ (2 * (e / 2)) % P := by rw [← Nat.pow_mod, Nat.pow_mul, Nat.pow_two]
    unfold pm
    split
    · rename_i ho
      rw [ih, hp, Nat.mod_mul_mod, ← Nat.pow_succ]
      congr 2; omega
    · rename_i ho
      rw [ih, hp]
      congr 2; omega

section gen
variable {P g : Nat}

/-- 'g^i' is 1, by rests of q. -/
abbrev one_ (q g i : Nat) : Prop := g ^ i % q = 1

theorem one_add {q a b : Nat} (ha : one_ q g a) : g ^ (a + b) % q = g ^ b % q := by
  rw [Nat.pow_add, Nat.mul_mod, ha, Nat.one_mul, Nat.mod_mod]
theorem one_mul {q a : Nat} (hq : 1 < q) (ha : one_ q g a) (n : Nat) : one_ q g (a * n) := by
  unfold one_
  rw [Nat.pow_mul, Nat.pow_mod, ha, Nat.one_pow, Nat.mod_eq_of_lt hq]

/-- The least positive number whose power is 1 divides each one whose power is 1. -/
theorem least {q n : Nat} (hq : 1 < q) (hn : 0 < n) (h : one_ q g n) : ∃ d, 0 < d ∧ one_ q g d ∧ (∀ m, one_ q g m → d ∣ m) := by
  have hex : ∃ d, 0 < d ∧ one_ q g d ∧ ∀ m, 0 < m → m < d → ¬ one_ q g m := by
    refine Classical.byContradiction fun hx => ?_
    have hall : ∀ m, 0 < m → ¬ one_ q g m := by
      intro m
      induction m using Nat.strongRecOn with
      | _ m ih =>
        intro h0 h1
        exact hx ⟨m, h0, h1, fun k hk hlt => ih k hlt hk⟩
    exact hall n hn h
  obtain ⟨d, h0, h1, h2⟩ := hex
  refine ⟨d, h0, h1, fun m hm => ?_⟩
  have e : m = d * (m / d) + m % d := (Nat.div_add_mod m d).symm
  have hr : one_ q g (m % d) := by
    have := one_add (b := m % d) (one_mul (g := g) hq h1 (m / d))
    unfold one_ at *
    rw [← this, ← e, hm]
  by_cases hz : m % d = 0
  · exact Nat.dvd_of_mod_eq_zero hz
  · exact absurd hr (h2 _ (by omega) (Nat.mod_lt _ h0))

/-- A divisor of N that divides none of N's parts by its primes is N. -/
theorem all_of_it (l : List Nat) : ∀ (N d : Nat), 0 < N → d ∣ N → (∀ p ∈ l, 1 < p ∧ ∀ a b, p ∣ a * b → p ∣ a ∨ p ∣ b) → l.foldr (· * ·) 1 = N → (∀ p ∈ l, ¬ d ∣ N / p) → d = N := by
  intro N d hN hd hp hf hnot
  obtain ⟨e, rfl⟩ := hd
  -- if e = 1 there is nothing to show; else a prime of the list divides e
  by_cases he : e = 1
  · rw [he, Nat.mul_one]
  exfalso
  have hd0 : 0 < d := Nat.pos_of_mul_pos_right hN |> fun h => Nat.pos_of_ne_zero (fun hz => by subst hz; simp at hN)
  have he0 : 0 < e := Nat.pos_of_ne_zero (fun hz => by subst hz; simp at hN)
  -- some p in l divides e
  have key : ∀ (l : List Nat), (∀ p ∈ l, 1 < p ∧ ∀ a b, p ∣ a * b → p ∣ a ∨ p ∣ b) → ∀ x y, 0 < x → l.foldr (· * ·) 1 = x * y → (∀ p ∈ l, ¬ p ∣ y) → y = 1 := by
    intro l
    induction l with
    | nil => intro _ x y _ h _; exact Nat.dvd_one.1 ⟨x, by rw [Nat.mul_comm]; simpa using h⟩
    | cons p l ih =>
      intro hl x y hx h hn
      have hpp := hl p (by simp)
      have hdv : p ∣ x * y := by rw [← h]; exact ⟨l.foldr (· * ·) 1, rfl⟩
      rcases hpp.2 x y hdv with hxd | hyd
      · obtain ⟨z, rfl⟩ := hxd
        have hz : 0 < z := Nat.pos_of_ne_zero (fun hz => by subst hz; simp at hx)
        refine ih (fun q hq => hl q (by simp [hq])) z y hz ?_ (fun q hq => hn q (by simp [hq]))
        have h' : p * l.foldr (· * ·) 1 = p * (z * y) := by rw [← Nat.mul_assoc]; exact h
        exact Nat.eq_of_mul_eq_mul_left (by omega) h'
      · exact absurd hyd (hn p (by simp))
  refine he (key l hp d e hd0 hf fun p hpl hpe => ?_)
  obtain ⟨z, rfl⟩ := hpe
  refine hnot p hpl ?_
  have hp1 := (hp p hpl).1
  rw [show d * (p * z) = p * (d * z) from by rw [Nat.mul_left_comm], Nat.mul_div_cancel_left _ (by omega)]
  exact ⟨z, rfl⟩

/-- The generator's powers: as many as there are rests but 0. -/
theorem gen_all {q N : Nat} (hq : 1 < q) (h1 : one_ q g N) (hN : 0 < N) (hd : ∀ d, 0 < d → one_ q g d → d ∣ N → d = N) :
    (∀ i, i < N → 1 ≤ g ^ i % q ∧ g ^ i % q ≤ q - 1) ∧ (∀ i j, i < N → j < N → g ^ i % q = g ^ j % q → i = j) := by
  obtain ⟨d, d0, d1, d2⟩ := least hq hN h1
  have hdN := hd d d0 d1 (d2 N h1)
  subst hdN
  refine ⟨fun i hi => ?_, ?_⟩
  · refine ⟨?_, by have := Nat.mod_lt (g ^ i) (by omega : 0 < q); omega⟩
    refine Nat.pos_of_ne_zero fun hz => ?_
    have : g ^ d % q = 0 := by
      rw [show d = i + (d - i) from by omega, Nat.pow_add, Nat.mul_mod, hz, Nat.zero_mul, Nat.zero_mod]
    rw [d1] at this
    omega
  · have hlt : ∀ i j, i < j → j < d → g ^ i % q = g ^ j % q → False := by
      intro i j hij hj he
      have h3 : one_ q g (d - j + i) := by
        unfold one_
        rw [Nat.pow_add, Nat.mul_mod, he, ← Nat.mul_mod, ← Nat.pow_add, show d - j + j = d from by omega]
        exact d1
      have h4 := Nat.le_of_dvd (by omega) (d2 _ h3)
      omega
    intro i j hi hj he
    rcases Nat.lt_trichotomy i j with h | h | h
    · exact (hlt i j h hj he).elim
    · exact h
    · exact (hlt j i h hi he.symm).elim
end gen

/-! ### The prime -/
def Q : Nat := 2305843009213693951

theorem small_prime (p : Nat) (h1 : 1 < p) (h : (List.range p).all (fun r => r = 0 || (List.range p).all (fun s => s = 0 || r * s % p ≠ 0)) = true) : 1 < p ∧ ∀ a b, p ∣ a * b → p ∣ a ∨ p ∣ b := by
  refine ⟨h1, fun a b hab => ?_⟩
  by_cases ha : a % p = 0
  · exact .inl (Nat.dvd_of_mod_eq_zero ha)
  by_cases hb : b % p = 0
  · exact .inr (Nat.dvd_of_mod_eq_zero hb)
  exfalso
  have := List.all_eq_true.1 h (a % p) (List.mem_range.2 (Nat.mod_lt _ (by omega)))
  simp only [ha, decide_false, Bool.false_or] at this
  have := List.all_eq_true.1 this (b % p) (List.mem_range.2 (Nat.mod_lt _ (by omega)))
  simp only [hb, decide_false, Bool.false_or, ne_eq, decide_eq_true_eq] at this
  exact this (by rw [← Nat.mul_mod]; exact Nat.mod_eq_zero_of_dvd hab)

/-- A number that no lesser number above 1 divides has Euclid's property. -/
theorem euclid (p : Nat) (h1 : 1 < p) (h : ∀ q, q ∣ p → q = 1 ∨ q = p) : 1 < p ∧ ∀ a b, p ∣ a * b → p ∣ a ∨ p ∣ b := by
  refine ⟨h1, fun a b hab => ?_⟩
  rcases h (Nat.gcd p a) (Nat.gcd_dvd_left ..) with hg | hg
  · exact .inr (Nat.Coprime.dvd_of_dvd_mul_left hg hab)
  · exact .inl (by rw [← hg]; exact Nat.gcd_dvd_right ..)

/-- No divisor up to its root: prime. -/
theorem by_trial (p : Nat) (h1 : 1 < p) (h : (List.range 64).all (fun r => r < 2 || p ≤ r || p % r ≠ 0) = true) (hp : p < 4096) : ∀ q, q ∣ p → q = 1 ∨ q = p := by
  have small : ∀ q, q ∣ p → q < 64 → q = 1 ∨ q = p := by
    intro q hq h64
    have := List.all_eq_true.1 h q (List.mem_range.2 h64)
    have hz := Nat.mod_eq_zero_of_dvd hq
    have hle := Nat.le_of_dvd (by omega) hq
    have hq0 : q ≠ 0 := fun e => by subst e; simp at hq; omega
    simp only [Bool.or_eq_true, decide_eq_true_eq, hz, ne_eq, not_true, decide_false, or_false, Bool.false_eq_true] at this
    omega
  intro q hq
  by_cases h64 : q < 64
  · exact small q hq h64
  obtain ⟨r, hr⟩ := hq
  have hr64 : r < 64 := by
    refine Nat.lt_of_not_le fun h => ?_
    have := Nat.mul_le_mul (show 64 ≤ q by omega) h
    omega
  rcases small r ⟨q, by rw [hr, Nat.mul_comm]⟩ hr64 with e | e
  · subst e; omega
  · subst e
    have : q = 1 := by
      have hq' : q * r = 1 * r := by omega
      exact Nat.eq_of_mul_eq_mul_right (by omega) hq'
    omega

def parts : List Nat := [2, 3, 3, 5, 5, 7, 11, 13, 31, 41, 61, 151, 331, 1321]

theorem parts_prime : ∀ p ∈ parts, 1 < p ∧ ∀ a b, p ∣ a * b → p ∣ a ∨ p ∣ b := by
  have h : parts.all (fun p => (1 < p : Bool) && (p < 4096 : Bool) && (List.range 64).all (fun r => r < 2 || p ≤ r || p % r ≠ 0)) = true := by decide +kernel
  intro p hp
  have := List.all_eq_true.1 h p hp
  simp only [Bool.and_eq_true, decide_eq_true_eq] at this
  exact euclid p this.1.1 (by_trial p this.1.1 this.2 this.1.2)

theorem parts_all : parts.foldr (· * ·) 1 = Q - 1 := by decide +kernel

/-- 37 generates: its power by N is 1; no power by a part is 1, nor leaves anything in common with the prime when 1 is taken away. -/
theorem gen_cert : (pm Q 62 37 (Q - 1) == 1 && parts.all (fun p => Nat.gcd (pm Q 62 37 ((Q - 1) / p) + Q - 1) Q == 1)) = true := by decide +kernel

theorem gen_one : 37 ^ (Q - 1) % Q = 1 := by
  have h := gen_cert
  rw [Bool.and_eq_true] at h
  have := beq_iff_eq.1 h.1
  rw [pm_eq Q 62 37 (Q - 1) (by decide +kernel)] at this
  exact this

theorem gen_not (q : Nat) (hq : 1 < q) (hd : q ∣ Q) (p : Nat) (hp : p ∈ parts) : ¬ 37 ^ ((Q - 1) / p) % q = 1 := by
  intro h1
  have h := gen_cert
  rw [Bool.and_eq_true] at h
  have hg := beq_iff_eq.1 (List.all_eq_true.1 h.2 p hp)
  have hlt : (Q - 1) / p < 2 ^ 62 := Nat.lt_of_le_of_lt (Nat.div_le_self _ _) (by decide +kernel)
  rw [pm_eq Q 62 37 _ hlt] at hg
  generalize 37 ^ ((Q - 1) / p) = x at *
  have hQ : 0 < Q := by decide +kernel
  have h2 : q ∣ x % Q + Q - 1 := by
    have hx : x % Q % q = 1 := by rw [Nat.mod_mod_of_dvd _ hd]; exact h1
    obtain ⟨c, hc⟩ := hd
    rw [show x % Q + Q - 1 = (x % Q - 1) + Q from by
      have : x % Q ≠ 0 := fun e => by rw [e] at hx; simp at hx
      omega]
    refine Nat.dvd_add ?_ ⟨c, hc⟩
    have := Nat.div_add_mod (x % Q) q
    rw [hx] at this
    exact ⟨x % Q / q, by omega⟩
  have h3 : q ∣ 1 := by rw [← hg]; exact Nat.dvd_gcd h2 hd
  have := Nat.le_of_dvd (by omega) h3
  omega

theorem gen_full (q : Nat) (hq : 1 < q) (hd : q ∣ Q) : (∀ i, i < Q - 1 → 1 ≤ 37 ^ i % q ∧ 37 ^ i % q ≤ q - 1) ∧ (∀ i j, i < Q - 1 → j < Q - 1 → 37 ^ i % q = 37 ^ j % q → i = j) := by
  have h1 : one_ q 37 (Q - 1) := by
    unfold one_
    have := congrArg (· % q) gen_one
    simp only [Nat.mod_mod_of_dvd _ hd, Nat.mod_eq_of_lt hq] at this
    exact this
  refine gen_all hq h1 (by decide +kernel) fun d d0 d1 dN => ?_
  refine all_of_it parts (Q - 1) d (by decide +kernel) dN parts_prime parts_all fun p hp hdp => ?_
  obtain ⟨c, hc⟩ := hdp
  refine gen_not q hq hd p hp ?_
  rw [hc]
  exact one_mul hq d1 c

theorem prime (q : Nat) (hd : q ∣ Q) : q = 1 ∨ q = Q := by
  have hQ : 0 < Q := by decide +kernel
  have hle := Nat.le_of_dvd hQ hd
  by_cases hq : 1 < q
  · right
    obtain ⟨h1, h2⟩ := gen_full q hq hd
    have := pigeon (q - 1) (Q - 1) (fun i => 37 ^ i % q) h1 h2
    omega
  · left
    have : q ≠ 0 := fun e => by subst e; simp at hd; omega
    omega

/-- The prime divides a product only if it divides a factor. -/
theorem divides {a b : Nat} (h : Q ∣ a * b) : Q ∣ a ∨ Q ∣ b := (euclid Q (by decide +kernel) prime).2 a b h

/-- Each rest but 0, to the power of the prime less 1, is 1. -/
theorem fermat (n : Nat) (h1 : 1 ≤ n) (h2 : n < Q) : n ^ (Q - 1) % Q = 1 := by
  obtain ⟨g1, g2⟩ := gen_full Q (by decide +kernel) (Nat.dvd_refl _)
  obtain ⟨i, _, hi⟩ := met (Q - 1) (fun i => 37 ^ i % Q) g1 g2 n h1 (by omega)
  replace hi : 37 ^ i % Q = n := hi
  rw [← hi, ← Nat.pow_mod, ← Nat.pow_mul, Nat.mul_comm, Nat.pow_mul, Nat.pow_mod, gen_one, Nat.one_pow, Nat.mod_eq_of_lt (by decide +kernel)]

end Go.Proofs.Ytjlafoimapmjaaa.Prime
