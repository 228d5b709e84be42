/- HashPairs and HashOne, of numbers: a seed can be solved for, and is the only one. -/
import Derived.Test.YtjlafoimapmjaaaHashl
import Derived.Test.YtjlafoimapmjaaaPAx6
import Derived.Test.YtjlafoimapmjaaaPAx7
namespace Go.Proofs.Ytjlafoimapmjaaa.Pure
open Go.RowKit Go.Proofs.Ytjlafoimapmjaaa.PA Go.Proofs.YtjlafoimapmjaaaW.PrintWords Go.Proofs.YtjlafoimapmjaaaW.PrintLast Go.Proofs.YtjlafoimapmjaaaW.PrintMore

/-- The prime divides a product of whole numbers only if it divides a factor. -/
theorem pdiv {a b : Int} (h : a * b % 2305843009213693951 = 0) : a % 2305843009213693951 = 0 ∨ b % 2305843009213693951 = 0 := by
  have h2 : Prime.Q ∣ a.natAbs * b.natAbs := by
    have := Int.natAbs_dvd_natAbs.2 (Int.dvd_of_emod_eq_zero h)
    rw [Int.natAbs_mul] at this
    exact this
  rcases Prime.divides h2 with h3 | h3
  · exact .inl (Int.emod_eq_zero_of_dvd (Int.natAbs_dvd_natAbs.1 h3))
  · exact .inr (Int.emod_eq_zero_of_dvd (Int.natAbs_dvd_natAbs.1 h3))

theorem one_seed {A B C D x y : Int} (A0 : 0 ≤ A) (A1 : A < 2305843009213693951) (B0 : 0 ≤ B) (B1 : B < 2305843009213693951) (C0 : 0 ≤ C) (C1 : C < 2305843009213693951) (D0 : 0 ≤ D) (D1 : D < 2305843009213693951)
    (x0 : 0 ≤ x) (x1 : x < 2305843009213693951) (y0 : 0 ≤ y) (y1 : y < 2305843009213693951) (hxy : x ≠ y)
    (h1 : (A * x + B) % 2305843009213693951 = (C * x + D) % 2305843009213693951) (h2 : (A * y + B) % 2305843009213693951 = (C * y + D) % 2305843009213693951) : A = C ∧ B = D := by
  have h3 : (A - C) * (x - y) % 2305843009213693951 = 0 := by
    rw [Int.sub_mul, Int.mul_sub, Int.mul_sub]
    generalize A * x = p at *
    generalize A * y = q at *
    generalize C * x = r at *
    generalize C * y = s at *
    omega
  rcases pdiv h3 with h | h
  · have e : A = C := by omega
    subst e
    refine ⟨rfl, ?_⟩
    generalize A * x = p at *
    omega
  · omega

theorem colP (a b x : Int) (h : mayB a b = true) (x1 : x < 2305843009213693951) : colN a b x 2305843009213693951 = (a * x + b) % 2305843009213693951 := by
  unfold colN
  rw [if_neg (by decide), h, decide_eq_true x1]
  simp

theorem mayB_iff {a b : Int} : mayB a b = true ↔ 1 ≤ a ∧ a < 2305843009213693951 ∧ b < 2305843009213693951 := by
  unfold mayB; simp [and_assoc]

theorem HashOne_pure (A B C D a b : Int) (hA : (Lit.int .u64 A).wf = true) (hB : (Lit.int .u64 B).wf = true) (hC : (Lit.int .u64 C).wf = true) (hD : (Lit.int .u64 D).wf = true) (ha : (Lit.int .u64 a).wf = true) (hb : (Lit.int .u64 b).wf = true) :
    skylightlaw04_HashOne.f 200 A B C D a b = some true := by
  obtain ⟨A0, A1⟩ := u64_of hA
  obtain ⟨B0, B1⟩ := u64_of hB
  obtain ⟨C0, C1⟩ := u64_of hC
  obtain ⟨D0, D1⟩ := u64_of hD
  obtain ⟨a0, a1⟩ := u64_of ha
  obtain ⟨b0, b1⟩ := u64_of hb
  unfold skylightlaw04_HashOne.f
  rw [tmod_nat a _ a0, tmod_nat b _ b0, refMay_eq A B, refMay_eq C D, show (200 : Nat) = 195 + 5 from rfl, hawake_eq 195]
  have x0 : 0 ≤ a % 2305843009213693951 := by omega
  have x1 : a % 2305843009213693951 < 2305843009213693951 := by omega
  have y0 : 0 ≤ b % 2305843009213693951 := by omega
  have y1 : b % 2305843009213693951 < 2305843009213693951 := by omega
  generalize a % 2305843009213693951 = x at *
  generalize b % 2305843009213693951 = y at *
  simp only [Option.bind_some]
  have hj : skylightlaw04_HashOne.j0 (195 + 5) true x y true A B C D = some true := by simp [skylightlaw04_HashOne.j0]
  split
  · exact hj
  · rename_i hxy
    cases h1 : mayB A B
    · simpa using hj
    · simp only [if_true]
      cases h2 : mayB C D
      · simpa using hj
      · obtain ⟨p1, p2, p3⟩ := mayB_iff.1 h1
        obtain ⟨q1, q2, q3⟩ := mayB_iff.1 h2
        simp only [Bool.not_true, skylightlaw04_HashOne.j0]
        rw [if_neg (by decide), show (199 : Nat) = 194 + 5 from rfl, col_eq 194 A B x _ A0 A1 B0 B1 x0 (by omega) (by omega), col_eq 194 C D x _ C0 C1 D0 D1 x0 (by omega) (by omega), col_eq 194 A B y _ A0 A1 B0 B1 y0 (by omega) (by omega), col_eq 194 C D y _ C0 C1 D0 D1 y0 (by omega) (by omega)]
        rw [colP A B x h1 x1, colP C D x h2 x1, colP A B y h1 y1, colP C D y h2 y1]
        simp only [Option.bind_some, if_true]
        by_cases e1 : (A * x + B) % 2305843009213693951 = (C * x + D) % 2305843009213693951
        · by_cases e2 : (A * y + B) % 2305843009213693951 = (C * y + D) % 2305843009213693951
          · obtain ⟨rfl, rfl⟩ := one_seed A0 p2 B0 p3 C0 q2 D0 q3 x0 x1 y0 y1 hxy e1 e2
            simp
          · have hb : (A == C && B == D) = false := by
              rw [Bool.eq_false_iff]
              intro h
              rw [Bool.and_eq_true, beq_iff_eq, beq_iff_eq] at h
              exact e2 (by rw [h.1, h.2])
            rw [if_pos e1, beq_eq_false_iff_ne.2 e2, hb]
            rfl
        · have hb : (A == C && B == D) = false := by
            rw [Bool.eq_false_iff]
            intro h
            rw [Bool.and_eq_true, beq_iff_eq, beq_iff_eq] at h
            exact e1 (by rw [h.1, h.2])
          rw [if_neg e1, hb]
          rfl

/-! ### The inverse -/
theorem inv_l0 (j : Nat) : ∀ (k : Nat) (n out : Int) (e : Nat), e < 2 ^ j → j + 131 < k → e < 2305843009213693952 → 0 ≤ n → n < 2305843009213693951 → 0 ≤ out → out < 2305843009213693951 →
    skylightref04_inverse.l0 k n out (e : Int) = some (out * n ^ e % 2305843009213693951) := by
  induction j with
  | zero =>
    intro k n out e he hk _ n0 n1 o0 o1
    obtain ⟨k, rfl⟩ : ∃ m, k = m + 1 := ⟨k - 1, by omega⟩
    obtain rfl : e = 0 := by omega
    simp only [skylightref04_inverse.l0]
    rw [if_neg (by decide)]
    simp only [Int.pow_zero, Int.mul_one]
    rw [Int.emod_eq_of_lt o0 o1]
  | succ j ih =>
    intro k n out e he hk hs n0 n1 o0 o1
    obtain ⟨k, rfl⟩ : ∃ m, k = m + 1 := ⟨k - 1, by omega⟩
    simp only [skylightref04_inverse.l0]
    by_cases hz : e = 0
    · subst hz
      rw [if_neg (by decide)]
      simp only [Int.pow_zero, Int.mul_one]
      rw [Int.emod_eq_of_lt o0 o1]
    · have h1 := refMulMod_eq (k - 131) n n n0 (by omega) n0 (by omega)
      have h2 := refMulMod_eq (k - 131) out n o0 (by omega) n0 (by omega)
      rw [show k - 131 + 131 = k from by omega] at h1 h2
      rw [if_pos (by omega), tmod_nat (e : Int) 2 (by omega), tdiv_nat (e : Int) 2 (by omega), wr64 _ (by omega) (by omega), h1, h2]
      simp only [Option.bind_some]
      have h3 : ((e : Int) / 2) = ((e / 2 : Nat) : Int) := by omega
      have h4 : e / 2 < 2 ^ j := by rw [Nat.pow_succ] at he; omega
      have hp : ∀ o : Int, o * (n * n % 2305843009213693951) ^ (e / 2) % 2305843009213693951 = o * n ^ (2 * (e / 2)) % 2305843009213693951 := by
        intro o
        rw [Int.mul_emod, ← Int.emod_emod_of_dvd ((n * n % 2305843009213693951) ^ (e / 2)) (Int.dvd_refl _)]
        have : ∀ i : Nat, (n * n % 2305843009213693951) ^ i % 2305843009213693951 = n ^ (2 * i) % 2305843009213693951 := by
          intro i
          induction i with
          | zero => simp
          | succ i ihi => rw [Int.pow_succ, Int.mul_emod, ihi, Int.emod_emod, ← Int.mul_emod, show 2 * (i + 1) = 2 * i + 1 + 1 from by omega, Int.pow_succ, Int.pow_succ, Int.mul_assoc]
        rw [this, Int.emod_emod, ← Int.mul_emod]
      rw [h3]
      split
      · rename_i ho
        rw [ih k _ _ (e / 2) h4 (by omega) (by omega) (by omega) (by omega) (by omega) (by omega), hp]
        congr 1
        have e5 : e = 2 * (e / 2) + 1 := by omega
        rw [Int.mul_emod, Int.emod_emod, ← Int.mul_emod]
        conv => rhs; rw [e5, Int.pow_succ, Int.mul_comm (n ^ _) n, ← Int.mul_assoc]
      · rename_i ho
        rw [ih k _ _ (e / 2) h4 (by omega) (by omega) (by omega) (by omega) o0 o1, hp]
        congr 1
        have e5 : e = 2 * (e / 2) := by omega
        conv => rhs; rw [e5]

theorem inv_eq (n : Int) (n0 : 1 ≤ n) (n1 : n < 2305843009213693951) : ∃ i, skylightref04_inverse.f 200 n = some i ∧ 0 ≤ i ∧ i < 2305843009213693951 ∧ n * i % 2305843009213693951 = 1 := by
  refine ⟨1 * n ^ 2305843009213693949 % 2305843009213693951, ?_, by omega, by omega, ?_⟩
  · have := inv_l0 62 200 n 1 2305843009213693949 (by decide) (by omega) (by omega) (by omega) n1 (by omega) (by omega)
    exact this
  · obtain ⟨m, rfl⟩ := Int.eq_ofNat_of_zero_le (show 0 ≤ n by omega)
    have key : ∀ N : Nat, N + 1 = Prime.Q - 1 → (m : Int) * (1 * (m : Int) ^ N % 2305843009213693951) % 2305843009213693951 = 1 := by
      intro N hN
      rw [Int.one_mul, Int.mul_emod, Int.emod_emod, ← Int.mul_emod, Int.mul_comm, ← Int.pow_succ, show N.succ = Prime.Q - 1 from hN]
      have h2 := congrArg (Nat.cast (R := Int)) (Prime.fermat m (by omega) (by unfold Prime.Q; omega))
      rw [Int.natCast_emod, Int.natCast_pow] at h2
      exact h2
    exact key _ rfl

/-- The factor: times the keys' difference it is the rests'. -/
theorem factor_eq (x y u v i : Int) (hI : (x + (2305843009213693951 - y)) % 2305843009213693951 * i % 2305843009213693951 = 1) :
    ((u + (2305843009213693951 - v)) % 2305843009213693951 * i % 2305843009213693951) * (x - y) % 2305843009213693951 = (u - v) % 2305843009213693951 := by
  have e1 : (x - y) % 2305843009213693951 = (x + (2305843009213693951 - y)) % 2305843009213693951 := by omega
  have e2 : (u - v) % 2305843009213693951 = (u + (2305843009213693951 - v)) % 2305843009213693951 := by omega
  rw [Int.mul_emod, e1, Int.emod_emod, e2]
  generalize (x + (2305843009213693951 - y)) % 2305843009213693951 = X at *
  have hu : (u + (2305843009213693951 - v)) % 2305843009213693951 % 2305843009213693951 = (u + (2305843009213693951 - v)) % 2305843009213693951 := Int.emod_emod ..
  generalize (u + (2305843009213693951 - v)) % 2305843009213693951 = U at *
  rw [Int.mul_emod, Int.emod_emod, ← Int.mul_emod, Int.mul_assoc, Int.mul_comm i, Int.mul_emod, hI, Int.mul_one, Int.emod_emod, hu]

theorem rest_first (p u : Int) (u0 : 0 ≤ u) (u1 : u < 2305843009213693951) : (p + (u + (2305843009213693951 - p % 2305843009213693951)) % 2305843009213693951) % 2305843009213693951 = u := by omega
theorem rest_second (p q u v : Int) (h : (p - q) % 2305843009213693951 = (u - v) % 2305843009213693951) (v0 : 0 ≤ v) (v1 : v < 2305843009213693951) : (q + (u + (2305843009213693951 - p % 2305843009213693951)) % 2305843009213693951) % 2305843009213693951 = v := by omega

theorem solve_eq (x y u v : Int) (x0 : 0 ≤ x) (x1 : x < 2305843009213693951) (y0 : 0 ≤ y) (y1 : y < 2305843009213693951) (u0 : 0 ≤ u) (u1 : u < 2305843009213693951) (v0 : 0 ≤ v) (v1 : v < 2305843009213693951) (hxy : ¬ x = y) (huv : ¬ u = v) :
    ∃ A B, skylightref04_Solve.f 200 x y u v = some (A, B) ∧ 1 ≤ A ∧ A < 2305843009213693951 ∧ 0 ≤ B ∧ B < 2305843009213693951 ∧ (A * x + B) % 2305843009213693951 = u ∧ (A * y + B) % 2305843009213693951 = v := by
  have hinv := inv_eq
  have hmul : ∀ a b, 0 ≤ a → a < 18446744073709551616 → 0 ≤ b → b < 18446744073709551616 → skylightref03_MulMod.f 200 a b = some (a * b % 2305843009213693951) := refMulMod_eq 69
  unfold skylightref04_Solve.f
  generalize skylightref04_inverse.f 200 = F at *
  generalize skylightref03_MulMod.f 200 = G at *
  rw [wr64 (2305843009213693951 - y) (by omega) (by omega), wr64 (2305843009213693951 - v) (by omega) (by omega), refAddMod_eq x _ x0 (by omega), refAddMod_eq u _ u0 (by omega), Option.bind_some, Option.bind_some]
  have dx1 : 1 ≤ (x + (2305843009213693951 - y)) % 2305843009213693951 := by omega
  have dx2 : (x + (2305843009213693951 - y)) % 2305843009213693951 < 2305843009213693951 := by omega
  obtain ⟨i, hi, i0, i1, hI⟩ := hinv _ dx1 dx2
  rw [hi, Option.bind_some]
  have du0 : 0 ≤ (u + (2305843009213693951 - v)) % 2305843009213693951 := by omega
  have hm := hmul ((u + (2305843009213693951 - v)) % 2305843009213693951) i du0 (by omega) i0 (by omega)
  rw [hm, Option.bind_some]
  have A0 : 0 ≤ (u + (2305843009213693951 - v)) % 2305843009213693951 * i % 2305843009213693951 := by omega
  have A1 : (u + (2305843009213693951 - v)) % 2305843009213693951 * i % 2305843009213693951 < 2305843009213693951 := by omega
  have hA := factor_eq x y u v i hI
  generalize (u + (2305843009213693951 - v)) % 2305843009213693951 * i % 2305843009213693951 = A at *
  have hm2 := hmul A x A0 (by omega) x0 (by omega)
  rw [hm2, Option.bind_some]
  rw [wr64 _ (by omega) (by omega), refAddMod_eq u _ u0 (by omega), Option.bind_some]
  refine ⟨_, _, rfl, ?_, A1, by omega, by omega, ?_, ?_⟩
  · by_cases hz : A = 0
    · subst hz
      rw [Int.zero_mul] at hA
      omega
    · omega
  · exact rest_first _ u u0 u1
  · rw [Int.mul_sub] at hA; exact rest_second _ _ u v hA v0 v1

theorem HashPairs_pure (a b c d : Int) (ha : (Lit.int .u64 a).wf = true) (hb : (Lit.int .u64 b).wf = true) (hc : (Lit.int .u64 c).wf = true) (hd : (Lit.int .u64 d).wf = true) : skylightlaw04_HashPairs.f 201 a b c d = some true := by
  obtain ⟨a0, a1⟩ := u64_of ha
  obtain ⟨b0, b1⟩ := u64_of hb
  obtain ⟨c0, c1⟩ := u64_of hc
  obtain ⟨d0, d1⟩ := u64_of hd
  unfold skylightlaw04_HashPairs.f
  rw [tmod_nat a _ a0, tmod_nat b _ b0, tmod_nat c _ c0, tmod_nat d _ d0, show (201 : Nat) = 196 + 5 from rfl, hawake_eq 196]
  have x0 : 0 ≤ a % 2305843009213693951 := by omega
  have x1 : a % 2305843009213693951 < 2305843009213693951 := by omega
  have y0 : 0 ≤ b % 2305843009213693951 := by omega
  have y1 : b % 2305843009213693951 < 2305843009213693951 := by omega
  have u0 : 0 ≤ c % 2305843009213693951 := by omega
  have u1 : c % 2305843009213693951 < 2305843009213693951 := by omega
  have v0 : 0 ≤ d % 2305843009213693951 := by omega
  have v1 : d % 2305843009213693951 < 2305843009213693951 := by omega
  generalize a % 2305843009213693951 = x at *
  generalize b % 2305843009213693951 = y at *
  generalize c % 2305843009213693951 = u at *
  generalize d % 2305843009213693951 = v at *
  simp only [Option.bind_some]
  have hj : skylightlaw04_HashPairs.j0 (196 + 5) true x y u v true = some true := by simp [skylightlaw04_HashPairs.j0]
  split
  · exact hj
  · rename_i hxy
    by_cases huv : u = v
    · rw [beq_iff_eq.2 huv]; exact hj
    · rw [beq_eq_false_iff_ne.2 huv]
      simp only [skylightlaw04_HashPairs.j0]
      rw [if_neg (by decide)]
      obtain ⟨A, B, hs, A1, A2, B1, B2, e1, e2⟩ := solve_eq x y u v x0 x1 y0 y1 u0 u1 v0 v1 hxy huv
      rw [hs]
      simp only [Option.bind_some]
      have hmay : mayB A B = true := mayB_iff.2 ⟨A1, A2, B2⟩
      rw [show (200 : Nat) = 195 + 5 from rfl, col_eq 195 A B x _ (by omega) (by omega) B1 (by omega) x0 (by omega) (by omega), col_eq 195 A B y _ (by omega) (by omega) B1 (by omega) y0 (by omega) (by omega), colP A B x hmay x1, colP A B y hmay y1, e1, e2, may_eq A B (by omega) B1, hmay]
      simp only [Option.bind_some, if_true]
      rw [wrap64_small u (by omega) (by omega), wrap64_small v (by omega) (by omega), if_pos rfl]
      simp
end Go.Proofs.Ytjlafoimapmjaaa.Pure
