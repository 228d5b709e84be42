/- What the printed functions of numbers of 128 bits tell: products, sums and rests by the prime. -/
import Derived.Test.YtjlafoimapmjaaaPAx2
import Derived.Test.YtjlafoimapmjaaaPrime
namespace Go.Proofs.Ytjlafoimapmjaaa.Pure
open Go.RowKit Go.Proofs.Ytjlafoimapmjaaa.PA Go.Proofs.YtjlafoimapmjaaaW.PrintWords Go.Proofs.YtjlafoimapmjaaaW.PrintLast Go.Proofs.YtjlafoimapmjaaaW.PrintMore

theorem u64_of {x : Int} (h : (Lit.int .u64 x).wf = true) : 0 ≤ x ∧ x < 18446744073709551616 := by
  simp [Lit.wf, IntKind.min, IntKind.max, IntKind.signed, IntKind.bits] at h
  omega

theorem wrap64_small (i : Int) (h0 : -9223372036854775808 ≤ i) (h1 : i < 9223372036854775808) : wrap64 i = i := by unfold wrap64; omega

theorem fold_eq (n : Int) (h0 : 0 ≤ n) (h1 : n < 18446744073709551616) : wide_fold.f n = some (n % 2305843009213693951) := by
  unfold wide_fold.f
  rw [and61 n h0 h1, wr64 _ (by omega) (by omega)]
  split
  · rw [wr64 _ (by omega) (by omega)]; congr 1; omega
  · congr 1; omega

theorem sum_step (k : Nat) (x y : Int) (l : List Int) (n i : Int) (hy : rd l i = y) (h0 : 0 ≤ i) (h1 : i < n) (h2 : i < (l.length : Int)) (h3 : 0 ≤ x) (h4 : x < 9223372036854775808) (h5 : 0 ≤ y) (h6 : y < 9223372036854775808) (hi : i < 1000) :
    wide_sum.l0 (k + 1) x l n i = wide_sum.l0 k ((x + y) % 2305843009213693951) l n (i + 1) := by
  simp only [wide_sum.l0]
  rw [if_pos h1, if_pos h0, if_pos h2, hy, wr64 _ (by omega) (by omega), fold_eq _ (by omega) (by omega), Option.bind_some, wrap64_small _ (by omega) (by omega)]
theorem sum_end (k : Nat) (x : Int) (l : List Int) (n i : Int) (h1 : ¬ i < n) : wide_sum.l0 (k + 1) x l n i = some x := by
  simp only [wide_sum.l0]
  rw [if_neg h1]

theorem sum2_eq (k : Nat) (x y : Int) (hx0 : 0 ≤ x) (hx1 : x < 9223372036854775808) (hy0 : 0 ≤ y) (hy1 : y < 9223372036854775808) : wide_sum.f (k + 3) [x, y] = some ((x + y) % 2305843009213693951) := by
  unfold wide_sum.f
  rw [sum_step (k + 2) 0 x _ _ 0 rfl (by omega) (by simp) (by simp) (by omega) (by omega) hx0 hx1 (by omega), sum_step (k + 1) _ y _ _ _ rfl (by omega) (by simp) (by simp) (by omega) (by omega) hy0 hy1 (by omega), sum_end k _ _ _ _ (by simp)]
  congr 1
  omega
theorem sum3_eq (k : Nat) (x y z : Int) (hx0 : 0 ≤ x) (hx1 : x < 9223372036854775808) (hy0 : 0 ≤ y) (hy1 : y < 9223372036854775808) (hz0 : 0 ≤ z) (hz1 : z < 9223372036854775808) : wide_sum.f (k + 4) [x, y, z] = some ((x + y + z) % 2305843009213693951) := by
  unfold wide_sum.f
  rw [sum_step (k + 3) 0 x _ _ 0 rfl (by omega) (by simp) (by simp) (by omega) (by omega) hx0 hx1 (by omega), sum_step (k + 2) _ y _ _ _ rfl (by omega) (by simp) (by simp) (by omega) (by omega) hy0 hy1 (by omega),
    sum_step (k + 1) _ z _ _ _ rfl (by omega) (by simp) (by simp) (by omega) (by omega) hz0 hz1 (by omega), sum_end k _ _ _ _ (by simp)]
  congr 1
  omega

theorem mod_eq (k : Nat) (a b : Int) (h0 : 0 ≤ a) (h1 : a < 18446744073709551616) (h2 : 0 ≤ b) (h3 : b < 18446744073709551616) :
    wide_Mod.f (k + 4) a b = some ((a * 18446744073709551616 + b) % 2305843009213693951) := by
  unfold wide_Mod.f
  have e1 : IntKind.u64.wrap (a * 8) = a * 8 % 18446744073709551616 := IntKind.wrap_u64 _
  rw [e1, and61 (a * 8 % 18446744073709551616) (by omega) (by omega), and61 b h2 h3]
  rw [or3 _ _ (by omega) (by omega) (by omega) (by omega) (by omega)]
  rw [fold_eq _ (by omega) (by omega), Option.bind_some, fold_eq _ (by omega) (by omega), Option.bind_some, sum3_eq k _ _ _ (by omega) (by omega) (by omega) (by omega) (by omega) (by omega)]
  simp only [Option.bind_some]
  congr 1
  have e2 : a * 8 % 18446744073709551616 % 2305843009213693952 = a % 288230376151711744 * 8 := by omega
  have e3 : a * 18446744073709551616 + b = (a / 288230376151711744 + (a % 288230376151711744 * 8 + b / 2305843009213693952) + b % 2305843009213693952)
      + 2305843009213693951 * (a / 288230376151711744 * 2305843009213693953 + a % 288230376151711744 * 8 + b / 2305843009213693952) := by omega
  rw [e2, e3, Int.add_mul_emod_self_left]
  clear e1 e2 e3
  generalize a / 288230376151711744 = q
  generalize a % 288230376151711744 * 8 + b / 2305843009213693952 = r at *
  omega

theorem word_div (a b : Int) (h0 : 0 ≤ a) (h1 : a < 18446744073709551616) (h2 : 0 ≤ b) (h3 : b < 18446744073709551616) :
    0 ≤ a * b / 18446744073709551616 ∧ a * b / 18446744073709551616 < 18446744073709551616 := by
  have g1 : 0 ≤ a * b := Int.mul_nonneg h0 h2
  have g2 : a * b ≤ 18446744073709551615 * 18446744073709551615 := Int.le_trans (Int.mul_le_mul_of_nonneg_right (by omega) h2) (Int.mul_le_mul_of_nonneg_left (by omega) (by decide))
  omega

theorem mulMod_eq (k : Nat) (a b : Int) (h0 : 0 ≤ a) (h1 : a < 18446744073709551616) (h2 : 0 ≤ b) (h3 : b < 18446744073709551616) :
    wide_MulMod.f (k + 4) a b = some (a * b % 2305843009213693951) := by
  have g := word_div a b h0 h1 h2 h3
  unfold wide_MulMod.f wide_Mul.f
  rw [if_pos ⟨h0, h1, h2, h3⟩]
  simp only [Option.bind_some]
  rw [mod_eq k _ _ g.1 g.2 (by omega) (by omega)]
  simp only [Option.bind_some]
  congr 1
  generalize a * b = p
  omega

theorem addMod_eq (k : Nat) (a b : Int) (h0 : 0 ≤ a) (h1 : a < 18446744073709551616) (h2 : 0 ≤ b) (h3 : b < 18446744073709551616) :
    wide_AddMod.f (k + 3) a b = some ((a + b) % 2305843009213693951) := by
  unfold wide_AddMod.f
  rw [fold_eq a h0 h1, fold_eq b h2 h3]
  simp only [Option.bind_some]
  rw [sum2_eq k _ _ (by omega) (by omega) (by omega) (by omega)]
  simp only [Option.bind_some]
  congr 1
  omega

theorem awake_eq (k : Nat) : skylightlaw03_awake.f (k + 4) = some true := by
  unfold skylightlaw03_awake.f wide_Mul.f
  rw [mulMod_eq k _ _ (by omega) (by omega) (by omega) (by omega), addMod_eq (k + 1) _ _ (by omega) (by omega) (by omega) (by omega), mod_eq k _ _ (by omega) (by omega) (by omega) (by omega)]
  decide

/-! ### The reference -/
theorem tdiv_nat (a b : Int) (h : 0 ≤ a) : Int.tdiv a b = a / b := Int.tdiv_eq_ediv_of_nonneg h
theorem tmod_nat (a b : Int) (h : 0 ≤ a) : Int.tmod a b = a % b := Int.tmod_eq_emod_of_nonneg h

theorem refMul_eq (a b : Int) (h0 : 0 ≤ a) (h1 : a < 18446744073709551616) (h2 : 0 ≤ b) (h3 : b < 18446744073709551616) :
    skylightref03_Mul.f a b = some (a * b / 18446744073709551616, a * b % 18446744073709551616) := by
  have g1 := pro32 (a / 4294967296) (b / 4294967296) (by omega) (by omega) (by omega) (by omega)
  have g2 := pro32 (a / 4294967296) (b % 4294967296) (by omega) (by omega) (by omega) (by omega)
  have g3 := pro32 (a % 4294967296) (b / 4294967296) (by omega) (by omega) (by omega) (by omega)
  have g4 := pro32 (a % 4294967296) (b % 4294967296) (by omega) (by omega) (by omega) (by omega)
  obtain ⟨e1, e2⟩ := mul_parts a b h0 h1 h2 h3
  have hH := (word_div a b h0 h1 h2 h3).2
  unfold skylightref03_Mul.f
  rw [tdiv_nat a _ h0, tdiv_nat b _ h2, tmod_nat a _ h0, tmod_nat b _ h2]
  rw [wr64 (a / 4294967296) (by omega) (by omega), wr64 (b / 4294967296) (by omega) (by omega)]
  rw [← e1, ← e2]
  rw [← e1] at hH
  unfold mulHi at hH
  unfold mulHi mulLo
  clear e1 e2
  generalize (a / 4294967296) * (b / 4294967296) = p11 at *
  generalize (a / 4294967296) * (b % 4294967296) = p10 at *
  generalize (a % 4294967296) * (b / 4294967296) = p01 at *
  generalize (a % 4294967296) * (b % 4294967296) = p00 at *
  rw [wr64 p00 (by omega) (by omega), wr64 p10 (by omega) (by omega), wr64 p01 (by omega) (by omega), wr64 p11 (by omega) (by omega)]
  rw [tdiv_nat p00 _ (by omega), tmod_nat p00 _ (by omega)]
  rw [wr64 (p00 / 4294967296) (by omega) (by omega), wr64 (p10 + p00 / 4294967296) (by omega) (by omega)]
  rw [tdiv_nat (p10 + p00 / 4294967296) _ (by omega), tmod_nat (p10 + p00 / 4294967296) _ (by omega)]
  rw [wr64 ((p10 + p00 / 4294967296) / 4294967296) (by omega) (by omega), wr64 (p01 + (p10 + p00 / 4294967296) % 4294967296) (by omega) (by omega)]
  rw [tdiv_nat (p01 + (p10 + p00 / 4294967296) % 4294967296) _ (by omega), tmod_nat (p01 + (p10 + p00 / 4294967296) % 4294967296) _ (by omega)]
  rw [wr64 ((p01 + (p10 + p00 / 4294967296) % 4294967296) / 4294967296) (by omega) (by omega)]
  rw [wr64 (p11 + (p10 + p00 / 4294967296) / 4294967296) (by omega) (by omega)]
  rw [wr64 _ (by omega) hH, wr64 ((p01 + (p10 + p00 / 4294967296) % 4294967296) % 4294967296 * 4294967296) (by omega) (by omega), wr64 _ (by omega) (by omega)]

theorem double_eq (n b : Int) (h0 : 0 ≤ n) (h1 : n < 2305843009213693951) (h2 : 0 ≤ b) (h3 : b < 2) : skylightref03_double.f n b = some ((2 * n + b) % 2305843009213693951) := by
  unfold skylightref03_double.f
  rw [wr64 (2 * n) (by omega) (by omega), wr64 (2 * n + b) (by omega) (by omega), tmod_nat _ _ (by omega)]

/-- One bit more: what is left of a number's upper bits. -/
theorem bit_step (x n : Int) (j : Nat) : (2 * n + x / 2 ^ j % 2) * 2 ^ j + x % 2 ^ j = n * 2 ^ (j + 1) + x % 2 ^ (j + 1) := by
  have e1 : x % 2 ^ (j + 1) = 2 ^ j * (x / 2 ^ j % 2) + x % 2 ^ j := by
    rw [Int.pow_succ, Int.emod_def x (2 ^ j * 2), ← Int.ediv_ediv_of_nonneg (by exact Int.le_of_lt (Int.pow_pos (by decide)))]
    have h1 := Int.mul_ediv_add_emod x (2 ^ j)
    have h2 := Int.mul_ediv_add_emod (x / 2 ^ j) 2
    have h3 := congrArg (2 ^ j * ·) h2
    simp only [Int.mul_add] at h3
    rw [Int.mul_assoc]
    omega
  rw [e1, Int.add_mul, Int.pow_succ, Int.mul_comm (2 ^ j) (x / 2 ^ j % 2), Int.mul_assoc 2 n, Int.mul_left_comm 2, Int.mul_comm 2 (2 ^ j)]
  omega

theorem refMod_l1 (j : Nat) : ∀ (k : Nat) (x n : Int), j ≤ 64 → j < k → 0 ≤ x → x < 18446744073709551616 → 0 ≤ n → n < 2305843009213693951 →
    skylightref03_Mod.l1 k x n ((j : Int) - 1) = some ((n * 2 ^ j + x % 2 ^ j) % 2305843009213693951) := by
  induction j with
  | zero =>
    intro k x n hj hk hx0 hx1 hn0 hn1
    obtain ⟨k, rfl⟩ : ∃ m, k = m + 1 := ⟨k - 1, by omega⟩
    simp only [skylightref03_Mod.l1]
    rw [if_neg (by omega)]
    congr 1
    simp only [Int.pow_zero, Int.emod_one]
    omega
  | succ j ih =>
    intro k x n hj hk hx0 hx1 hn0 hn1
    obtain ⟨k, rfl⟩ : ∃ m, k = m + 1 := ⟨k - 1, by omega⟩
    simp only [skylightref03_Mod.l1]
    rw [if_pos (by omega), if_pos (by omega)]
    have e : (((j + 1 : Nat) : Int) - 1) = (j : Int) := by omega
    rw [e]
    have hs : shr .u64 x (j : Int) = x / 2 ^ j := by
      unfold shr
      rw [Int.toNat_natCast, Nat.min_eq_left (by simp [IntKind.bits]; omega)]
    have hp : (0 : Int) < 2 ^ j := Int.pow_pos (by decide)
    have hq : 0 ≤ x / 2 ^ j := Int.ediv_nonneg hx0 (by omega)
    rw [hs, tmod_nat _ _ hq, double_eq n _ hn0 hn1 (by omega) (by omega), Option.bind_some, wrap64_small _ (by omega) (by omega), ih k x _ (by omega) (by omega) hx0 hx1 (by omega) (by omega)]
    congr 1
    rw [Int.add_emod, Int.mul_emod, Int.emod_emod, ← Int.mul_emod, ← Int.add_emod, bit_step x n j]

theorem refMod_l0 (j : Nat) : ∀ (k : Nat) (x y n : Int), j ≤ 64 → j + 66 < k → 0 ≤ x → x < 18446744073709551616 → 0 ≤ y → y < 18446744073709551616 → 0 ≤ n → n < 2305843009213693951 →
    skylightref03_Mod.l0 k x y n ((j : Int) - 1) = some (((n * 2 ^ j + x % 2 ^ j) * 18446744073709551616 + y) % 2305843009213693951) := by
  induction j with
  | zero =>
    intro k x y n hj hk hx0 hx1 hy0 hy1 hn0 hn1
    obtain ⟨k, rfl⟩ : ∃ m, k = m + 1 := ⟨k - 1, by omega⟩
    simp only [skylightref03_Mod.l0]
    rw [if_neg (by omega)]
    have := refMod_l1 64 k y n (by omega) (by omega) hy0 hy1 hn0 hn1
    rw [show (((64 : Nat) : Int) - 1) = 63 from rfl] at this
    rw [this]
    congr 1
    have e : y % 2 ^ 64 = y := Int.emod_eq_of_lt hy0 hy1
    rw [e]
    simp only [Int.pow_zero, Int.emod_one]
    omega
  | succ j ih =>
    intro k x y n hj hk hx0 hx1 hy0 hy1 hn0 hn1
    obtain ⟨k, rfl⟩ : ∃ m, k = m + 1 := ⟨k - 1, by omega⟩
    simp only [skylightref03_Mod.l0]
    rw [if_pos (by omega), if_pos (by omega)]
    have e : (((j + 1 : Nat) : Int) - 1) = (j : Int) := by omega
    rw [e]
    have hs : shr .u64 x (j : Int) = x / 2 ^ j := by
      unfold shr
      rw [Int.toNat_natCast, Nat.min_eq_left (by simp [IntKind.bits]; omega)]
    have hp : (0 : Int) < 2 ^ j := Int.pow_pos (by decide)
    have hq : 0 ≤ x / 2 ^ j := Int.ediv_nonneg hx0 (by omega)
    rw [hs, tmod_nat _ _ hq, double_eq n _ hn0 hn1 (by omega) (by omega), Option.bind_some, wrap64_small _ (by omega) (by omega), ih k x y _ (by omega) (by omega) hx0 hx1 hy0 hy1 (by omega) (by omega)]
    congr 1
    rw [← bit_step x n j]
    generalize 2 * n + x / 2 ^ j % 2 = m
    have h1 : (m % 2305843009213693951 * 2 ^ j + x % 2 ^ j) % 2305843009213693951 = (m * 2 ^ j + x % 2 ^ j) % 2305843009213693951 := by
      rw [Int.add_emod, Int.mul_emod, Int.emod_emod, ← Int.mul_emod, ← Int.add_emod]
    generalize m % 2305843009213693951 * 2 ^ j + x % 2 ^ j = u at *
    generalize m * 2 ^ j + x % 2 ^ j = v at *
    omega

theorem refMod_eq (k : Nat) (a b : Int) (h0 : 0 ≤ a) (h1 : a < 18446744073709551616) (h2 : 0 ≤ b) (h3 : b < 18446744073709551616) :
    skylightref03_Mod.f (k + 131) a b = some ((a * 18446744073709551616 + b) % 2305843009213693951) := by
  have := refMod_l0 64 (k + 131) a b 0 (by omega) (by omega) h0 h1 h2 h3 (by omega) (by omega)
  rw [show (((64 : Nat) : Int) - 1) = 63 from rfl] at this
  unfold skylightref03_Mod.f
  rw [this]
  have e : a % 2 ^ 64 = a := Int.emod_eq_of_lt h0 h1
  rw [e, Int.zero_mul, Int.zero_add]

theorem refMulMod_eq (k : Nat) (a b : Int) (h0 : 0 ≤ a) (h1 : a < 18446744073709551616) (h2 : 0 ≤ b) (h3 : b < 18446744073709551616) :
    skylightref03_MulMod.f (k + 131) a b = some (a * b % 2305843009213693951) := by
  have g := word_div a b h0 h1 h2 h3
  unfold skylightref03_MulMod.f
  rw [refMul_eq a b h0 h1 h2 h3]
  simp only [Option.bind_some]
  rw [refMod_eq k _ _ g.1 g.2 (by omega) (by omega)]
  simp only [Option.bind_some]
  congr 1
  generalize a * b = p
  omega

theorem refAddMod_eq (a b : Int) (h0 : 0 ≤ a) (h2 : 0 ≤ b) : skylightref03_AddMod.f a b = some ((a + b) % 2305843009213693951) := by
  unfold skylightref03_AddMod.f
  rw [tmod_nat a _ h0, tmod_nat b _ h2, wr64 _ (by omega) (by omega), tmod_nat _ _ (by omega)]
  congr 1
  omega
end Go.Proofs.Ytjlafoimapmjaaa.Pure
