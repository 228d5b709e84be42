/- Plain arithmetic of 64 bits: masks, joins, and the product of two words by halves. -/
import Derived.Laws.BitsLemmas
import Derived.Laws.Bits64
namespace Go.Proofs.Ytjlafoimapmjaaa.PA
open Go

theorem wr64 (n : Int) (h0 : 0 ≤ n) (h1 : n < 18446744073709551616) : IntKind.u64.wrap n = n := by rw [IntKind.wrap_u64]; omega
theorem wr64' (n : Int) (h0 : 0 ≤ n) (h1 : n < 2 ^ 64) : IntKind.u64.wrap n = n := wr64 n h0 (by simpa using h1)
theorem and32 (x : Int) (h0 : 0 ≤ x) (h1 : x < 18446744073709551616) : bits .and .u64 x 4294967295 = x % 4294967296 :=
  bits_mask .u64 64 (by decide) wr64' 32 (by decide) x h0 (by simpa using h1)
theorem and61 (x : Int) (h0 : 0 ≤ x) (h1 : x < 18446744073709551616) : bits .and .u64 x 2305843009213693951 = x % 2305843009213693952 :=
  bits_mask .u64 64 (by decide) wr64' 61 (by decide) x h0 (by simpa using h1)
theorem or32 (x y : Int) (h0 : 0 ≤ x) (h1 : x < 18446744073709551616) (hx : x % 4294967296 = 0) (h2 : 0 ≤ y) (h3 : y < 4294967296) : bits .or .u64 x y = x + y :=
  bits_join .u64 64 (by decide) wr64' 32 x y h0 (by simpa using hx) (by simpa using h1) h2 (by simpa using h3) (by omega)
theorem or3 (x y : Int) (h0 : 0 ≤ x) (h1 : x < 18446744073709551616) (hx : x % 8 = 0) (h2 : 0 ≤ y) (h3 : y < 8) : bits .or .u64 x y = x + y :=
  bits_join .u64 64 (by decide) wr64' 3 x y h0 (by simpa using hx) (by simpa using h1) h2 (by simpa using h3) (by omega)

/-- A product of two numbers below 2^32. -/
theorem pro32 (x y : Int) (h0 : 0 ≤ x) (h1 : x ≤ 4294967295) (h2 : 0 ≤ y) (h3 : y ≤ 4294967295) : 0 ≤ x * y ∧ x * y ≤ 18446744065119617025 :=
  ⟨Int.mul_nonneg h0 h2, Int.le_trans (Int.mul_le_mul_of_nonneg_right h1 h2) (Int.le_trans (Int.mul_le_mul_of_nonneg_left h3 (by decide)) (by decide))⟩

/-- What the program makes of two words: the upper one, the lower one. -/
def mulHi (a b : Int) : Int :=
  (a / 4294967296) * (b / 4294967296) + ((a / 4294967296) * (b % 4294967296) + (a % 4294967296) * (b % 4294967296) / 4294967296) / 4294967296
    + ((a % 4294967296) * (b / 4294967296) + ((a / 4294967296) * (b % 4294967296) + (a % 4294967296) * (b % 4294967296) / 4294967296) % 4294967296) / 4294967296
def mulLo (a b : Int) : Int :=
  ((a % 4294967296) * (b / 4294967296) + ((a / 4294967296) * (b % 4294967296) + (a % 4294967296) * (b % 4294967296) / 4294967296) % 4294967296) % 4294967296 * 4294967296
    + (a % 4294967296) * (b % 4294967296) % 4294967296

theorem mul_parts (a b : Int) (h0 : 0 ≤ a) (h1 : a < 18446744073709551616) (h2 : 0 ≤ b) (h3 : b < 18446744073709551616) :
    mulHi a b = a * b / 18446744073709551616 ∧ mulLo a b = a * b % 18446744073709551616 := by
  have ha : a = 4294967296 * (a / 4294967296) + a % 4294967296 := by omega
  have hb : b = 4294967296 * (b / 4294967296) + b % 4294967296 := by omega
  have e : a * b = 18446744073709551616 * ((a / 4294967296) * (b / 4294967296)) + 4294967296 * ((a / 4294967296) * (b % 4294967296)) + 4294967296 * ((a % 4294967296) * (b / 4294967296)) + (a % 4294967296) * (b % 4294967296) := by
    generalize a / 4294967296 = A1 at *
    generalize a % 4294967296 = A0 at *
    generalize b / 4294967296 = B1 at *
    generalize b % 4294967296 = B0 at *
    subst ha hb
    simp only [Int.add_mul, Int.mul_add]
    have e1 : 4294967296 * A1 * (4294967296 * B1) = 18446744073709551616 * (A1 * B1) := by rw [show (18446744073709551616 : Int) = 4294967296 * 4294967296 from by decide, Int.mul_assoc, Int.mul_left_comm A1, ← Int.mul_assoc]
    have e2 : 4294967296 * A1 * B0 = 4294967296 * (A1 * B0) := Int.mul_assoc ..
    have e3 : A0 * (4294967296 * B1) = 4294967296 * (A0 * B1) := Int.mul_left_comm ..
    rw [e1, e2, e3]
    omega
  have g1 := pro32 (a / 4294967296) (b / 4294967296) (by omega) (by omega) (by omega) (by omega)
  have g2 := pro32 (a / 4294967296) (b % 4294967296) (by omega) (by omega) (by omega) (by omega)
  have g3 := pro32 (a % 4294967296) (b / 4294967296) (by omega) (by omega) (by omega) (by omega)
  have g4 := pro32 (a % 4294967296) (b % 4294967296) (by omega) (by omega) (by omega) (by omega)
  unfold mulHi mulLo
  rw [e]
  generalize (a / 4294967296) * (b / 4294967296) = p11 at *
  generalize (a / 4294967296) * (b % 4294967296) = p10 at *
  generalize (a % 4294967296) * (b / 4294967296) = p01 at *
  generalize (a % 4294967296) * (b % 4294967296) = p00 at *
  clear e ha hb
  omega

theorem mulHi_words (a b : Int) (h0 : 0 ≤ a) (h1 : a < 18446744073709551616) (h2 : 0 ≤ b) (h3 : b < 18446744073709551616) :
    (IntKind.u64.wrap
              (IntKind.u64.wrap
                  (IntKind.u64.wrap
                      (bits BinOp.and IntKind.u64 (a / 4294967296) 4294967295 *
                        bits BinOp.and IntKind.u64 (b / 4294967296) 4294967295) +
                    IntKind.u64.wrap
                        (IntKind.u64.wrap
                            (bits BinOp.and IntKind.u64 (a / 4294967296) 4294967295 *
                              bits BinOp.and IntKind.u64 b 4294967295) +
                          IntKind.u64.wrap
                              (bits BinOp.and IntKind.u64 a 4294967295 * bits BinOp.and IntKind.u64 b 4294967295) /
                            4294967296) /
                      4294967296) +
                IntKind.u64.wrap
                    (IntKind.u64.wrap
                        (bits BinOp.and IntKind.u64 a 4294967295 *
                          bits BinOp.and IntKind.u64 (b / 4294967296) 4294967295) +
                      bits BinOp.and IntKind.u64
                        (IntKind.u64.wrap
                          (IntKind.u64.wrap
                              (bits BinOp.and IntKind.u64 (a / 4294967296) 4294967295 *
                                bits BinOp.and IntKind.u64 b 4294967295) +
                            IntKind.u64.wrap
                                (bits BinOp.and IntKind.u64 a 4294967295 * bits BinOp.and IntKind.u64 b 4294967295) /
                              4294967296))
                        4294967295) /
                  4294967296)) = a * b / 18446744073709551616 ∧
    (bits BinOp.or IntKind.u64
              (IntKind.u64.wrap
                (IntKind.u64.wrap
                    (IntKind.u64.wrap
                        (bits BinOp.and IntKind.u64 a 4294967295 *
                          bits BinOp.and IntKind.u64 (b / 4294967296) 4294967295) +
                      bits BinOp.and IntKind.u64
                        (IntKind.u64.wrap
                          (IntKind.u64.wrap
                              (bits BinOp.and IntKind.u64 (a / 4294967296) 4294967295 *
                                bits BinOp.and IntKind.u64 b 4294967295) +
                            IntKind.u64.wrap
                                (bits BinOp.and IntKind.u64 a 4294967295 * bits BinOp.and IntKind.u64 b 4294967295) /
                              4294967296))
                        4294967295) *
                  4294967296))
              (bits BinOp.and IntKind.u64
                (IntKind.u64.wrap (bits BinOp.and IntKind.u64 a 4294967295 * bits BinOp.and IntKind.u64 b 4294967295))
                4294967295)) = a * b % 18446744073709551616 := by
  have ma : bits BinOp.and IntKind.u64 (a / 4294967296) 4294967295 = a / 4294967296 := by rw [and32 _ (by omega) (by omega)]; omega
  have mb : bits BinOp.and IntKind.u64 (b / 4294967296) 4294967295 = b / 4294967296 := by rw [and32 _ (by omega) (by omega)]; omega
  rw [ma, mb, and32 a h0 h1, and32 b h2 h3]
  have g1 := pro32 (a / 4294967296) (b / 4294967296) (by omega) (by omega) (by omega) (by omega)
  have g2 := pro32 (a / 4294967296) (b % 4294967296) (by omega) (by omega) (by omega) (by omega)
  have g3 := pro32 (a % 4294967296) (b / 4294967296) (by omega) (by omega) (by omega) (by omega)
  have g4 := pro32 (a % 4294967296) (b % 4294967296) (by omega) (by omega) (by omega) (by omega)
  obtain ⟨e1, e2⟩ := mul_parts a b h0 h1 h2 h3
  rw [← e1, ← e2]
  unfold mulHi mulLo
  unfold mulHi at e1
  have hH : a * b / 18446744073709551616 < 18446744073709551616 := by
    have : a * b ≤ 18446744073709551615 * 18446744073709551615 := Int.le_trans (Int.mul_le_mul_of_nonneg_right (by omega) h2) (Int.mul_le_mul_of_nonneg_left (by omega) (by decide))
    omega
  rw [← e1] at hH
  clear e1 e2 ma mb
  generalize (a / 4294967296) * (b / 4294967296) = p11 at *
  generalize (a / 4294967296) * (b % 4294967296) = p10 at *
  generalize (a % 4294967296) * (b / 4294967296) = p01 at *
  generalize (a % 4294967296) * (b % 4294967296) = p00 at *
  rw [wr64 p00 (by omega) (by omega), wr64 p10 (by omega) (by omega), wr64 p01 (by omega) (by omega), wr64 p11 (by omega) (by omega)]
  rw [wr64 (p10 + p00 / 4294967296) (by omega) (by omega), and32 (p10 + p00 / 4294967296) (by omega) (by omega)]
  rw [wr64 (p01 + (p10 + p00 / 4294967296) % 4294967296) (by omega) (by omega)]
  rw [wr64 (p11 + (p10 + p00 / 4294967296) / 4294967296) (by omega) (by omega)]
  rw [and32 p00 (by omega) (by omega)]
  refine ⟨wr64 _ (by omega) hH, ?_⟩
  rw [IntKind.wrap_u64, or32 _ _ (by omega) (by omega) (by omega) (by omega) (by omega)]
  omega
end Go.Proofs.Ytjlafoimapmjaaa.PA
