/- What the printed functions of columns tell. -/
import Derived.Test.YtjlafoimapmjaaaModl
import Derived.Test.YtjlafoimapmjaaaPAx4
import Derived.Test.YtjlafoimapmjaaaPAx5
namespace Go.Proofs.Ytjlafoimapmjaaa.Pure
open Go.RowKit Go.Proofs.Ytjlafoimapmjaaa.PA Go.Proofs.YtjlafoimapmjaaaW.PrintWords Go.Proofs.YtjlafoimapmjaaaW.PrintLast Go.Proofs.YtjlafoimapmjaaaW.PrintMore

theorem i64_of {x : Int} (h : (Lit.int .i64 x).wf = true) : -9223372036854775808 ≤ x ∧ x < 9223372036854775808 := by
  simp [Lit.wf, IntKind.min, IntKind.max, IntKind.signed, IntKind.bits] at h
  omega
theorem u16_of {x : Int} (h : (Lit.int .u16 x).wf = true) : 0 ≤ x ∧ x < 65536 := by
  simp [Lit.wf, IntKind.min, IntKind.max, IntKind.signed, IntKind.bits] at h
  omega

/-- A seed may be. -/
def mayB (a b : Int) : Bool := decide (1 ≤ a) && decide (a < 2305843009213693951) && decide (b < 2305843009213693951)
/-- The column of a key. -/
def colN (a b x w : Int) : Int := if w < 1 then 0 else if mayB a b && decide (x < 2305843009213693951) then (a * x + b) % 2305843009213693951 % w else 0

theorem may_eq (a b : Int) (a0 : 0 ≤ a) (b0 : 0 ≤ b) : hash_May.f a b = some (mayB a b) := by
  unfold hash_May.f mayB
  rw [tmod_nat a _ a0, tmod_nat b _ b0]
  split
  · rename_i h
    rw [Bool.and_eq_true, beq_iff_eq, beq_iff_eq] at h
    congr 1
    rw [Bool.eq_iff_iff]; simp; omega
  · rename_i h
    rw [Bool.and_eq_true, beq_iff_eq, beq_iff_eq] at h
    congr 1
    symm
    rw [Bool.eq_false_iff]
    intro h2
    simp at h2
    exact h ⟨by omega, by omega⟩
theorem refMay_eq (a b : Int) : skylightref04_May.f a b = some (mayB a b) := by
  unfold skylightref04_May.f mayB
  split
  · rename_i h1
    split
    · rename_i h2
      congr 1
      rw [Bool.eq_iff_iff]; simp; omega
    · rename_i h2
      congr 1
      symm
      rw [Bool.eq_false_iff]; simp; omega
  · rename_i h1
    congr 1
    symm
    rw [Bool.eq_false_iff]; simp; omega

theorem mod_bd (x w : Int) (hw : 1 ≤ w) : 0 ≤ x % w ∧ x % w < w := ⟨Int.emod_nonneg x (by omega), Int.emod_lt_of_pos x (by omega)⟩
theorem mm (a x b : Int) : (a * x % 2305843009213693951 + b) % 2305843009213693951 = (a * x + b) % 2305843009213693951 := by omega

theorem col_eq (k : Nat) (a b x w : Int) (a0 : 0 ≤ a) (a1 : a < 18446744073709551616) (b0 : 0 ≤ b) (b1 : b < 18446744073709551616) (x0 : 0 ≤ x) (x1 : x < 18446744073709551616) (w1 : w < 9223372036854775808) :
    hash_Column.f (k + 5) a b x w = some (colN a b x w) := by
  unfold hash_Column.f colN
  have hj : hash_Column.j0 (k + 5) x w true a b = some 0 := by simp [hash_Column.j0]
  split
  · exact hj
  · rename_i hw
    rw [may_eq a b a0 b0]
    simp only [Option.bind_some]
    cases hm : mayB a b
    · simp [hj]
    · simp only [if_true, Bool.true_and, hash_Key.f, Option.bind_some]
      by_cases hx : x < 2305843009213693951
      · have hd : decide (x < 2305843009213693951) = true := decide_eq_true hx
        rw [hd]
        simp only [Bool.not_true, if_true, hash_Column.j0]
        rw [if_neg (by decide), mulMod_eq k a x a0 a1 x0 x1]
        simp only [Option.bind_some]
        rw [addMod_eq (k + 1) _ b (by omega) (by omega) b0 b1]
        simp only [Option.bind_some]
        rw [wr64 w (by omega) (by omega), if_neg (by omega), tmod_nat _ _ (by omega), mm]
        have := mod_bd ((a * x + b) % 2305843009213693951) w (by omega)
        rw [wrap64_small _ (by omega) (by omega)]
      · have hd : decide (x < 2305843009213693951) = false := decide_eq_false hx
        rw [hd]
        simp [hj]

theorem refCol_eq (k : Nat) (a b x w : Int) (a0 : 0 ≤ a) (a1 : a < 18446744073709551616) (b0 : 0 ≤ b) (x0 : 0 ≤ x) (x1 : x < 18446744073709551616) (w1 : w < 9223372036854775808) :
    skylightref04_Column.f (k + 131) a b x w = some (colN a b x w) := by
  unfold skylightref04_Column.f colN
  split
  · rfl
  · rename_i hw
    rw [refMay_eq a b]
    simp only [Option.bind_some]
    cases hm : mayB a b
    · simp
    · simp only [if_true, Bool.true_and, skylightref04_Key.f, Option.bind_some]
      by_cases hx : x < 2305843009213693951
      · have hd : decide (x < 2305843009213693951) = true := decide_eq_true hx
        rw [hd]
        simp only [if_true, skylightref04_Rest.f]
        rw [refMulMod_eq k a x a0 a1 x0 x1]
        simp only [Option.bind_some]
        rw [refAddMod_eq _ b (by omega) b0]
        simp only [Option.bind_some]
        rw [wr64 w (by omega) (by omega), if_neg (by omega), tmod_nat _ _ (by omega), mm]
        have := mod_bd ((a * x + b) % 2305843009213693951) w (by omega)
        rw [wrap64_small _ (by omega) (by omega)]
      · have hd : decide (x < 2305843009213693951) = false := decide_eq_false hx
        rw [hd]
        simp

theorem hawake_eq (k : Nat) : skylightlaw04_awake.f (k + 5) = some true := by
  have e1 : hash_Columns.f [⟨3, 4⟩, ⟨1, 0⟩] 5 10 = some [9, 5] := by
    unfold hash_Columns.f
    rw [if_pos (by decide)]
    simp only [colsOf]
    rw [show (100 : Nat) = 95 + 5 from rfl, col_eq 95 3 4 5 10 (by omega) (by omega) (by omega) (by omega) (by omega) (by omega) (by omega), col_eq 95 1 0 5 10 (by omega) (by omega) (by omega) (by omega) (by omega) (by omega) (by omega)]
    decide
  unfold skylightlaw04_awake.f
  rw [e1, col_eq k 3 4 5 10 (by omega) (by omega) (by omega) (by omega) (by omega) (by omega) (by omega), may_eq 3 4 (by omega) (by omega), may_eq 0 4 (by omega) (by omega)]
  decide

theorem HashTells_pure (a b x w : Int) (ha : (Lit.int .u64 a).wf = true) (hb : (Lit.int .u64 b).wf = true) (hx : (Lit.int .u64 x).wf = true) (hw : (Lit.int .i64 w).wf = true) : skylightlaw04_HashTells.f 200 a b x w = some true := by
  obtain ⟨a0, a1⟩ := u64_of ha
  obtain ⟨b0, b1⟩ := u64_of hb
  obtain ⟨x0, x1⟩ := u64_of hx
  obtain ⟨w0, w1⟩ := i64_of hw
  unfold skylightlaw04_HashTells.f
  rw [show (200 : Nat) = 195 + 5 from rfl, hawake_eq 195, col_eq 195 a b x w a0 a1 b0 b1 x0 x1 w1, show (195 + 5 : Nat) = 69 + 131 from rfl, refCol_eq 69 a b x w a0 a1 b0 x0 x1 w1, may_eq a b a0 b0, refMay_eq a b]
  simp [hash_Key.f, skylightref04_Key.f]
end Go.Proofs.Ytjlafoimapmjaaa.Pure
