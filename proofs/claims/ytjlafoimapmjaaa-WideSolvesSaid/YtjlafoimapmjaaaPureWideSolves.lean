/- WideSolves: by a factor that the prime does not divide, two numbers below the prime have the same product's rest only if they are the same. No conditions. -/
import Derived.Test.YtjlafoimapmjaaaPAx3
import Derived.Test.YtjlafoimapmjaaaModl
namespace Go.Proofs.Ytjlafoimapmjaaa.Pure
open Go.RowKit Go.Proofs.Ytjlafoimapmjaaa.PA Go.Proofs.YtjlafoimapmjaaaW.PrintWords Go.Proofs.YtjlafoimapmjaaaW.PrintLast

/-- By rests of the prime a factor that is not 0 can be divided by. -/
theorem cancel {a x y : Int} (ha : a % 2305843009213693951 ≠ 0) (x0 : 0 ≤ x) (x1 : x < 2305843009213693951) (y0 : 0 ≤ y) (y1 : y < 2305843009213693951)
    (h : a * x % 2305843009213693951 = a * y % 2305843009213693951) : x = y := by
  have h1 : (2305843009213693951 : Int) ∣ a * (x - y) := by
    rw [Int.mul_sub]
    exact Int.dvd_of_emod_eq_zero (by omega)
  have h2 : Prime.Q ∣ a.natAbs * (x - y).natAbs := by
    have := Int.natAbs_dvd_natAbs.2 h1
    rw [Int.natAbs_mul] at this
    exact this
  rcases Prime.divides h2 with h3 | h3
  · exfalso
    refine ha (Int.emod_eq_zero_of_dvd ?_)
    exact Int.natAbs_dvd_natAbs.1 h3
  · have h4 : (2305843009213693951 : Int) ∣ x - y := Int.natAbs_dvd_natAbs.1 h3
    have := Int.emod_eq_zero_of_dvd h4
    omega
theorem WideSolves : skylightlaw03_WideSolves.Pure := by
  intro a x y ha hx hy
  obtain ⟨a0, a1⟩ := u64_of ha
  obtain ⟨x0, x1⟩ := u64_of hx
  obtain ⟨y0, y1⟩ := u64_of hy
  refine ⟨4, ?_⟩
  unfold skylightlaw03_WideSolves.f
  rw [awake_eq 0, tmod_nat a _ a0, tmod_nat x _ x0, tmod_nat y _ y0, mulMod_eq 0 a _ a0 a1 (by omega) (by omega), mulMod_eq 0 a _ a0 a1 (by omega) (by omega)]
  simp only [Option.bind_some, if_true]
  split
  · rfl
  · rename_i hz
    congr 1
    by_cases e : x % 2305843009213693951 = y % 2305843009213693951
    · rw [e]; simp
    · have : ¬ (a * (x % 2305843009213693951) % 2305843009213693951 = a * (y % 2305843009213693951) % 2305843009213693951) :=
        fun h => e (cancel hz (by omega) (by omega) (by omega) (by omega) h)
      rw [beq_eq_false_iff_ne.2 this, beq_eq_false_iff_ne.2 e]
      rfl
end Go.Proofs.Ytjlafoimapmjaaa.Pure
