/- WideTurns: factors in whatever turn have one product and one rest, three of them too; so have sums. No conditions. -/
import Derived.Test.YtjlafoimapmjaaaPAx3
import Derived.Test.YtjlafoimapmjaaaModl
namespace Go.Proofs.Ytjlafoimapmjaaa.Pure
open Go.RowKit Go.Proofs.Ytjlafoimapmjaaa.PA Go.Proofs.YtjlafoimapmjaaaW.PrintWords Go.Proofs.YtjlafoimapmjaaaW.PrintLast

theorem mod_lt (x : Int) : 0 ≤ x % 2305843009213693951 ∧ x % 2305843009213693951 < 18446744073709551616 := by omega
theorem WideTurns : skylightlaw03_WideTurns.Pure := by
  intro a b c ha hb hc
  obtain ⟨a0, a1⟩ := u64_of ha
  obtain ⟨b0, b1⟩ := u64_of hb
  obtain ⟨c0, c1⟩ := u64_of hc
  refine ⟨4, ?_⟩
  unfold skylightlaw03_WideTurns.f wide_Mul.f
  rw [awake_eq 0, if_pos ⟨a0, a1, b0, b1⟩, if_pos ⟨b0, b1, a0, a1⟩, mulMod_eq 0 a b a0 a1 b0 b1, addMod_eq 1 a b a0 a1 b0 b1, mulMod_eq 0 b c b0 b1 c0 c1, addMod_eq 1 b c b0 b1 c0 c1, addMod_eq 1 b a b0 b1 a0 a1]
  simp only [Option.bind_some]
  rw [mulMod_eq 0 _ c (mod_lt _).1 (mod_lt _).2 c0 c1, mulMod_eq 0 a _ a0 a1 (mod_lt _).1 (mod_lt _).2, addMod_eq 1 _ c (mod_lt _).1 (mod_lt _).2 c0 c1, addMod_eq 1 a _ a0 a1 (mod_lt _).1 (mod_lt _).2]
  have e1 : a * b % 2305843009213693951 * c % 2305843009213693951 = a * (b * c % 2305843009213693951) % 2305843009213693951 := by
    rw [Int.mul_emod, Int.emod_emod, ← Int.mul_emod, Int.mul_emod a, Int.emod_emod, ← Int.mul_emod, Int.mul_assoc]
  rw [Int.mul_comm b a]
  simp only [Option.bind_some, if_true, e1]
  rw [if_pos (by omega), Int.add_comm b a]
  simp
end Go.Proofs.Ytjlafoimapmjaaa.Pure
