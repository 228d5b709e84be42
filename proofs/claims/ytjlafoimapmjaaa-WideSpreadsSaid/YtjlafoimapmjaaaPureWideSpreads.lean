/- WideSpreads: a product by a sum is the sum of the products, of rests. No conditions. -/
import Derived.Test.YtjlafoimapmjaaaPAx3
import Derived.Test.YtjlafoimapmjaaaModl
namespace Go.Proofs.Ytjlafoimapmjaaa.Pure
open Go.RowKit Go.Proofs.Ytjlafoimapmjaaa.PA Go.Proofs.YtjlafoimapmjaaaW.PrintWords Go.Proofs.YtjlafoimapmjaaaW.PrintLast

theorem mod_lt (x : Int) : 0 ≤ x % 2305843009213693951 ∧ x % 2305843009213693951 < 18446744073709551616 := by omega
theorem WideSpreads : skylightlaw03_WideSpreads.Pure := by
  intro a b c ha hb hc
  obtain ⟨a0, a1⟩ := u64_of ha
  obtain ⟨b0, b1⟩ := u64_of hb
  obtain ⟨c0, c1⟩ := u64_of hc
  refine ⟨4, ?_⟩
  unfold skylightlaw03_WideSpreads.f
  rw [awake_eq 0, addMod_eq 1 b c b0 b1 c0 c1, mulMod_eq 0 a b a0 a1 b0 b1, mulMod_eq 0 a c a0 a1 c0 c1]
  simp only [Option.bind_some]
  rw [mulMod_eq 0 a _ a0 a1 (mod_lt _).1 (mod_lt _).2, addMod_eq 1 _ _ (mod_lt _).1 (mod_lt _).2 (mod_lt _).1 (mod_lt _).2]
  have e1 : a * ((b + c) % 2305843009213693951) % 2305843009213693951 = (a * b % 2305843009213693951 + a * c % 2305843009213693951) % 2305843009213693951 := by
    rw [Int.mul_emod, Int.emod_emod, ← Int.mul_emod, Int.mul_add, Int.add_emod]
  simp [e1]
end Go.Proofs.Ytjlafoimapmjaaa.Pure
