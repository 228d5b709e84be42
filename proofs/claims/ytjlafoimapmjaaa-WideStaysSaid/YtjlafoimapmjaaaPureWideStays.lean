/- WideStays: rests are below the prime; times 1, and with 0, they stay; times 0 nothing is left. No conditions. -/
import Derived.Test.YtjlafoimapmjaaaPAx3
import Derived.Test.YtjlafoimapmjaaaModl
namespace Go.Proofs.Ytjlafoimapmjaaa.Pure
open Go.RowKit Go.Proofs.Ytjlafoimapmjaaa.PA Go.Proofs.YtjlafoimapmjaaaW.PrintWords Go.Proofs.YtjlafoimapmjaaaW.PrintLast

theorem WideStays : skylightlaw03_WideStays.Pure := by
  intro a b ha hb
  obtain ⟨a0, a1⟩ := u64_of ha
  obtain ⟨b0, b1⟩ := u64_of hb
  refine ⟨4, ?_⟩
  unfold skylightlaw03_WideStays.f
  rw [awake_eq 0, mod_eq 0 a b a0 a1 b0 b1, mulMod_eq 0 a 0 a0 a1 (by omega) (by omega)]
  simp only [Option.bind_some, if_true]
  have h0 : 0 ≤ (a * 18446744073709551616 + b) % 2305843009213693951 := by omega
  have h1 : (a * 18446744073709551616 + b) % 2305843009213693951 < 2305843009213693951 := by omega
  generalize (a * 18446744073709551616 + b) % 2305843009213693951 = n at *
  rw [wr64 (2305843009213693951 - n) (by omega) (by omega)]
  rw [if_pos h1, mulMod_eq 0 n 1 h0 (by omega) (by omega) (by omega), addMod_eq 1 n 0 h0 (by omega) (by omega) (by omega), addMod_eq 1 n _ h0 (by omega) (by omega) (by omega), mod_eq 0 0 n (by omega) (by omega) h0 (by omega)]
  simp only [Option.bind_some, Int.mul_one, Int.mul_zero, Int.zero_mul, Int.zero_add, Int.add_zero]
  rw [Int.emod_eq_of_lt h0 h1, if_pos rfl, if_pos rfl, if_pos (by decide), if_pos (by omega)]
  simp
end Go.Proofs.Ytjlafoimapmjaaa.Pure
