/- The contract of wide.Mul: the product's two words. -/
import Derived.Test.YtjlafoimapmjaaaProg
import Derived.Test.YtjlafoimapmjaaaWMore
import Derived.Test.YtjlafoimapmjaaaArith
namespace Go.Proofs.Ytjlafoimapmjaaa.PA
open Go.RowKit Go.Proofs.YtjlafoimapmjaaaW.PrintWords Go.Proofs.YtjlafoimapmjaaaW.PrintLast Go.Proofs.YtjlafoimapmjaaaW.PrintMore

def wide_Mul.f (a0 : Int) (a1 : Int) : Option (Int × Int) :=
  if 0 ≤ a0 ∧ a0 < 18446744073709551616 ∧ 0 ≤ a1 ∧ a1 < 18446744073709551616 then some (a0 * a1 / 18446744073709551616, a0 * a1 % 18446744073709551616) else none

theorem ret_pair {a b c d : Int} (h1 : a = c) (h2 : b = d) : Ending.returned (.tuple #[.int .u64 a, .int .u64 b]) = .returned (.tuple #[.int .u64 c, .int .u64 d]) := by rw [h1, h2]

set_option maxHeartbeats 2000000 in
set_option maxRecDepth 100000 in
theorem wide_Mul.calls (a0 a1 : Int) (r0 r1 : Int) (w : World) (h : wide_Mul.f a0 a1 = some (r0, r1)) :
    Calls Try.prog 14 #[.int .u64 a0, .int .u64 a1] w fun e w' => e = .returned (.tuple #[.int .u64 r0, .int .u64 r1]) ∧ Below w.heap.size w w' := by
  unfold wide_Mul.f at h
  split at h
  · rename_i hc
    obtain ⟨h0, h1, h2, h3⟩ := hc
    simp only [Option.some.injEq, Prod.mk.injEq] at h
    obtain ⟨rfl, rfl⟩ := h
    have H := Aside0.mk (mulHi_words a0 a1 h0 h1 h2 h3)
    clear h1 h3
    go_enter Try.func14, Try.ntmps14
    go_wp2
    go_ret2
    exact ⟨ret_pair H.out.1 H.out.2, by repeat (first | exact Below.refl _ _ | apply below_alloc)⟩
  · simp at h
end Go.Proofs.Ytjlafoimapmjaaa.PA
