/- WideTells: of any two words the program tells the product, whole, and its rest, any sum's rest, and the rest of any number of 128 bits, as the document's own text does. No conditions. -/
import Derived.Test.YtjlafoimapmjaaaModl
namespace Go.Proofs.Ytjlafoimapmjaaa.Pure
open Go.RowKit Go.Proofs.Ytjlafoimapmjaaa.PA Go.Proofs.YtjlafoimapmjaaaW.PrintWords Go.Proofs.YtjlafoimapmjaaaW.PrintLast

theorem WideTells : skylightlaw03_WideTells.Pure := by
  intro a b ha hb
  obtain ⟨a0, a1⟩ := u64_of ha
  obtain ⟨b0, b1⟩ := u64_of hb
  refine ⟨131, ?_⟩
  unfold skylightlaw03_WideTells.f wide_Mul.f
  rw [awake_eq 127, if_pos ⟨a0, a1, b0, b1⟩, refMul_eq a b a0 a1 b0 b1, mod_eq 127 a b a0 a1 b0 b1, refMod_eq 0 a b a0 a1 b0 b1, mulMod_eq 127 a b a0 a1 b0 b1, refMulMod_eq 0 a b a0 a1 b0 b1, addMod_eq 128 a b a0 a1 b0 b1, refAddMod_eq a b a0 b0]
  simp
end Go.Proofs.Ytjlafoimapmjaaa.Pure
