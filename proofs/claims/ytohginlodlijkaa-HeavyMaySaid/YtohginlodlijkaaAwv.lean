/- Plain: what the calls of awake tell. -/
import Derived.Test.YtohginlodlijkaaAdd
import Derived.Test.YtohginlodlijkaaPHx5
import Derived.Test.YtohginlodlijkaaPHm
import Derived.Test.YtohginlodlijkaaPHq
namespace Go.Proofs.Ytohginlodlijkaa.PH
open Go.RowKit Go.Proofs.YtohginlodlijkaaW.PrintWords Go.Proofs.YtohginlodlijkaaW.PrintLast Go.Proofs.YtohginlodlijkaaW.PrintMore
theorem aw_new : heavy_New.f 2 = some (2, 0, [], 0) := by kernel_rfl
theorem aw_a : heavy_Add.f 2 0 [] 1 5 = some (2, 5, [⟨1, 5⟩], 0) := by kernel_rfl
theorem aw_b : heavy_Add.f 2 5 [⟨1, 5⟩] 2 3 = some (2, 8, [⟨1, 5⟩, ⟨2, 3⟩], 0) := by kernel_rfl
theorem aw_c : heavy_Add.f 2 8 [⟨1, 5⟩, ⟨2, 3⟩] 3 2 = some (2, 10, [⟨1, 3⟩, ⟨2, 1⟩], 0) := by kernel_rfl
theorem aw_of1 : heavy_Of.f 20 2 10 [⟨1, 3⟩, ⟨2, 1⟩] 1 = some 3 := by kernel_rfl
theorem aw_of2 : heavy_Of.f 20 2 10 [⟨1, 3⟩, ⟨2, 1⟩] 2 = some 1 := by kernel_rfl
theorem aw_of3 : heavy_Of.f 20 2 10 [⟨1, 3⟩, ⟨2, 1⟩] 3 = some 0 := by kernel_rfl
theorem aw_lost : heavy_Lost.f 20 2 10 [⟨1, 3⟩, ⟨2, 1⟩] = some 2 := by kernel_rfl
theorem aw_may : heavy_May.f 20 2 10 [⟨1, 3⟩, ⟨2, 1⟩] = some 0 := by kernel_rfl
theorem aw_same : heavy_Same.f 20 2 10 [⟨1, 3⟩, ⟨2, 1⟩] 2 10 [⟨1, 3⟩, ⟨2, 1⟩] = some true := by kernel_rfl
theorem aw_not : heavy_Same.f 20 2 10 [⟨1, 3⟩, ⟨2, 1⟩] 2 8 [⟨1, 5⟩, ⟨2, 3⟩] = some false := by kernel_rfl
end Go.Proofs.Ytohginlodlijkaa.PH
