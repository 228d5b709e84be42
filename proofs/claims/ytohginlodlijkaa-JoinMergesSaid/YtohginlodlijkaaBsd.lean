/- Plain: small words on items and sums. -/
import Derived.Test.YtohginlodlijkaaMg
namespace Go.Proofs.Ytohginlodlijkaa.PH
open Go.RowKit Go.Proofs.YtohginlodlijkaaW.PrintWords Go.Proofs.YtohginlodlijkaaW.PrintLast Go.Proofs.YtohginlodlijkaaW.PrintMore
theorem rdT_at (p s : List S51) (x : S51) : rd_T51 (p ++ x :: s) (p.length : Int) = x := by simp [rd_T51]
theorem rdT_get {l : List S51} {i : Nat} (h : i < l.length) : rd_T51 l (i : Int) = l[i] := by simp [rd_T51, h]
theorem w64s (p : List S51) (a : S51) (h : p.length ≤ 200) : wrap64 ((p.length : Int) + 1) = ((p ++ [a]).length : Int) := by
  have : ((p ++ [a]).length : Int) = p.length + 1 := by simp
  rw [this, w64 (by omega) (by omega)]
theorem u64w {x : Int} (h0 : 0 ≤ x) (h1 : x < 18446744073709551616) : IntKind.u64.wrap x = x := by rw [IntKind.wrap_u64]; omega
theorem mn_eq (a b : Int) : mn a b = min a b := by unfold mn; split <;> omega
end Go.Proofs.Ytohginlodlijkaa.PH
