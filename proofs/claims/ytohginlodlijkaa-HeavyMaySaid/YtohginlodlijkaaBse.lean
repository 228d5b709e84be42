/- Plain: small words on items, sums and the equality of a summary with itself. -/
import Derived.Test.YtohginlodlijkaaMg
import Derived.Test.YtohginlodlijkaaPHr
namespace Go.Proofs.Ytohginlodlijkaa.PH
open Go.RowKit Go.Proofs.YtohginlodlijkaaW.PrintWords Go.Proofs.YtohginlodlijkaaW.PrintLast Go.Proofs.YtohginlodlijkaaW.PrintMore
theorem rdT_at (p s : List S51) (x : S51) : rd_T51 (p ++ x :: s) (p.length : Int) = x := by simp [rd_T51]
theorem rdT_get {l : List S51} {i : Nat} (h : i < l.length) : rd_T51 l (i : Int) = l[i] := by simp [rd_T51, h]
theorem w64s (p : List S51) (a : S51) (h : p.length ≤ 200) : wrap64 ((p.length : Int) + 1) = ((p ++ [a]).length : Int) := by
  have : ((p ++ [a]).length : Int) = p.length + 1 := by simp
  rw [this, w64 (by omega) (by omega)]
theorem u64w {x : Int} (h0 : 0 ≤ x) (h1 : x < 18446744073709551616) : IntKind.u64.wrap x = x := by rw [IntKind.wrap_u64]; omega
theorem mn_eq (a b : Int) : mn a b = min a b := by unfold mn; split <;> omega
theorem items_l0 : ∀ (s p : List S51) (k : Nat), s.length < k → (p ++ s).length ≤ 200 → skylightref17_Items.l0 k (p ++ s) (p ++ s) p.length = some true
  | [], p, k + 1, _, _ => by rw [skylightref17_Items.l0, if_neg (by simp)]
  | a :: s, p, k + 1, hk, hl => by
    simp at hl hk
    rw [skylightref17_Items.l0, if_pos (by simp; omega), if_pos (by omega), if_pos (by simp; omega), rdT_at, if_neg (by simp), w64s p a (by omega), show p ++ a :: s = (p ++ [a]) ++ s by simp]
    exact items_l0 s (p ++ [a]) k (by omega) (by simp; omega)
theorem same_eq {K T : Int} {l : List S51} {k : Nat} (hl : l.length ≤ 100) (hk : 110 ≤ k) : skylightlaw17_same.f k K T l K T l = some true := by
  have h := items_l0 l [] k (by omega) (by simpa using (by omega : l.length ≤ 200))
  simp only [List.nil_append, List.length_nil] at h
  rw [show ((0 : Nat) : Int) = 0 from rfl] at h
  unfold skylightlaw17_same.f skylightref17_Same.f skylightref17_Items.f
  rw [if_pos rfl, if_pos rfl, if_pos rfl, h]
  rfl
end Go.Proofs.Ytohginlodlijkaa.PH
