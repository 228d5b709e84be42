/- Plain: what HeavyPlays compares: Lost, same, the errors. -/
import Derived.Test.YtohginlodlijkaaBrj
import Derived.Test.YtohginlodlijkaaAdde
import Derived.Test.YtohginlodlijkaaPHr
namespace Go.Proofs.Ytohginlodlijkaa.PH
open Go.RowKit Go.Proofs.YtohginlodlijkaaW.PrintWords Go.Proofs.YtohginlodlijkaaW.PrintLast Go.Proofs.YtohginlodlijkaaW.PrintMore
theorem counts_l0 : ∀ (s p : List S51) (k : Nat) (acc : Int), s.length < k → (p ++ s).length ≤ 200 → 0 ≤ acc → acc + sumL s ≤ 4503599627370496 → (∀ t ∈ s, 1 ≤ t.f1) → skylightref17_counts.l0 k (p ++ s) acc p.length = some (acc + sumL s)
  | [], p, k + 1, acc, _, _, _, _, _ => by rw [skylightref17_counts.l0, if_neg (by simp)]; simp [sumL]
  | a :: s, p, k + 1, acc, hk, hl, h0, hs, hp => by
    simp at hl hk
    have ha := hp a (by simp)
    have hp' : ∀ t ∈ s, 1 ≤ t.f1 := fun t ht => hp t (by simp [ht])
    have n1 := realL_nonneg hp' 0
    have n2 := realL_le hp' 0
    simp only [sumL] at hs
    have e : mn (IntKind.u64.wrap (acc + mn a.f1 4503599627370497)) 4503599627370497 = acc + a.f1 := by
      rw [mn_eq, mn_eq, show min a.f1 4503599627370497 = a.f1 by omega, u64w (by omega) (by omega)]
      omega
    rw [skylightref17_counts.l0, if_pos (by simp; omega), if_pos (by omega), rdT_at, e, w64s p a (by omega), show p ++ a :: s = (p ++ [a]) ++ s by simp, counts_l0 s (p ++ [a]) k _ (by omega) (by simp; omega) (by omega) (by omega) hp']
    simp only [sumL]
    congr 1
    omega
theorem lost_two {K T : Int} {l all : List S51} {k : Nat} (hK1 : 1 ≤ K) (hK8 : K ≤ 8) (hM : MG K T l all) (hk : 50 ≤ k) : ∃ E : Int, heavy_Lost.f k K T l = some E ∧ skylightref17_Lost.f k K T l = some E := by
  obtain ⟨E, hE0, hE1, hE2⟩ := hM.E
  obtain ⟨E', _, hh, _⟩ := hLost_eq hK1 hK8 hM hk
  refine ⟨E', hh, ?_⟩
  have hlen := hM.len
  have hp : ∀ t ∈ l, 1 ≤ t.f1 := fun t ht => (hM.ok.2 t ht).2.2.1
  have n1 := realL_nonneg hp 0
  have n2 := realL_le hp 0
  have hmul : 0 ≤ (K + 1) * E := Int.mul_nonneg (by omega) hE0
  have htop := hM.top
  have hT := hM.nonneg
  have hL := left_l0 l [] k T (by omega) (by simpa using (by omega : l.length ≤ 200)) (by omega) (by omega) hp
  have hC := counts_l0 l [] k 0 (by omega) (by simpa using (by omega : l.length ≤ 200)) (by omega) (by omega) hp
  simp only [List.nil_append, List.length_nil] at hL hC
  rw [show ((0 : Nat) : Int) = 0 from rfl] at hL hC
  unfold heavy_Lost.f heavy_Sum_left.f at hh
  rw [hL, Option.bind_some, if_pos rfl, if_neg (by omega), w64 (n := K + 1) (by omega) (by omega), u64w (x := K + 1) (by omega) (by omega), if_neg (by omega)] at hh
  unfold skylightref17_Lost.f skylightref17_counts.f
  rw [hC, Option.bind_some, Int.zero_add, if_neg (by omega), if_neg (by omega), if_neg (by omega), u64w (x := K) (by omega) (by omega), u64w (x := K + 1) (by omega) (by omega), if_neg (by omega), u64w (x := T - sumL l) (by omega) (by omega)]
  exact hh
theorem items_l0 : ∀ (s p : List S51) (k : Nat), s.length < k → (p ++ s).length ≤ 200 → skylightref17_Items.l0 k (p ++ s) (p ++ s) p.length = some true
  | [], p, k + 1, _, _ => by rw [skylightref17_Items.l0, if_neg (by simp)]
  | a :: s, p, k + 1, hk, hl => by
    simp at hl hk
    rw [skylightref17_Items.l0, if_pos (by simp; omega), if_pos (by omega), if_pos (by simp; omega), rdT_at, if_neg (by simp), w64s p a (by omega), show p ++ a :: s = (p ++ [a]) ++ s by simp]
    exact items_l0 s (p ++ [a]) k (by omega) (by simp; omega)
theorem same_eq {K T : Int} {l : List S51} {k : Nat} (hl : l.length ≤ 100) (hk : 110 ≤ k) : skylightlaw17_same.f k K T l K T l = some true := by
  have h := items_l0 l [] k (by omega) (by simpa using (by omega : l.length ≤ 200))
  simp only [List.nil_append, List.length_nil] at h
  rw [show ((0 : Nat) : Int) = 0 from rfl] at h
  unfold skylightlaw17_same.f skylightref17_Same.f skylightref17_Items.f
  rw [if_pos rfl, if_pos rfl, if_pos rfl, h]
  rfl
theorem refAdd_code {K T key wt : Int} {l : List S51} {k : Nat} (hT : 0 ≤ T) (hT1 : T ≤ 4503599627370496) (hw : 0 ≤ wt) (hw1 : wt < 18446744073709551616)
    (h : ¬ (key < 2305843009213693951 ∧ 1 ≤ wt ∧ T + wt ≤ 4503599627370496)) : skylightref17_Add.f k K T l key wt = some (0, 0, [], addE key wt) := by
  unfold skylightref17_Add.f addE
  by_cases h0 : wt = 0
  · rw [if_pos h0, if_pos h0]
  · rw [if_neg h0, if_neg h0]
    by_cases h1 : key < 2305843009213693951
    · rw [show skylightref04_Key.f key = some true by simp [skylightref04_Key.f, h1], Option.bind_some, if_pos rfl, if_neg (show ¬ ¬ key < 2305843009213693951 from fun hh => hh h1)]
      by_cases h2 : wt > 4503599627370496
      · rw [if_pos h2]
      · rw [if_neg h2, u64w (by omega) (by omega), if_pos (by omega)]
    · rw [show skylightref04_Key.f key = some false by simp [skylightref04_Key.f]; omega, Option.bind_some, if_neg (by simp), if_pos h1]
theorem addE_ne (key wt : Int) : addE key wt ≠ 0 := by unfold addE; split <;> (try split) <;> decide
end Go.Proofs.Ytohginlodlijkaa.PH
