/- Plain: heavy's Same and Lost and the document's, of any summaries of at most 300 items. -/
import Derived.Test.YtohginlodlijkaaBrm
import Derived.Test.YtohginlodlijkaaPHq
namespace Go.Proofs.Ytohginlodlijkaa.PH
open Go.RowKit Go.Proofs.YtohginlodlijkaaW.PrintWords Go.Proofs.YtohginlodlijkaaW.PrintLast Go.Proofs.YtohginlodlijkaaW.PrintMore
theorem same_loop {l1 l2 : List S51} (he : l1.length = l2.length) (hl : l1.length ≤ 400) : ∀ (m i k : Nat), i + m = l1.length → m < k → ∃ r : Bool, api_Item_47.l0 k l1 l2 l1.length i = some r ∧ skylightref17_Items.l0 k l1 l2 i = some r
  | 0, i, k + 1, hi, hk => ⟨true, by rw [api_Item_47.l0, if_neg (by omega)], by rw [skylightref17_Items.l0, if_neg (by omega)]⟩
  | m + 1, i, k + 1, hi, hk => by
    have c1 : (i : Int) < (l1.length : Int) := by omega
    have c2 : (0 : Int) ≤ (i : Int) := by omega
    have c3 : (i : Int) < (l2.length : Int) := by omega
    have ew : wrap64 ((i : Int) + 1) = ((i + 1 : Nat) : Int) := by rw [w64 (by omega) (by omega)]; omega
    rw [api_Item_47.l0, if_pos c1, if_pos c2, if_pos c1, if_pos c3, skylightref17_Items.l0, if_pos c1, if_pos c2, if_pos c3, ew]
    split
    · exact ⟨false, rfl, rfl⟩
    · exact same_loop he hl m (i + 1) k (by omega) (by omega)
theorem same_both {K1 T1 K2 T2 : Int} {l1 l2 : List S51} {k : Nat} (hk : 500 ≤ k) (h1 : l1.length ≤ 300) : ∃ r : Bool, heavy_Same.f k K1 T1 l1 K2 T2 l2 = some r ∧ skylightref17_Same.f k K1 T1 l1 K2 T2 l2 = some r := by
  unfold heavy_Same.f skylightref17_Same.f api_Item_47.f skylightref17_Items.f
  by_cases a : K1 = K2
  · rw [if_pos a, if_pos a]
    by_cases b : T1 = T2
    · rw [if_pos b, if_pos b]
      by_cases c : (l1.length : Int) = (l2.length : Int)
      · rw [if_pos c, if_pos c]
        obtain ⟨r, e1, e2⟩ := same_loop (l1 := l1) (l2 := l2) (by omega) (by omega) l1.length 0 k (by omega) (by omega)
        rw [show ((0 : Nat) : Int) = 0 from rfl] at e1 e2
        exact ⟨r, by rw [e1]; rfl, by rw [e2]; rfl⟩
      · rw [if_neg c, if_neg c]; exact ⟨false, rfl, rfl⟩
    · rw [if_neg b, if_neg b]; exact ⟨false, rfl, rfl⟩
  · rw [if_neg a, if_neg a]; exact ⟨false, rfl, rfl⟩
theorem lost_both {K T : Int} {l : List S51} {k : Nat} (hk : 1000 ≤ k) (hl : l.length ≤ 300) (hT : 0 ≤ T) (h : ∀ t ∈ l, 0 ≤ t.f1) (hm : mayV K T l = 0) : ∃ r : Int, heavy_Lost.f k K T l = some r ∧ skylightref17_Lost.f k K T l = some r := by
  unfold mayV at hm
  have hK : 1 ≤ K ∧ K ≤ 256 := by
    by_cases hK : 1 ≤ K ∧ K ≤ 256
    · exact hK
    · rw [if_neg hK] at hm; exact absurd hm (by decide)
  rw [if_pos hK] at hm
  obtain ⟨_, a2, a3, _, _⟩ : (l.length : Int) ≤ K ∧ T ≤ 4503599627370496 ∧ sumL l ≤ T ∧ chain0 l = true ∧ l.any oddT = false := by
    by_cases hh : (l.length : Int) ≤ K ∧ T ≤ 4503599627370496 ∧ sumL l ≤ T ∧ chain0 l = true ∧ l.any oddT = false
    · exact hh
    · rw [if_neg hh] at hm; exact absurd hm (by decide)
  have hn := sumL_nonneg h
  obtain ⟨y, h1, h2⟩ := left_any l [] k T (by omega) (by simpa using (by omega : l.length ≤ 500)) hT (by omega) h
  have hC := counts_any l [] k 0 (by omega) (by simpa using (by omega : l.length ≤ 500)) (by omega) (by omega) h
  simp only [List.nil_append, List.length_nil] at h1 hC
  rw [show ((0 : Nat) : Int) = 0 from rfl] at h1 hC
  rw [h2 a3, decide_eq_true a3] at h1
  rw [show min (0 + sumL l) 4503599627370497 = sumL l by omega] at hC
  refine ⟨IntKind.u64.wrap (Int.tdiv (T - sumL l) (K + 1)), ?_, ?_⟩
  · unfold heavy_Lost.f heavy_Sum_left.f
    rw [h1, Option.bind_some, if_pos rfl, if_neg (by omega), w64 (n := K + 1) (by omega) (by omega), u64w (x := K + 1) (by omega) (by omega), if_neg (by omega)]
  · unfold skylightref17_Lost.f skylightref17_counts.f
    rw [hC, Option.bind_some, if_neg (by omega), if_neg (by omega), if_neg (by omega), u64w (x := K) (by omega) (by omega), u64w (x := K + 1) (by omega) (by omega), if_neg (by omega), u64w (x := T - sumL l) (by omega) (by omega)]
end Go.Proofs.Ytohginlodlijkaa.PH
