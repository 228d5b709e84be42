/- Plain: what a merged summary tells of what came: the bound is kept when all counts are cut. -/
import Derived.Test.YtohginlodlijkaaJmg
namespace Go.Proofs.Ytohginlodlijkaa.PH
open Go.RowKit
/-- How many counts are at least c, and how many are more. -/
def geN (c : Int) (l : List Int) : Nat := l.countP (fun x => decide (c ≤ x))
def gtN (c : Int) (l : List Int) : Nat := l.countP (fun x => decide (c < x))
theorem cnts_perm (l : List S51) : (cnts l).Perm (l.map (·.f1)) := List.mergeSort_perm _ _
theorem cnts_sorted (l : List S51) : (cnts l).Pairwise (· ≤ ·) := by
  have := List.pairwise_mergeSort (le := fun a b : Int => decide (a ≤ b)) (fun a b c h1 h2 => by simp at *; omega) (fun a b => by simp; omega) (l.map (·.f1))
  exact this.imp (fun h => by simpa using h)
theorem cnts_length (l : List S51) : (cnts l).length = l.length := by rw [(cnts_perm l).length_eq, List.length_map]
theorem sorted_ge {r : List Int} (h : r.Pairwise (· ≤ ·)) {i : Nat} (hi : i < r.length) : r.length - i ≤ geN r[i] r := by
  have e : r = r.take i ++ r.drop i := (List.take_append_drop i r).symm
  have h2 : ∀ x ∈ r.drop i, r[i] ≤ x := fun x hx => by
    obtain ⟨j, hj, rfl⟩ := List.getElem_of_mem hx
    rw [List.getElem_drop]
    rcases Nat.eq_or_lt_of_le (Nat.le_add_right i j) with e | e
    · simp [← e]
    · exact List.pairwise_iff_getElem.1 h i (i + j) hi (by simp at hj; omega) e
  have h3 : (r.drop i).countP (fun x => decide (r[i] ≤ x)) = (r.drop i).length := List.countP_eq_length.2 (fun x hx => by simpa using h2 x hx)
  have h4 : geN r[i] r = (r.take i).countP (fun x => decide (r[i] ≤ x)) + (r.drop i).countP (fun x => decide (r[i] ≤ x)) := by
    unfold geN
    rw [← List.countP_append, List.take_append_drop]
  rw [h4, h3, List.length_drop]
  omega
theorem sorted_gt {r : List Int} (h : r.Pairwise (· ≤ ·)) {i : Nat} (hi : i < r.length) : gtN r[i] r ≤ r.length - 1 - i := by
  have h2 : ∀ x ∈ r.take (i + 1), ¬ r[i] < x := fun x hx => by
    obtain ⟨j, hj, rfl⟩ := List.getElem_of_mem hx
    rw [List.getElem_take]
    simp at hj
    rcases Nat.eq_or_lt_of_le (show j ≤ i by omega) with e | e
    · simp [e]
    · have := List.pairwise_iff_getElem.1 h j i (by omega) hi e
      omega
  have h3 : (r.take (i + 1)).countP (fun x => decide (r[i] < x)) = 0 := List.countP_eq_zero.2 (fun x hx => by simpa using h2 x hx)
  have h4 : gtN r[i] r = (r.take (i + 1)).countP (fun x => decide (r[i] < x)) + (r.drop (i + 1)).countP (fun x => decide (r[i] < x)) := by
    unfold gtN
    rw [← List.countP_append, List.take_append_drop]
  have h5 : (r.drop (i + 1)).countP (fun x => decide (r[i] < x)) ≤ (r.drop (i + 1)).length := List.countP_le_length
  rw [h4, h3]
  rw [List.length_drop] at h5
  omega
theorem cutC_at {K : Nat} {l : List S51} (h : K < l.length) : ∃ (hi : l.length - 1 - K < (cnts l).length), cutC K l = (cnts l)[l.length - 1 - K] := by
  have hi : l.length - 1 - K < (cnts l).length := by rw [cnts_length]; omega
  exact ⟨hi, by unfold cutC; simp [hi]⟩
theorem cut_ge {K : Nat} {l : List S51} (h : K < l.length) : K + 1 ≤ geN (cutC K l) (l.map (·.f1)) := by
  obtain ⟨hi, e⟩ := cutC_at h
  have := sorted_ge (cnts_sorted l) hi
  rw [← e, cnts_length] at this
  unfold geN at *
  rw [(cnts_perm l).countP_eq] at this
  omega
theorem cut_gt {K : Nat} {l : List S51} (h : K < l.length) : gtN (cutC K l) (l.map (·.f1)) ≤ K := by
  obtain ⟨hi, e⟩ := cutC_at h
  have := sorted_gt (cnts_sorted l) hi
  rw [← e, cnts_length] at this
  unfold gtN at *
  rw [(cnts_perm l).countP_eq] at this
  omega
theorem keep_length (c : Int) (l : List S51) : (keepC c l).length = gtN c (l.map (·.f1)) := by
  unfold keepC gtN
  rw [List.countP_map, List.countP_eq_length_filter]
  rfl
theorem cut_mem {K : Nat} {l : List S51} (h : K < l.length) : ∃ x ∈ l, x.f1 = cutC K l := by
  obtain ⟨hi, e⟩ := cutC_at h
  have := List.getElem_mem hi
  rw [← e, (cnts_perm l).mem_iff, List.mem_map] at this
  exact this
/-- What all lose together is at least as many times the cut as there are counts that are no less. -/
theorem sum_cut (c : Int) (hc : 0 ≤ c) : ∀ l : List S51, (∀ x ∈ l, 0 ≤ x.f1) → sumL (subC c (keepC c l)) + c * geN c (l.map (·.f1)) ≤ sumL l
  | [], _ => by simp [subC, keepC, geN, sumL]
  | x :: l, h => by
    have ih := sum_cut c hc l (fun y hy => h y (by simp [hy]))
    have hx := h x (by simp)
    unfold subC keepC geN at *
    simp only [List.map_cons, List.countP_cons, List.filter_cons, sumL]
    by_cases h1 : c < x.f1
    · rw [if_pos (by simpa using h1), if_pos (by simp; omega)]
      simp only [List.map_cons, sumL, Int.natCast_add, Int.mul_add]
      simp only [Int.natCast_one, Int.mul_one]
      omega
    · rw [if_neg (by simpa using h1)]
      by_cases h2 : c ≤ x.f1
      · rw [if_pos (by simpa using h2)]
        simp only [Int.natCast_add, Int.mul_add, Int.natCast_one, Int.mul_one]
        omega
      · rw [if_neg (by simpa using h2)]
        simp only [Nat.add_zero]
        omega
theorem getk_cut {l : List S51} (hr : Rise l) {c : Int} (hc : 0 ≤ c) (k : Int) : getk (subC c (keepC c l)) k = if c < getk l k then getk l k - c else 0 := by
  induction l with
  | nil => simp [subC, keepC, getk]; omega
  | cons x l ih =>
    obtain ⟨ha, hl⟩ := List.pairwise_cons.1 hr
    have ih := ih hl
    unfold subC keepC at *
    simp only [List.filter_cons, getk]
    by_cases e : x.f0 = k
    · simp only [if_pos e]
      have none : getk (List.map (fun y => (⟨y.f0, y.f1 - c⟩ : S51)) (List.filter (fun y => decide (c < y.f1)) l)) k = 0 := getk_none (fun s hs => by
        obtain ⟨y, hy, rfl⟩ := List.mem_map.1 hs
        have := ha y (List.mem_filter.1 hy).1
        simp only []
        omega)
      by_cases h1 : c < x.f1
      · rw [if_pos (by simpa using h1), List.map_cons, if_pos h1]
        simp only [getk]
        rw [if_pos e]
      · rw [if_neg (by simpa using h1), none, if_neg h1]
    · simp only [if_neg e]
      by_cases h1 : c < x.f1
      · rw [if_pos (by simpa using h1), List.map_cons]
        simp only [getk]
        rw [if_neg e, ih]
      · rw [if_neg (by simpa using h1), ih]
theorem cut_rise {l : List S51} (h : Rise l) (c : Int) : Rise (subC c (keepC c l)) := by
  unfold subC keepC Rise
  rw [List.pairwise_map]
  exact (h.sublist List.filter_sublist)
theorem PW.cut {K : Nat} {T : Int} {m all : List S51} (h : PW K T m all) (hr : Rise m) : PW K T (cutL K m) all ∧ Rise (cutL K m) ∧ (cutL K m).length ≤ K := by
  by_cases hl : m.length ≤ K
  · rw [cutL, if_pos hl]; exact ⟨h, hr, hl⟩
  · have hlt : K < m.length := by omega
    rw [cutL, if_neg hl]
    obtain ⟨z, hz, hzc⟩ := cut_mem hlt
    have hc1 : 1 ≤ cutC K m := by rw [← hzc]; exact (h.cnt z hz).2.2
    have hge := cut_ge hlt
    have hgt := cut_gt hlt
    have hsum := sum_cut (cutC K m) (by omega) m (fun x hx => by have := (h.cnt x hx).2.2; omega)
    have hlen := keep_length (cutC K m) m
    generalize hcc : cutC K m = c at *
    obtain ⟨E, h0, h1, h2⟩ := h.E
    refine ⟨⟨fun x hx => ?_, h.tot, h.pos, E + c, by omega, ?_, fun key => ?_⟩, cut_rise hr c, by rw [subC, List.length_map]; omega⟩
    · obtain ⟨y, hy, rfl⟩ := List.mem_map.1 hx
      obtain ⟨hy1, hy2⟩ := List.mem_filter.1 hy
      have := h.cnt y hy1
      simp only [decide_eq_true_eq] at hy2
      exact ⟨this.1, this.2.1, by show 1 ≤ y.f1 - c; omega⟩
    · have e1 : c * ((K + 1 : Nat) : Int) ≤ c * (geN c (m.map (·.f1)) : Int) := Int.mul_le_mul_of_nonneg_left (by omega) (by omega)
      have e2 : c * ((K + 1 : Nat) : Int) = ((K : Int) + 1) * c := by rw [Int.mul_comm]; simp
      rw [Int.mul_add]
      omega
    · rw [realL_rise (cut_rise hr c), getk_cut hr (by omega)]
      have := h2 key
      rw [realL_rise hr] at this
      have hnn : 0 ≤ realL all key := realL_nonneg (fun x hx => (h.pos x hx).2.2) key
      split <;> omega
theorem GS.merge {K : Int} (hK : 1 ≤ K) (ps : List (Sm × List S51)) (h : ∀ p ∈ ps, GS K p.1 p.2) (hS : sumT (ps.map (·.1)) ≤ 4503599627370496) :
    GS K ⟨K, sumT (ps.map (·.1)), cutL K.toNat (mergeL [] ((ps.map (·.1)).flatMap (·.l)))⟩ (ps.flatMap (·.2)) := by
  have h1 := (pw_all ps h).merge
  obtain ⟨n, rfl⟩ : ∃ n : Nat, K = n := ⟨K.toNat, by omega⟩
  obtain ⟨g1, g2, g3⟩ := h1.cut (merge_rise _ [] rise_nil)
  rw [Int.toNat_natCast]
  exact ⟨rfl, g1, g2, by simp only []; omega, hS⟩
/-- Merge of summaries of as many keys: either what is merged may be, or it was too much. -/
theorem mrg_cases {K : Int} (hK : 1 ≤ K) (ps : List (Sm × List S51)) (hp : 0 < ps.length) (h : ∀ p ∈ ps, GS K p.1 p.2) : (∃ s, mrg (ps.map (·.1)) = (s, 0) ∧ GS K s (ps.flatMap (·.2))) ∨ mrg (ps.map (·.1)) = (zSm, 5) := by
  have h0 : ((ps.map (·.1)).getD 0 zSm).K = K := by
    match ps, hp with
    | p :: ps, _ => exact (h p (by simp)).keys
  have hall : (ps.map (·.1)).all (fun s => decide (s.K = ((ps.map (·.1)).getD 0 zSm).K)) = true := by
    rw [List.all_eq_true]
    intro s hs
    obtain ⟨p, hp, rfl⟩ := List.mem_map.1 hs
    rw [h0, (h p hp).keys]
    simp
  unfold mrg
  rw [if_pos hall, h0]
  by_cases hS : sumT (ps.map (·.1)) ≤ 4503599627370496
  · rw [if_pos hS]
    exact .inl ⟨_, rfl, GS.merge hK ps h hS⟩
  · rw [if_neg hS]
    exact .inr rfl
end Go.Proofs.Ytohginlodlijkaa.PH
