/- Plain: the document's cut is the program's. -/
import Derived.Test.YtohginlodlijkaaJmp
import Derived.Test.YtohginlodlijkaaJpc
namespace Go.Proofs.Ytohginlodlijkaa.PH
open Go.RowKit Go.Proofs.YtohginlodlijkaaW.PrintWords Go.Proofs.YtohginlodlijkaaW.PrintLast Go.Proofs.YtohginlodlijkaaW.PrintMore
/-- How many counts stand above the one at a place: more, or as great and ahead. -/
def abv (l : List S51) (a : Nat) (i : Nat) : Nat := (l.take i).countP (fun x => decide ((l.getD a z51).f1 < x.f1)) + (l.take (min i a)).countP (fun x => decide (x.f1 = (l.getD a z51).f1))
theorem wr_i {i : Nat} (h : i ≤ 400) : wrap64 ((i : Int) + 1) = ((i + 1 : Nat) : Int) := by rw [w64 (by omega) (by omega)]; omega
theorem abv_succ {l : List S51} {a i : Nat} (hi : i < l.length) : abv l a (i + 1) = abv l a i + (if (l.getD a z51).f1 < (l.getD i z51).f1 then 1 else if (l.getD i z51).f1 = (l.getD a z51).f1 ∧ i < a then 1 else 0) := by
  have e1 : l.take (i + 1) = l.take i ++ [l.getD i z51] := by rw [List.take_succ_eq_append_getElem hi]; simp [hi]
  unfold abv
  rw [e1, List.countP_append]
  by_cases hia : i < a
  · rw [Nat.min_eq_left (show i ≤ a by omega), Nat.min_eq_left (show i + 1 ≤ a by omega), e1, List.countP_append]
    generalize l.getD i z51 = x
    generalize (l.getD a z51).f1 = c
    simp only [List.countP_singleton, decide_eq_true_eq]
    by_cases h1 : c < x.f1
    · rw [if_pos h1, if_neg (by omega), if_pos h1]; omega
    · rw [if_neg h1, if_neg h1]
      by_cases h2 : x.f1 = c
      · rw [if_pos h2, if_pos ⟨h2, hia⟩]; omega
      · rw [if_neg h2, if_neg (fun h => h2 h.1)]; omega
  · rw [Nat.min_eq_right (show a ≤ i by omega), Nat.min_eq_right (show a ≤ i + 1 by omega)]
    generalize l.getD i z51 = x
    generalize (l.getD a z51).f1 = c
    simp only [List.countP_singleton, decide_eq_true_eq]
    by_cases h1 : c < x.f1
    · rw [if_pos h1, if_pos h1]; omega
    · rw [if_neg h1, if_neg h1, if_neg (fun h => hia h.2)]; omega
theorem abv_le (l : List S51) (a i : Nat) : abv l a i ≤ 2 * l.length := by
  unfold abv
  have h1 := List.countP_le_length (p := fun x : S51 => decide ((l.getD a z51).f1 < x.f1)) (l := l.take i)
  have h2 := List.countP_le_length (p := fun x : S51 => decide (x.f1 = (l.getD a z51).f1)) (l := l.take (min i a))
  rw [List.length_take] at h1 h2
  omega
theorem rdT_getD (l : List S51) (i : Nat) : rd_T51 l (i : Int) = l.getD i z51 := by simp [rd_T51]
theorem above_l0 {l : List S51} {a : Nat} (ha : a < l.length) (hl : l.length ≤ 100) : ∀ (m i k : Nat), i + m = l.length → m < k → skylightref18_above.l0 k l (a : Int) (abv l a i : Int) (i : Int) = some (abv l a l.length : Int) := by
  intro m
  induction m with
  | zero =>
    intro i k hi hk
    obtain ⟨k, rfl⟩ : ∃ q, k = q + 1 := ⟨k - 1, by omega⟩
    obtain rfl : i = l.length := by omega
    rw [skylightref18_above.l0, if_neg (by omega)]
  | succ m ih =>
    intro i k hi hk
    obtain ⟨k, rfl⟩ : ∃ q, k = q + 1 := ⟨k - 1, by omega⟩
    have hil : i < l.length := by omega
    have hs := abv_succ (a := a) hil
    have hle := abv_le l a i
    have ih1 := ih (i + 1) k (by omega) (by omega)
    have ew := wr_i (i := i) (by omega)
    have ew2 := wr_i (i := abv l a i) (by omega)
    have c1 : (i : Int) < (l.length : Int) := by omega
    have c2 : (0 : Int) ≤ (i : Int) := by omega
    have c3 : (0 : Int) ≤ (a : Int) := by omega
    have c4 : (a : Int) < (l.length : Int) := by omega
    rw [skylightref18_above.l0, if_pos c1, if_pos c2, if_pos c3, if_pos c4, rdT_getD, rdT_getD, ew, ew2]
    by_cases h1 : (l.getD a z51).f1 < (l.getD i z51).f1
    · rw [if_pos h1] at hs
      rw [hs] at ih1
      rw [if_pos h1]
      exact ih1
    · rw [if_neg h1] at hs
      rw [if_neg h1]
      by_cases h2 : (l.getD i z51).f1 = (l.getD a z51).f1
      · rw [if_pos h2]
        by_cases h3 : i < a
        · rw [if_pos ⟨h2, h3⟩] at hs
          rw [hs] at ih1
          rw [if_pos (by omega)]
          exact ih1
        · rw [if_neg (fun h => h3 h.2)] at hs
          rw [hs] at ih1
          rw [if_neg (by omega)]
          exact ih1
      · rw [if_neg (fun h => h2 h.1)] at hs
        rw [hs] at ih1
        rw [if_neg h2]
        exact ih1
/-- How many stand above the one at a place. -/
def rank (l : List S51) (a : Nat) : Nat := abv l a l.length
theorem rank_eq {l : List S51} {a : Nat} (ha : a < l.length) : rank l a = gtN (l.getD a z51).f1 (l.map (·.f1)) + (l.take a).countP (fun x => decide (x.f1 = (l.getD a z51).f1)) := by
  unfold rank abv gtN
  rw [List.take_length, Nat.min_eq_right (by omega), List.countP_map]
  rfl
theorem above_eq {l : List S51} {a k : Nat} (ha : a < l.length) (hl : l.length ≤ 100) (hk : 150 ≤ k) : skylightref18_above.f k l (a : Int) = some (rank l a : Int) := by
  have := above_l0 ha hl l.length 0 k (by omega) (by omega)
  have e : abv l a 0 = 0 := by simp [abv]
  rw [e] at this
  exact this
theorem ge_split (c : Int) (q : List Int) : geN c q = gtN c q + q.countP (fun x => decide (x = c)) := by
  unfold geN gtN
  induction q with
  | nil => rfl
  | cons a q ih =>
    simp only [List.countP_cons, decide_eq_true_eq, ih]
    by_cases h1 : c < a
    · rw [if_pos (by omega), if_pos h1, if_neg (by omega)]; omega
    · by_cases h2 : a = c
      · rw [if_pos (by omega), if_neg h1, if_pos h2]; omega
      · rw [if_neg (by omega), if_neg h1, if_neg h2]; omega
theorem eq_at (l : List S51) {a : Nat} (ha : a < l.length) : (l.take a).countP (fun x => decide (x.f1 = (l.getD a z51).f1)) + 1 ≤ (l.map (·.f1)).countP (fun x => decide (x = (l.getD a z51).f1)) := by
  have e : l = l.take a ++ (l.getD a z51 :: l.drop (a + 1)) := by
    have h1 := (List.take_append_drop a l).symm
    rw [List.drop_eq_getElem_cons ha] at h1
    have h2 : l.getD a z51 = l[a] := by simp [ha]
    rw [h2]; exact h1
  have h3 : (l.map (·.f1)).countP (fun x => decide (x = (l.getD a z51).f1)) = l.countP (fun x => decide (x.f1 = (l.getD a z51).f1)) := by rw [List.countP_map]; rfl
  rw [h3]
  generalize hc : (l.getD a z51).f1 = c
  rw [show l.countP (fun x => decide (x.f1 = c)) = (l.take a ++ (l.getD a z51 :: l.drop (a + 1))).countP (fun x => decide (x.f1 = c)) from congrArg _ e, List.countP_append, List.countP_cons]
  rw [if_pos (by simpa using hc)]
  omega
/-- The one of which so many stand above is the cut. -/
theorem rank_cut {l : List S51} {a K : Nat} (ha : a < l.length) (hr : rank l a = K) : K < l.length ∧ (l.getD a z51).f1 = cutC K l := by
  rw [rank_eq ha] at hr
  have h1 := eq_at l ha
  have h2 := ge_split (l.getD a z51).f1 (l.map (·.f1))
  have hlen : geN (l.getD a z51).f1 (l.map (·.f1)) ≤ l.length := by
    have := List.countP_le_length (p := fun x : Int => decide ((l.getD a z51).f1 ≤ x)) (l := l.map (·.f1))
    rw [List.length_map] at this
    exact this
  have hK : K < l.length := by omega
  refine ⟨hK, ?_⟩
  have g1 := cut_ge hK
  have g2 := cut_gt hK
  generalize (l.getD a z51).f1 = c at *
  generalize cutC K l = d at *
  have mono : ∀ {x y : Int}, x < y → geN y (l.map (·.f1)) ≤ gtN x (l.map (·.f1)) := fun {x y} h => by
    unfold geN gtN
    exact List.countP_mono_left (fun z _ hz => by simp at hz ⊢; omega)
  rcases Int.lt_trichotomy c d with h | h | h
  · have := mono h; omega
  · exact h
  · have := mono h; omega
theorem count_place {p : S51 → Bool} : ∀ (l : List S51) (t : Nat), t < l.countP p → ∃ i, i < l.length ∧ p (l.getD i z51) = true ∧ (l.take i).countP p = t := by
  intro l
  induction l with
  | nil => intro t h; simp at h
  | cons x l ih =>
    intro t h
    rw [List.countP_cons] at h
    by_cases hx : p x = true
    · rcases t with _ | t
      · exact ⟨0, by simp, by simpa using hx, by simp⟩
      · rw [if_pos hx] at h
        obtain ⟨i, h1, h2, h3⟩ := ih t (by omega)
        exact ⟨i + 1, by simpa using h1, by simpa using h2, by rw [List.take_succ_cons, List.countP_cons, if_pos hx, h3]⟩
    · rw [if_neg hx] at h
      obtain ⟨i, h1, h2, h3⟩ := ih t (by omega)
      exact ⟨i + 1, by simpa using h1, by simpa using h2, by rw [List.take_succ_cons, List.countP_cons, if_neg hx, h3]; rfl⟩
theorem rank_some {l : List S51} {K : Nat} (h : K < l.length) : ∃ a, a < l.length ∧ rank l a = K := by
  have g1 := cut_ge h
  have g2 := cut_gt h
  have g3 := ge_split (cutC K l) (l.map (·.f1))
  have g4 : (l.map (·.f1)).countP (fun x => decide (x = cutC K l)) = l.countP (fun x => decide (x.f1 = cutC K l)) := by rw [List.countP_map]; rfl
  obtain ⟨a, h1, h2, h3⟩ := count_place (p := fun x : S51 => decide (x.f1 = cutC K l)) l (K - gtN (cutC K l) (l.map (·.f1))) (by omega)
  have e : (l.getD a z51).f1 = cutC K l := by simpa using h2
  refine ⟨a, h1, ?_⟩
  rw [rank_eq h1, e, h3]
  omega
theorem cut_l0 {l : List S51} {K : Nat} (hl : l.length ≤ 100) : ∀ (m i k : Nat), i + m = l.length → 200 + m < k → (∀ a, a < i → rank l a ≠ K) → skylightref18_cut.l0 k l (K : Int) (i : Int) = some (if K < l.length then cutC K l else 0) := by
  intro m
  induction m with
  | zero =>
    intro i k hi hk hn
    obtain ⟨k, rfl⟩ : ∃ q, k = q + 1 := ⟨k - 1, by omega⟩
    have c1 : ¬ (i : Int) < (l.length : Int) := by omega
    have c2 : ¬ K < l.length := fun h => by
      obtain ⟨a, h1, h2⟩ := rank_some h
      exact hn a (by omega) h2
    rw [skylightref18_cut.l0, if_neg c1, if_neg c2]
  | succ m ih =>
    intro i k hi hk hn
    obtain ⟨k, rfl⟩ : ∃ q, k = q + 1 := ⟨k - 1, by omega⟩
    have hil : i < l.length := by omega
    have c1 : (i : Int) < (l.length : Int) := by omega
    have c2 : (0 : Int) ≤ (i : Int) := by omega
    rw [skylightref18_cut.l0, if_pos c1, above_eq hil hl (by omega), Option.bind_some]
    by_cases hr : rank l i = K
    · obtain ⟨h1, h2⟩ := rank_cut hil hr
      rw [if_pos (by omega), if_pos c2, rdT_getD, h2, if_pos h1]
    · rw [if_neg (by omega), wr_i (by omega)]
      exact ih (i + 1) k (by omega) (by omega) (fun a ha => by
        rcases Nat.lt_or_eq_of_le (show a ≤ i by omega) with h | h
        · exact hn a h
        · rw [h]; exact hr)
theorem cut18_eq {l : List S51} {K k : Nat} (hl : l.length ≤ 100) (hk : 400 ≤ k) : skylightref18_cut.f k l (K : Int) = some (if K < l.length then cutC K l else 0) :=
  cut_l0 hl l.length 0 k (by omega) (by omega) (fun a ha => by omega)
theorem less18_eq {l : List S51} {d : Int} {k : Nat} (hd : 0 ≤ d) (h : ∀ s ∈ l, s.f1 < 18446744073709551616) (hk : l.length < k) (hl : l.length ≤ 200) : skylightref17_Less.f k l d = some (subC d (keepC d l)) := by
  have := less_l0 d hd l [] [] k h hk (by simpa using hl) (by simp)
  have e : l.filterMap (lessF d) = subC d (keepC d l) := by
    clear this h hk hl
    induction l with
    | nil => rfl
    | cons a l ih =>
      unfold subC keepC at *
      rw [List.filterMap_cons, ih, List.filter_cons]
      by_cases hh : d < a.f1
      · rw [show lessF d a = some ⟨a.f0, a.f1 - d⟩ by simp [lessF, hh], if_pos (by simpa using hh)]
        rfl
      · rw [show lessF d a = none by simp [lessF, hh], if_neg (by simpa using hh)]
  rw [← e]
  simpa [skylightref17_Less.f] using this
theorem sub_zero {l : List S51} (h : ∀ s ∈ l, 1 ≤ s.f1) : subC 0 (keepC 0 l) = l := by
  unfold subC keepC
  rw [List.filter_eq_self.2 (fun x hx => by have := h x hx; simp; omega)]
  have : (fun x : S51 => (⟨x.f0, x.f1 - 0⟩ : S51)) = id := by funext x; simp
  rw [this, List.map_id]
theorem sumT_app (a b : List Sm) : sumT (a ++ b) = sumT a + sumT b := by
  induction a with
  | nil => simp [sumT]
  | cons x a ih => simp only [List.cons_append, sumT, ih]; omega
/-- The document's total, as it stops. -/
theorem tot_next {t x : Int} (h0 : 0 ≤ t) (hx : 0 ≤ x) (hx1 : x ≤ 4503599627370496) : mn (IntKind.u64.wrap (min t 4503599627370497 + x)) 4503599627370497 = min (t + x) 4503599627370497 := by
  rw [mn_eq, u64w (by omega) (by omega)]
  omega
theorem merge_pos : ∀ (s acc : List S51), Rise acc → (∀ x ∈ acc, 1 ≤ x.f1) → (∀ x ∈ s, 1 ≤ x.f1) → ∀ x ∈ mergeL acc s, 1 ≤ x.f1 := by
  intro s
  induction s with
  | nil => intro acc _ h _; exact h
  | cons y s ih =>
    intro acc hr h hs
    have hy := hs y (by simp)
    have hg := (sum_nn (q := acc) (fun x hx => by have := h x hx; omega)).2 y.f0
    exact ih _ (putk_rise hr _ _) (fun z hz => by
      rcases putk_mem hz with rfl | hz
      · show 1 ≤ getk acc y.f0 + y.f1; omega
      · exact h z hz) (fun z hz => hs z (by simp [hz]))
theorem merge18_fin {ls : List Sm} (hk6 : ls.length ≤ 6) (hM : MOk ls) (hfl : (ls.flatMap (·.l)).length ≤ 190) (hc : ∀ s ∈ ls, ∀ x ∈ s.l, 1 ≤ x.f1) {k : Nat} (hk : 5000 ≤ k) (T : Int) :
    ((skylightref18_Sums.f k (ls.map s30)).bind fun t243 => ((skylightref18_cut.f k t243 (ls.getD 0 zSm).K).bind fun t246 => ((skylightref17_Less.f k t243 t246).bind fun t247 => (some ((ls.getD 0 zSm).K, T, t247, (0 : Int)))))) = some ((ls.getD 0 zSm).K, T, cutL (ls.getD 0 zSm).K.toNat (mergeL [] (ls.flatMap (·.l))), 0) := by
  have hK0 := hM.K
  have hfew := hM.few
  have hrng := wf_rng hM.mok.wf
  have hp : ∀ x ∈ mergeL [] (ls.flatMap (·.l)), 1 ≤ x.f1 := merge_pos _ [] rise_nil (by simp) (fun x hx => by
    obtain ⟨s, hs, hx⟩ := List.mem_flatMap.1 hx
    exact hc s hs x hx)
  rw [sums18_eq hk6 (fun s hs x hx => by have := hc s hs x hx; omega) hfl hM.mok.tot k (by omega), Option.bind_some]
  generalize mergeL [] (ls.flatMap (·.l)) = m at *
  obtain ⟨n, hn⟩ : ∃ n : Nat, (ls.getD 0 zSm).K = (n : Int) := ⟨(ls.getD 0 zSm).K.toNat, by omega⟩
  rw [hn, cut18_eq (by omega) (by omega), Option.bind_some, Int.toNat_natCast]
  by_cases h : n < m.length
  · have hcn : 0 ≤ cutC n m := cutC_nonneg (fun s hs => (hrng s hs).1)
    rw [if_pos h, less18_eq hcn (fun s hs => (hrng s hs).2) (by omega) (by omega), Option.bind_some, cutL, if_neg (by omega)]
  · rw [if_neg h, less18_eq (Int.le_refl 0) (fun s hs => (hrng s hs).2) (by omega) (by omega), Option.bind_some, cutL, if_pos (by omega), sub_zero hp]
theorem merge18_l0 {ls : List Sm} (hk6 : ls.length ≤ 6) (hM : MOk ls) (hfl : (ls.flatMap (·.l)).length ≤ 190) (hc : ∀ s ∈ ls, ∀ x ∈ s.l, 1 ≤ x.f1) : ∀ (m i k : Nat), i + m = ls.length → 5000 + m < k → (∀ s ∈ ls.take i, s.K = (ls.getD 0 zSm).K) →
    skylightref18_Merge.l0 k (ls.map s30) (i : Int) (ls.getD 0 zSm).K (min (sumT (ls.take i)) 4503599627370497) = some ((mrg ls).1.K, (mrg ls).1.T, (mrg ls).1.l, (mrg ls).2) := by
  have hpos := hM.pos
  have hT := hM.T
  have hK0 := hM.K
  have hfew := hM.few
  intro m
  induction m with
  | zero =>
    intro i k hi hk hK
    obtain ⟨k, rfl⟩ : ∃ q, k = q + 1 := ⟨k - 1, by omega⟩
    obtain rfl : i = ls.length := by omega
    rw [List.take_length] at hK ⊢
    have hall : ls.all (fun s => decide (s.K = (ls.getD 0 zSm).K)) = true := List.all_eq_true.2 (fun s hs => by simpa using hK s hs)
    have c1 : ¬ ((ls.length : Int) < ((ls.map s30).length : Int)) := by rw [List.length_map]; omega
    rw [skylightref18_Merge.l0, if_neg c1]
    unfold mrg
    rw [if_pos hall]
    by_cases hS : sumT ls ≤ 4503599627370496
    · have c2 : ¬ min (sumT ls) 4503599627370497 > 4503599627370496 := by omega
      have c3 : min (sumT ls) 4503599627370497 = sumT ls := by omega
      rw [if_neg c2, c3, if_pos hS]
      exact merge18_fin hk6 hM hfl hc (by omega) _
    · have c2 : min (sumT ls) 4503599627370497 > 4503599627370496 := by omega
      rw [if_pos c2, if_neg hS]
      rfl
  | succ m ih =>
    intro i k hi hk hK
    obtain ⟨k, rfl⟩ : ∃ q, k = q + 1 := ⟨k - 1, by omega⟩
    have hil : i < ls.length := by omega
    have c1 : (i : Int) < ((ls.map s30).length : Int) := by rw [List.length_map]; omega
    have c2 : (0 : Int) ≤ (i : Int) := Int.natCast_nonneg i
    have c3 : (0 : Int) < ((ls.map s30).length : Int) := by rw [List.length_map]; omega
    have e0 : (rd_T30 (ls.map s30) 0).f0 = (ls.getD 0 zSm).K := by
      have := rdT30 (ls := ls) (i := 0) hpos
      rw [show ((0 : Nat) : Int) = 0 from rfl] at this
      rw [this]; rfl
    have ei : rd_T30 (ls.map s30) (i : Int) = s30 (ls.getD i zSm) := rdT30 hil
    have hmem : ls.getD i zSm ∈ ls := by simp [hil]
    have htk : ls.take (i + 1) = ls.take i ++ [ls.getD i zSm] := by rw [List.take_succ_eq_append_getElem hil]; simp [hil]
    have hTi := hT _ hmem
    have hsn : 0 ≤ sumT (ls.take i) := sumT_nonneg (fun s hs => (hT s (List.mem_of_mem_take hs)).1)
    have hs1 : sumT (ls.take (i + 1)) = sumT (ls.take i) + (ls.getD i zSm).T := by rw [htk, sumT_snoc]
    rw [skylightref18_Merge.l0, if_pos c1, if_pos c2, if_pos c3, e0, ei]
    by_cases hk1 : (ls.getD i zSm).K = (ls.getD 0 zSm).K
    · rw [if_pos (show (s30 (ls.getD i zSm)).f0 = (ls.getD 0 zSm).K from hk1), wr_i (by omega), show (s30 (ls.getD i zSm)).f1 = (ls.getD i zSm).T from rfl, tot_next hsn hTi.1 hTi.2, ← hs1]
      exact ih (i + 1) k (by omega) (by omega) (fun s hs => by
        rw [htk] at hs
        rcases List.mem_append.1 hs with hs | hs
        · exact hK s hs
        · rw [List.mem_singleton.1 hs]; exact hk1)
    · have hall : ¬ ls.all (fun s => decide (s.K = (ls.getD 0 zSm).K)) = true := fun h => hk1 (by simpa using List.all_eq_true.1 h _ hmem)
      rw [if_neg (show ¬ (s30 (ls.getD i zSm)).f0 = (ls.getD 0 zSm).K from hk1)]
      unfold mrg
      rw [if_neg hall]
      rfl
theorem merge18_eq {ls : List Sm} (hk6 : ls.length ≤ 6) (hM : MOk ls) (hfl : (ls.flatMap (·.l)).length ≤ 190) (hc : ∀ s ∈ ls, ∀ x ∈ s.l, 1 ≤ x.f1) : skylightref18_Merge.f 6000 (ls.map s30) = some ((mrg ls).1.K, (mrg ls).1.T, (mrg ls).1.l, (mrg ls).2) := by
  have hpos := hM.pos
  have e0 : (rd_T30 (ls.map s30) 0).f0 = (ls.getD 0 zSm).K := by
    have := rdT30 (ls := ls) (i := 0) hpos
    rw [show ((0 : Nat) : Int) = 0 from rfl] at this
    rw [this]; rfl
  have := merge18_l0 hk6 hM hfl hc ls.length 0 6000 (by omega) (by omega) (by simp)
  unfold skylightref18_Merge.f
  rw [if_neg (by rw [List.length_map]; omega), if_pos (by rw [List.length_map]; omega), e0]
  have e : min (sumT (ls.take 0)) 4503599627370497 = 0 := by simp [sumT]; omega
  rw [e] at this
  exact this
theorem merge18_nil : skylightref18_Merge.f 6000 ([] : List S30) = some (0, 0, [], 1) := by
  unfold skylightref18_Merge.f
  rw [if_pos (by simp)]
theorem sums18_nil : skylightref18_Sums.f 6000 ([] : List S30) = some [] := by
  unfold skylightref18_Sums.f
  rw [skylightref18_Sums.l0, if_neg (by simp)]
theorem items17_l0 {l : List S51} (hl : l.length ≤ 400) : ∀ (m i k : Nat), i + m = l.length → m < k → skylightref17_Items.l0 k l l (i : Int) = some true := by
  intro m
  induction m with
  | zero =>
    intro i k hi hk
    obtain ⟨k, rfl⟩ : ∃ q, k = q + 1 := ⟨k - 1, by omega⟩
    rw [skylightref17_Items.l0, if_neg (by omega)]
  | succ m ih =>
    intro i k hi hk
    obtain ⟨k, rfl⟩ : ∃ q, k = q + 1 := ⟨k - 1, by omega⟩
    have c1 : (i : Int) < (l.length : Int) := by omega
    have c2 : (0 : Int) ≤ (i : Int) := Int.natCast_nonneg i
    rw [skylightref17_Items.l0, if_pos c1, if_pos c2, if_pos c1, wr_i (by omega), if_neg (by simp)]
    exact ih (i + 1) k (by omega) (by omega)
theorem same18_eq {K T : Int} {l : List S51} (hl : l.length ≤ 100) : skylightlaw18_same.f 400 K T l K T l = some true := by
  have := items17_l0 (l := l) (by omega) l.length 0 400 (by omega) (by omega)
  rw [show ((0 : Nat) : Int) = 0 from rfl] at this
  unfold skylightlaw18_same.f skylightref17_Same.f skylightref17_Items.f
  rw [if_pos rfl, if_pos rfl, if_pos rfl, this]
  rfl
theorem items13_l0 {l : List S51} (hl : l.length ≤ 400) : ∀ (m i k : Nat), i + m = l.length → m < k → skylightref13_Items.l0 k l l (i : Int) = some true := by
  intro m
  induction m with
  | zero =>
    intro i k hi hk
    obtain ⟨k, rfl⟩ : ∃ q, k = q + 1 := ⟨k - 1, by omega⟩
    rw [skylightref13_Items.l0, if_neg (by omega)]
  | succ m ih =>
    intro i k hi hk
    obtain ⟨k, rfl⟩ : ∃ q, k = q + 1 := ⟨k - 1, by omega⟩
    have c1 : (i : Int) < (l.length : Int) := by omega
    have c2 : (0 : Int) ≤ (i : Int) := Int.natCast_nonneg i
    rw [skylightref13_Items.l0, if_pos c1, if_pos c2, if_pos c1, wr_i (by omega), if_neg (by simp)]
    exact ih (i + 1) k (by omega) (by omega)
theorem items13_eq {l : List S51} (hl : l.length ≤ 100) : skylightref13_Items.f 400 l l = some true := by
  have := items13_l0 (l := l) (by omega) l.length 0 400 (by omega) (by omega)
  rw [show ((0 : Nat) : Int) = 0 from rfl] at this
  unfold skylightref13_Items.f
  rw [if_pos rfl, this]
end Go.Proofs.Ytohginlodlijkaa.PH
