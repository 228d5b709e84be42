/- Plain: Made, Real, and heavy's Of, Lost, May on what Made gives. -/
import Derived.Test.YtohginlodlijkaaBri
namespace Go.Proofs.Ytohginlodlijkaa.PH
open Go.RowKit Go.Proofs.YtohginlodlijkaaW.PrintWords Go.Proofs.YtohginlodlijkaaW.PrintLast Go.Proofs.YtohginlodlijkaaW.PrintMore

theorem made_round (l all s : List S51) (K T : Int) (k i : Nat) (hlt : i < l.length) (hi : i < 40) (ha : all.length ≤ 40) :
    skylightref17_Made.l0 (k + 2) l all i K T s = (skylightref17_Add.f k K T s l[i].f0 l[i].f1).bind fun bt166 => (if bt166.2.2.2 = 0 then (skylightref17_Made.l0 k l (all ++ [(⟨l[i].f0, l[i].f1⟩ : S51)]) ((i + 1 : Nat) : Int) bt166.1 bt166.2.1 bt166.2.2.1) else (skylightref17_Made.l0 k l all ((i + 1 : Nat) : Int) K T s)) := by
  have c1 : (i : Int) < (l.length : Int) := by omega
  have c2 : (0 : Int) ≤ (i : Int) := by omega
  have c3 : decide ((i : Int) < 40) = true := decide_eq_true (by omega)
  have c4 : all.length < 8796093022208 := by omega
  have ei : wrap64 ((i : Int) + 1) = ((i + 1 : Nat) : Int) := by rw [w64 (by omega) (by omega)]; omega
  rw [skylightref17_Made.l0, if_pos c1, c3, skylightref17_Made.j1, if_pos rfl, if_pos c2, if_pos c1, rdT_get hlt, ei]
  congr 1
  funext bt
  rw [if_pos c4]
theorem made_l0 {K : Int} (hK1 : 1 ≤ K) (hK8 : K ≤ 8) (l : List S51) (hl : ∀ t ∈ l, 0 ≤ t.f0 ∧ 0 ≤ t.f1 ∧ t.f1 < 18446744073709551616) : ∀ (m i : Nat) (k : Nat) (T : Int) (s all : List S51), i + m = 40 → 2 * m + 500 ≤ k → MG K T s all → all.length ≤ i →
    ∃ T' s' all', skylightref17_Made.l0 k l all i K T s = some (K, T', s', all') ∧ MG K T' s' all' ∧ all'.length ≤ 40
  | 0, i, k, T, s, all, hi, hk, hM, ha => by
    obtain ⟨k, rfl⟩ : ∃ j, k = j + 2 := ⟨k - 2, by omega⟩
    refine ⟨T, s, all, ?_, hM, by omega⟩
    rw [skylightref17_Made.l0]
    split
    · rw [decide_eq_false (show ¬ ((i : Int) < 40) by omega), skylightref17_Made.j1, if_neg (by simp)]
    · rw [skylightref17_Made.j1, if_neg (by simp)]
  | m + 1, i, k, T, s, all, hi, hk, hM, ha => by
    obtain ⟨k, rfl⟩ : ∃ j, k = j + 2 := ⟨k - 2, by omega⟩
    by_cases hlt : i < l.length
    · obtain ⟨h0, h1, h2⟩ := hl l[i] (List.getElem_mem _)
      have hT := hM.nonneg
      have hlen := hM.len
      rw [made_round l all s K T k i hlt (by omega) (by omega)]
      by_cases hg : l[i].f0 < 2305843009213693951 ∧ 1 ≤ l[i].f1 ∧ T + l[i].f1 ≤ 4503599627370496
      · obtain ⟨g1, g2, g3, g4⟩ := hM.step h0 hg.1 hg.2.1 hg.2.2
        rw [refAdd_good (by omega) hM.ok (by omega) hT hg.1 hg.2.1 hg.2.2, Option.bind_some, if_pos g3, g1, g2]
        exact made_l0 hK1 hK8 l hl m (i + 1) k _ _ _ (by omega) (by omega) g4 (by simp; omega)
      · obtain ⟨er, hne, he⟩ := refAdd_bad (k := k) (K := K) (key := l[i].f0) (l := s) hT hM.top h1 h2 hg
        rw [he, Option.bind_some, if_neg hne]
        exact made_l0 hK1 hK8 l hl m (i + 1) k _ _ _ (by omega) (by omega) hM (by omega)
    · refine ⟨T, s, all, ?_, hM, by omega⟩
      rw [skylightref17_Made.l0, if_neg (by omega), skylightref17_Made.j1, if_neg (by simp)]
theorem keys_range (a0 : Int) : 1 ≤ 1 + (mx a0 0) % 8 ∧ 1 + (mx a0 0) % 8 ≤ 8 := by omega
theorem made_eq (a0 : Int) (l : List S51) (hl : ∀ t ∈ l, 0 ≤ t.f0 ∧ 0 ≤ t.f1 ∧ t.f1 < 18446744073709551616) (k : Nat) (hk : 600 ≤ k) :
    ∃ K T s all, skylightref17_Made.f k a0 l = some (K, T, s, all) ∧ 1 ≤ K ∧ K ≤ 8 ∧ MG K T s all ∧ all.length ≤ 40 := by
  obtain ⟨h1, h2⟩ := keys_range a0
  obtain ⟨T, s, all, h, hM, ha⟩ := made_l0 h1 h2 l hl 40 0 k 0 [] [] (by omega) (by omega) (MG.start _ h1) (by simp)
  exact ⟨_, T, s, all, h, h1, h2, hM, ha⟩

theorem real_l0 (key : Int) : ∀ (s p : List S51) (k : Nat) (acc : Int), s.length < k → (p ++ s).length ≤ 200 → 0 ≤ acc → acc + sumL s < 18446744073709551616 → (∀ t ∈ s, 1 ≤ t.f1) → skylightref17_Real.l0 k (p ++ s) key acc p.length = some (acc + realL s key)
  | [], p, k + 1, acc, _, _, _, _, _ => by rw [skylightref17_Real.l0, if_neg (by simp)]; simp [realL]
  | a :: s, p, k + 1, acc, hk, hl, h0, hs, hp => by
    simp at hl hk
    have ha := hp a (by simp)
    have hp' : ∀ t ∈ s, 1 ≤ t.f1 := fun t ht => hp t (by simp [ht])
    have n1 := realL_nonneg hp' key
    have n2 := realL_le hp' key
    simp only [sumL] at hs
    rw [skylightref17_Real.l0, if_pos (by simp; omega), if_pos (by omega), rdT_at, w64s p a (by omega), show p ++ a :: s = (p ++ [a]) ++ s by simp]
    simp only [realL]
    by_cases h : a.f0 = key
    · rw [if_pos h, if_pos h, u64w (by omega) (by omega), real_l0 key s (p ++ [a]) k _ (by omega) (by simp; omega) (by omega) (by omega) hp']
      congr 1
      omega
    · rw [if_neg h, if_neg h, real_l0 key s (p ++ [a]) k _ (by omega) (by simp; omega) (by omega) (by omega) hp']
      congr 1
      omega
theorem real_eq {K T : Int} {s all : List S51} (hM : MG K T s all) (ha : all.length ≤ 40) (key : Int) {k : Nat} (hk : 50 ≤ k) : skylightref17_Real.f k all key = some (realL all key) := by
  have hp : ∀ t ∈ all, 1 ≤ t.f1 := fun t ht => (hM.pos t ht).2.2
  have := real_l0 key all [] k 0 (by omega) (by simpa using (by omega : all.length ≤ 200)) (by omega) (by have := hM.tot; have := hM.top; omega) hp
  simpa [skylightref17_Real.f] using this

theorem cmpItem_eq (a b key : Int) : heavy_Of_1.f a b key = some (if a < key then -1 else if a > key then 1 else 0) := by
  simp only [heavy_Of_1.f, cmp_Compare_uint64.f, cmp_isNaN_uint64.f, bne_self_eq_false, Option.bind_some]
  rw [if_neg (by simp), if_neg (by simp)]
  split
  · rfl
  · split <;> rfl
theorem getk_between {l : List S51} (hr : Rise l) (key : Int) {i : Nat} (h1 : ∀ j (hj : j < l.length), j < i → l[j].f0 < key) (h2 : ∀ j (hj : j < l.length), i ≤ j → key ≤ l[j].f0) :
    getk l key = if h : i < l.length then (if l[i].f0 = key then l[i].f1 else 0) else 0 := by
  have hnone : (∀ j (hj : j < l.length), l[j].f0 ≠ key) → getk l key = 0 := fun h => getk_none fun s hs he => by
    obtain ⟨j, hj, rfl⟩ := List.getElem_of_mem hs
    exact h j hj he
  by_cases h : i < l.length
  · rw [dif_pos h]
    by_cases he : l[i].f0 = key
    · rw [if_pos he, ← he]
      exact getk_mem hr (List.getElem_mem h)
    · rw [if_neg he]
      refine hnone fun j hj hje => ?_
      by_cases hji : j < i
      · have := h1 j hj hji; omega
      · have a := h2 i h (Nat.le_refl _)
        by_cases hij : j = i
        · subst hij; exact he hje
        · have := List.pairwise_iff_getElem.1 hr i j h hj (by omega)
          omega
  · rw [dif_neg h]
    exact hnone fun j hj hje => by have := h1 j hj (by omega); omega
theorem search_l0 {l : List S51} (hr : Rise l) (hl : l.length ≤ 100) (key : Int) : ∀ (m : Nat) (i j k : Nat), j - i ≤ m → m + 1 ≤ k → i ≤ j → j ≤ l.length → (∀ q (hq : q < l.length), q < i → l[q].f0 < key) → (∀ q (hq : q < l.length), j ≤ q → key ≤ l[q].f0) →
    ∃ (t : Int) (b : Bool), api_Item_uint64.l0 k l key l.length i j = some (t, b) ∧ (if b = true then (if 0 ≤ t then (if t < (l.length : Int) then some (rd_T51 l t).f1 else none) else none) else some 0) = some (getk l key)
  | m, i, j, k, hm, hk, hij, hj, h1, h2 => by
    obtain ⟨k, rfl⟩ : ∃ j, k = j + 1 := ⟨k - 1, by omega⟩
    by_cases hlt : i < j
    · have em : wrap64 ((IntKind.u64.wrap (wrap64 ((i : Int) + j))) / 2) = (((i + j) / 2 : Nat) : Int) := by
        rw [w64 (n := (i : Int) + j) (by omega) (by omega), u64w (by omega) (by omega), w64 (by omega) (by omega)]
        omega
      have hmid : (i + j) / 2 < l.length := by omega
      have ew : wrap64 ((((i + j) / 2 : Nat) : Int) + 1) = (((i + j) / 2 + 1 : Nat) : Int) := by rw [w64 (by omega) (by omega)]; omega
      rw [api_Item_uint64.l0, if_pos (by omega), em, if_pos (by omega), if_pos (by omega), rdT_get hmid, cmpItem_eq, Option.bind_some, ew]
      obtain ⟨m, rfl⟩ : ∃ q, m = q + 1 := ⟨m - 1, by omega⟩
      by_cases hc : l[(i + j) / 2].f0 < key
      · rw [if_pos hc, if_pos (by omega)]
        refine search_l0 hr hl key m ((i + j) / 2 + 1) j k (by omega) (by omega) (by omega) hj (fun q hq hqi => ?_) h2
        by_cases hqe : q = (i + j) / 2
        · subst hqe; exact hc
        · have := List.pairwise_iff_getElem.1 hr q ((i + j) / 2) hq hmid (by omega); omega
      · rw [if_neg hc, if_neg (by split <;> omega)]
        refine search_l0 hr hl key m i ((i + j) / 2) k (by omega) (by omega) (by omega) (by omega) h1 (fun q hq hqi => ?_)
        by_cases hqe : q = (i + j) / 2
        · subst hqe; omega
        · have := List.pairwise_iff_getElem.1 hr ((i + j) / 2) q hmid hq (by omega); omega
    · obtain rfl : i = j := by omega
      have hg := getk_between hr key h1 h2
      rw [api_Item_uint64.l0, if_neg (by omega)]
      by_cases hi : i < l.length
      · rw [dif_pos hi] at hg
        rw [if_pos (by omega), if_pos (by omega), if_pos (by omega), rdT_get hi, cmpItem_eq, Option.bind_some]
        refine ⟨_, _, rfl, ?_⟩
        have a := h2 i hi (Nat.le_refl _)
        by_cases he : l[i].f0 = key
        · rw [if_pos (by rw [if_neg (by omega), if_neg (by omega)]; rfl), if_pos (by omega), if_pos (by omega), rdT_get hi, hg, if_pos he]
        · rw [if_neg (by rw [if_neg (by omega), if_pos (by omega)]; decide), hg, if_neg he]
      · rw [dif_neg hi] at hg
        rw [if_neg (by omega)]
        exact ⟨_, _, rfl, by rw [if_neg (by simp), hg]⟩
theorem hOf_eq {K T key : Int} {l : List S51} {k : Nat} (hr : Rise l) (hl : l.length ≤ 100) (hk : 110 ≤ k) : heavy_Of.f k K T l key = some (getk l key) := by
  obtain ⟨t, b, h1, h2⟩ := search_l0 hr hl key l.length 0 l.length k (by omega) (by omega) (by omega) (Nat.le_refl _) (fun q _ h => by omega) (fun q h h' => by omega)
  unfold heavy_Of.f api_Item_uint64.f
  rw [show ((0 : Nat) : Int) = 0 from rfl] at h1
  rw [h1, Option.bind_some]
  exact h2

theorem left_l0 : ∀ (s p : List S51) (k : Nat) (x : Int), s.length < k → (p ++ s).length ≤ 200 → sumL s ≤ x → x < 18446744073709551616 → (∀ t ∈ s, 1 ≤ t.f1) → heavy_Sum_left.l0 k x (p ++ s) (p ++ s).length p.length = some (x - sumL s, true)
  | [], p, k + 1, x, _, _, _, _, _ => by rw [heavy_Sum_left.l0, if_neg (by simp)]; simp [sumL]
  | a :: s, p, k + 1, x, hk, hl, hs, hx, hp => by
    simp at hl hk
    have ha := hp a (by simp)
    have hp' : ∀ t ∈ s, 1 ≤ t.f1 := fun t ht => hp t (by simp [ht])
    have n1 := realL_nonneg hp' 0
    have n2 := realL_le hp' 0
    simp only [sumL] at hs
    rw [heavy_Sum_left.l0, if_pos (by simp; omega), if_pos (by omega), if_pos (by simp; omega), rdT_at, if_neg (by omega), u64w (by omega) (by omega), w64s p a (by omega), show p ++ a :: s = (p ++ [a]) ++ s by simp, left_l0 s (p ++ [a]) k _ (by omega) (by simp; omega) (by omega) (by omega) hp']
    simp only [sumL]
    congr 2
    omega
theorem hLost_eq {K T : Int} {l all : List S51} {k : Nat} (hK1 : 1 ≤ K) (hK8 : K ≤ 8) (hM : MG K T l all) (hk : 50 ≤ k) : ∃ E : Int, 0 ≤ E ∧ heavy_Lost.f k K T l = some E ∧ (K + 1) * E ≤ T ∧ ∀ key, getk l key ≤ realL all key ∧ realL all key ≤ getk l key + E := by
  obtain ⟨E, hE0, hE1, hE2⟩ := hM.E
  have hlen := hM.len
  have hp : ∀ t ∈ l, 1 ≤ t.f1 := fun t ht => (hM.ok.2 t ht).2.2.1
  have n1 := realL_nonneg hp 0
  have n2 := realL_le hp 0
  have hmul : 0 ≤ (K + 1) * E := Int.mul_nonneg (by omega) hE0
  have htop := hM.top
  have hbig : E ≤ (K + 1) * E := by
    have : (K + 1) * E = K * E + E := by rw [Int.add_mul]; simp
    have : 0 ≤ K * E := Int.mul_nonneg (by omega) hE0
    omega
  have hL := left_l0 l [] k T (by omega) (by simpa using (by omega : l.length ≤ 200)) (by omega) (by omega) hp
  refine ⟨E, hE0, ?_, by omega, hE2⟩
  unfold heavy_Lost.f heavy_Sum_left.f
  simp only [List.nil_append, List.length_nil] at hL
  rw [show ((0 : Nat) : Int) = 0 from rfl] at hL
  rw [hL, Option.bind_some, if_pos rfl, if_neg (by omega), w64 (n := K + 1) (by omega) (by omega), u64w (x := K + 1) (by omega) (by omega), if_neg (by omega)]
  have e1 : T - sumL l = (K + 1) * E := by omega
  have e2 : Int.tdiv ((K + 1) * E) (K + 1) = E := Int.mul_tdiv_cancel_left _ (by omega)
  rw [e1, e2, u64w hE0 (by omega)]
end Go.Proofs.Ytohginlodlijkaa.PH
