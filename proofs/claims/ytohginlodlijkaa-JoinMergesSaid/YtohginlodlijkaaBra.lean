/- Plain: what is made of a list. -/
import Derived.Test.YtohginlodlijkaaBri
namespace Go.Proofs.Ytohginlodlijkaa.PH
open Go.RowKit Go.Proofs.YtohginlodlijkaaW.PrintWords Go.Proofs.YtohginlodlijkaaW.PrintLast Go.Proofs.YtohginlodlijkaaW.PrintMore

theorem made_round (l all s : List S51) (K T : Int) (k i : Nat) (hlt : i < l.length) (hi : i < 40) (ha : all.length ≤ 40) :
    skylightref17_Made.l0 (k + 2) l all i K T s = (skylightref17_Add.f k K T s l[i].f0 l[i].f1).bind fun bt166 => (if bt166.2.2.2 = 0 then (skylightref17_Made.l0 k l (all ++ [(⟨l[i].f0, l[i].f1⟩ : S51)]) ((i + 1 : Nat) : Int) bt166.1 bt166.2.1 bt166.2.2.1) else (skylightref17_Made.l0 k l all ((i + 1 : Nat) : Int) K T s)) := by
  have c1 : (i : Int) < (l.length : Int) := by omega
  have c2 : (0 : Int) ≤ (i : Int) := by omega
  have c3 : decide ((i : Int) < 40) = true := decide_eq_true (by omega)
  have c4 : all.length < 8796093022208 := by omega
  have ei : wrap64 ((i : Int) + 1) = ((i + 1 : Nat) : Int) := by rw [w64 (by omega) (by omega)]; omega
  rw [skylightref17_Made.l0, if_pos c1, c3, skylightref17_Made.j1, if_pos rfl, if_pos c2, if_pos c1, rdT_get hlt, ei]
  congr 1
  funext bt
  rw [if_pos c4]
theorem made_l0 {K : Int} (hK1 : 1 ≤ K) (hK8 : K ≤ 8) (l : List S51) (hl : ∀ t ∈ l, 0 ≤ t.f0 ∧ 0 ≤ t.f1 ∧ t.f1 < 18446744073709551616) : ∀ (m i : Nat) (k : Nat) (T : Int) (s all : List S51), i + m = 40 → 2 * m + 500 ≤ k → MG K T s all → all.length ≤ i →
    ∃ T' s' all', skylightref17_Made.l0 k l all i K T s = some (K, T', s', all') ∧ MG K T' s' all' ∧ all'.length ≤ 40
  | 0, i, k, T, s, all, hi, hk, hM, ha => by
    obtain ⟨k, rfl⟩ : ∃ j, k = j + 2 := ⟨k - 2, by omega⟩
    refine ⟨T, s, all, ?_, hM, by omega⟩
    rw [skylightref17_Made.l0]
    split
    · rw [decide_eq_false (show ¬ ((i : Int) < 40) by omega), skylightref17_Made.j1, if_neg (by simp)]
    · rw [skylightref17_Made.j1, if_neg (by simp)]
  | m + 1, i, k, T, s, all, hi, hk, hM, ha => by
    obtain ⟨k, rfl⟩ : ∃ j, k = j + 2 := ⟨k - 2, by omega⟩
    by_cases hlt : i < l.length
    · obtain ⟨h0, h1, h2⟩ := hl l[i] (List.getElem_mem _)
      have hT := hM.nonneg
      have hlen := hM.len
      rw [made_round l all s K T k i hlt (by omega) (by omega)]
      by_cases hg : l[i].f0 < 2305843009213693951 ∧ 1 ≤ l[i].f1 ∧ T + l[i].f1 ≤ 4503599627370496
      · obtain ⟨g1, g2, g3, g4⟩ := hM.step h0 hg.1 hg.2.1 hg.2.2
        rw [refAdd_good (by omega) hM.ok (by omega) hT hg.1 hg.2.1 hg.2.2, Option.bind_some, if_pos g3, g1, g2]
        exact made_l0 hK1 hK8 l hl m (i + 1) k _ _ _ (by omega) (by omega) g4 (by simp; omega)
      · obtain ⟨er, hne, he⟩ := refAdd_bad (k := k) (K := K) (key := l[i].f0) (l := s) hT hM.top h1 h2 hg
        rw [he, Option.bind_some, if_neg hne]
        exact made_l0 hK1 hK8 l hl m (i + 1) k _ _ _ (by omega) (by omega) hM (by omega)
    · refine ⟨T, s, all, ?_, hM, by omega⟩
      rw [skylightref17_Made.l0, if_neg (by omega), skylightref17_Made.j1, if_neg (by simp)]
theorem keys_range (a0 : Int) : 1 ≤ 1 + (mx a0 0) % 8 ∧ 1 + (mx a0 0) % 8 ≤ 8 := by omega
theorem made_eq (a0 : Int) (l : List S51) (hl : ∀ t ∈ l, 0 ≤ t.f0 ∧ 0 ≤ t.f1 ∧ t.f1 < 18446744073709551616) (k : Nat) (hk : 600 ≤ k) :
    ∃ K T s all, skylightref17_Made.f k a0 l = some (K, T, s, all) ∧ 1 ≤ K ∧ K ≤ 8 ∧ MG K T s all ∧ all.length ≤ 40 := by
  obtain ⟨h1, h2⟩ := keys_range a0
  obtain ⟨T, s, all, h, hM, ha⟩ := made_l0 h1 h2 l hl 40 0 k 0 [] [] (by omega) (by omega) (MG.start _ h1) (by simp)
  exact ⟨_, T, s, all, h, h1, h2, hM, ha⟩

end Go.Proofs.Ytohginlodlijkaa.PH
