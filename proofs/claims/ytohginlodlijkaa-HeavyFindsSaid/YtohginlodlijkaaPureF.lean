/- Plain: HeavyFinds answers true. -/
import Derived.Test.YtohginlodlijkaaBrj
import Derived.Test.YtohginlodlijkaaPHf
namespace Go.Proofs.Ytohginlodlijkaa.PH
open Go.RowKit Go.Proofs.YtohginlodlijkaaW.PrintWords Go.Proofs.YtohginlodlijkaaW.PrintLast Go.Proofs.YtohginlodlijkaaW.PrintMore
namespace Fi
theorem wr1 (i : Nat) (h : i ≤ 500) : wrap64 ((i : Int) + 1) = ((i + 1 : Nat) : Int) := by rw [w64 (by omega) (by omega)]; omega
theorem wr0 (i : Nat) (h : i ≤ 500) : wrap64 (((i + 1 : Nat) : Int) - 1) = (i : Int) := by rw [w64 (by omega) (by omega)]; omega
theorem wf_range {l : List S51} (ok : ∀ s ∈ l, (Lit.int .u64 s.f0).wf = true ∧ (Lit.int .u64 s.f1).wf = true) : ∀ t ∈ l, 0 ≤ t.f0 ∧ 0 ≤ t.f1 ∧ t.f1 < 18446744073709551616 := fun t ht => by
  obtain ⟨h0, h1⟩ := ok t ht
  simp [Lit.wf, IntKind.min, IntKind.max, IntKind.signed, IntKind.bits] at h0 h1
  omega
theorem finds_round {K T : Int} {s all : List S51} (hK1 : 1 ≤ K) (hK8 : K ≤ 8) (hM : MG K T s all) (ha : all.length ≤ 40) (i k : Nat) (hi : i < all.length) (hk : 150 ≤ k) :
    skylightlaw17_HeavyFinds.l0 (k + 1) true all i K T s = skylightlaw17_HeavyFinds.l0 k true all ((i + 1 : Nat) : Int) K T s := by
  obtain ⟨E, hE0, hE1, hEt, hE3⟩ := hLost_eq hK1 hK8 hM (k := k) (by omega)
  have hT := hM.nonneg
  have htop := hM.top
  have hlen := hM.len
  have c1 : (i : Int) < (all.length : Int) := by omega
  have c2 : (0 : Int) ≤ (i : Int) := by omega
  obtain ⟨g1, g2⟩ := hE3 all[i].f0
  have hw : IntKind.u64.wrap (IntKind.u64.wrap K + 1) = K + 1 := by rw [u64w (x := K) (by omega) (by omega), u64w (by omega) (by omega)]
  have hK0 : ¬ K + 1 = 0 := by omega
  have hdiv : Int.tdiv T (K + 1) = T / (K + 1) := Int.tdiv_eq_ediv_of_nonneg hT
  have hd1 : E ≤ T / (K + 1) := (Int.le_ediv_iff_mul_le (by omega)).2 (by rw [Int.mul_comm]; exact hEt)
  have hd2 : T / (K + 1) ≤ T := Int.ediv_le_self _ hT
  rw [skylightlaw17_HeavyFinds.l0, if_pos c1, if_pos c2, rdT_get hi, real_eq hM ha _ (by omega), Option.bind_some, hw, if_neg hK0, hdiv, u64w (by omega) (by omega), hOf_eq hM.ok.1 (by omega) (by omega), Option.bind_some, wr1 i (by omega)]
  by_cases h : realL all all[i].f0 > T / (K + 1)
  · rw [if_pos h, if_neg (by omega)]
  · rw [if_neg h]
theorem finds_l0 {K T : Int} {s all : List S51} (hK1 : 1 ≤ K) (hK8 : K ≤ 8) (hM : MG K T s all) (ha : all.length ≤ 40) : ∀ (m i k : Nat), i + m = all.length → m + 301 ≤ k → ∃ k', 300 ≤ k' ∧ skylightlaw17_HeavyFinds.l0 k true all i K T s = skylightlaw17_HeavyFinds.l1 k' true 1 K T s
  | 0, i, k, hi, hk => by
    obtain ⟨k, rfl⟩ : ∃ j, k = j + 1 := ⟨k - 1, by omega⟩
    have c1 : ¬ (i : Int) < (all.length : Int) := by omega
    exact ⟨k, by omega, by rw [skylightlaw17_HeavyFinds.l0, if_neg c1]⟩
  | m + 1, i, k, hi, hk => by
    obtain ⟨k, rfl⟩ : ∃ j, k = j + 1 := ⟨k - 1, by omega⟩
    rw [finds_round hK1 hK8 hM ha i k (by omega) (by omega)]
    exact finds_l0 hK1 hK8 hM ha m (i + 1) k (by omega) (by omega)

theorem odd_l0 : ∀ (s p : List S51) (k : Nat), s.length < k → (p ++ s).length ≤ 200 → (∀ t ∈ s, t.f0 < 2305843009213693951 ∧ 1 ≤ t.f1) → api_Item_66.l0 k (p ++ s) (p ++ s).length p.length = some (-1)
  | [], p, k + 1, _, _, _ => by rw [api_Item_66.l0, if_neg (by simp)]
  | a :: s, p, k + 1, hk, hl, h => by
    simp at hl hk
    obtain ⟨h0, h1⟩ := h a (by simp)
    have e : heavy_May_1.f a.f0 a.f1 = some false := by
      have : (a.f1 == 0) = false := by simp; omega
      simp [heavy_May_1.f, hash_Key.f, h0, this]
    rw [api_Item_66.l0, if_pos (by simp; omega), if_pos (by omega), if_pos (by simp; omega), rdT_at, e, Option.bind_some, if_neg (by simp), w64s p a (by omega), show p ++ a :: s = (p ++ [a]) ++ s by simp]
    exact odd_l0 s (p ++ [a]) k (by omega) (by simp; omega) (fun t ht => h t (by simp [ht]))
theorem may_round {s : List S51} (hr : Rise s) (K T : Int) (i k : Nat) (hi : i + 1 < s.length) (hl : s.length ≤ 100) : heavy_May.l0 (k + 1) true ((i + 1 : Nat) : Int) K T s = heavy_May.l0 k true ((i + 1 + 1 : Nat) : Int) K T s := by
  have c1 : ((i + 1 : Nat) : Int) < (s.length : Int) := by omega
  have c2 : (0 : Int) ≤ (i : Int) := by omega
  have c3 : (i : Int) < (s.length : Int) := by omega
  have c4 : (0 : Int) ≤ ((i + 1 : Nat) : Int) := by omega
  have hlt := List.pairwise_iff_getElem.1 hr i (i + 1) (by omega) hi (by omega)
  rw [heavy_May.l0, if_pos c1, if_pos rfl, wr0 i (by omega), if_pos c2, if_pos c3, if_pos c4, rdT_get (show i < s.length by omega), rdT_get hi, show heavy_May_2.f s[i].f0 s[i].f1 s[i + 1].f0 s[i + 1].f1 = some true by simp [heavy_May_2.f, hlt], Option.bind_some, wr1 (i + 1) (by omega)]
theorem may_l0 {K T : Int} {s : List S51} (hr : Rise s) (hl : s.length ≤ 100) (hlK : (s.length : Int) ≤ K) (hT : T ≤ 4503599627370496) (h : ∀ t ∈ s, t.f0 < 2305843009213693951 ∧ 1 ≤ t.f1) : ∀ (m i k : Nat), s.length ≤ i + 1 + m → m + 150 ≤ k → heavy_May.l0 k true ((i + 1 : Nat) : Int) K T s = some 0
  | 0, i, k, hi, hk => by
    obtain ⟨k, rfl⟩ : ∃ j, k = j + 1 := ⟨k - 1, by omega⟩
    have c1 : ¬ ((i + 1 : Nat) : Int) < (s.length : Int) := by omega
    have c2 : ¬ (s.length : Int) > K := by omega
    have c3 : ¬ T > 4503599627370496 := by omega
    have ho := odd_l0 s [] k (by omega) (by simpa using (by omega : s.length ≤ 200)) h
    have ho' : api_Item_62.f k s = some false := by
      unfold api_Item_62.f api_Item_66.f
      simp only [List.nil_append, List.length_nil] at ho
      rw [show ((0 : Nat) : Int) = 0 from rfl] at ho
      rw [ho]
      rfl
    rw [heavy_May.l0, if_neg c1, if_pos rfl, if_neg c2, if_neg c3, ho', Option.bind_some, if_neg (by simp)]
  | m + 1, i, k, hi, hk => by
    obtain ⟨k, rfl⟩ : ∃ j, k = j + 1 := ⟨k - 1, by omega⟩
    by_cases hlt : i + 1 < s.length
    · rw [may_round hr K T i k hlt hl]
      exact may_l0 hr hl hlK hT h m (i + 1) k (by omega) (by omega)
    · have := may_l0 hr hl hlK hT h m i (k + 1) (by omega) (by omega)
      exact this
theorem may_eq {K T : Int} {s all : List S51} (hK1 : 1 ≤ K) (hK8 : K ≤ 8) (hM : MG K T s all) {k : Nat} (hk : 280 ≤ k) : heavy_May.f k K T s = some 0 := by
  have hlen := hM.len
  have htop := hM.top
  have hp : ∀ t ∈ s, 1 ≤ t.f1 := fun t ht => (hM.ok.2 t ht).2.2.1
  obtain ⟨E, hE0, hE1, _⟩ := hM.E
  have hmul : 0 ≤ (K + 1) * E := Int.mul_nonneg (by omega) hE0
  have hL := left_l0 s [] k T (by omega) (by simpa using (by omega : s.length ≤ 200)) (by omega) (by omega) hp
  simp only [List.nil_append, List.length_nil] at hL
  rw [show ((0 : Nat) : Int) = 0 from rfl] at hL
  have hm := may_l0 (K := K) (T := T) hM.ok.1 (by omega) hlen htop (fun t ht => ⟨hM.keys t ht, hp t ht⟩) s.length 0 k (by omega) (by omega)
  have hn : heavy_New.f K = some (K, 0, [], 0) := by unfold heavy_New.f; rw [if_neg (by omega), if_neg (by omega)]
  unfold heavy_May.f heavy_Sum_left.f
  rw [hn, Option.bind_some, if_pos rfl, hL, Option.bind_some]
  exact hm
theorem rise_round {s : List S51} (hr : Rise s) (K T : Int) (i k : Nat) (hi : i + 1 < s.length) (hl : s.length ≤ 100) : skylightlaw17_HeavyFinds.l1 (k + 1) true ((i + 1 : Nat) : Int) K T s = skylightlaw17_HeavyFinds.l1 k true ((i + 1 + 1 : Nat) : Int) K T s := by
  have c1 : ((i + 1 : Nat) : Int) < (s.length : Int) := by omega
  have c2 : (0 : Int) ≤ (i : Int) := by omega
  have c3 : (i : Int) < (s.length : Int) := by omega
  have c4 : (0 : Int) ≤ ((i + 1 : Nat) : Int) := by omega
  have hlt := List.pairwise_iff_getElem.1 hr i (i + 1) (by omega) hi (by omega)
  rw [skylightlaw17_HeavyFinds.l1, if_pos c1, if_pos c4, wr0 i (by omega), if_pos c2, if_pos c3, rdT_get (show i < s.length by omega), rdT_get hi, if_neg (by omega), wr1 (i + 1) (by omega)]
theorem rise_l1 {K T : Int} {s all : List S51} (hK1 : 1 ≤ K) (hK8 : K ≤ 8) (hM : MG K T s all) : ∀ (m i k : Nat), s.length ≤ i + 1 + m → m + 290 ≤ k → skylightlaw17_HeavyFinds.l1 k true ((i + 1 : Nat) : Int) K T s = some true
  | 0, i, k, hi, hk => by
    obtain ⟨k, rfl⟩ : ∃ j, k = j + 1 := ⟨k - 1, by omega⟩
    have c1 : ¬ ((i + 1 : Nat) : Int) < (s.length : Int) := by omega
    rw [skylightlaw17_HeavyFinds.l1, if_neg c1, if_pos rfl, if_pos hM.len, may_eq hK1 hK8 hM (by omega), Option.bind_some]
    rfl
  | m + 1, i, k, hi, hk => by
    have hlen := hM.len
    obtain ⟨k, rfl⟩ : ∃ j, k = j + 1 := ⟨k - 1, by omega⟩
    by_cases hlt : i + 1 < s.length
    · rw [rise_round hM.ok.1 K T i k hlt (by omega)]
      exact rise_l1 hK1 hK8 hM m (i + 1) k (by omega) (by omega)
    · exact rise_l1 hK1 hK8 hM m i (k + 1) (by omega) (by omega)
theorem HeavyFinds_pure (k : Nat) (hk : 1000 ≤ k) (a0 : Int) (l : List S51) (ok : ∀ s ∈ l, (Lit.int .u64 s.f0).wf = true ∧ (Lit.int .u64 s.f1).wf = true) : skylightlaw17_HeavyFinds.f k a0 l = some true := by
  obtain ⟨K, T, s, all, h, hK1, hK8, hM, ha⟩ := made_eq a0 l (wf_range ok) k (by omega)
  obtain ⟨k', hk', h1⟩ := finds_l0 hK1 hK8 hM ha all.length 0 k (by omega) (by omega)
  have hlen := hM.len
  have h2 := rise_l1 hK1 hK8 hM s.length 0 k' (by omega) (by omega)
  unfold skylightlaw17_HeavyFinds.f
  rw [show skylightlaw17_awake.f = some true from rfl, Option.bind_some, h, Option.bind_some, show skylightlaw17_made.f K T s = some (K, T, s) from rfl, Option.bind_some]
  exact h1.trans h2
end Fi
end Go.Proofs.Ytohginlodlijkaa.PH
