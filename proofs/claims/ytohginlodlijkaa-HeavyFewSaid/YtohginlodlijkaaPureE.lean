/- Plain: HeavyFew answers true. -/
import Derived.Test.YtohginlodlijkaaBrj
import Derived.Test.YtohginlodlijkaaPHe
namespace Go.Proofs.Ytohginlodlijkaa.PH
open Go.RowKit Go.Proofs.YtohginlodlijkaaW.PrintWords Go.Proofs.YtohginlodlijkaaW.PrintLast Go.Proofs.YtohginlodlijkaaW.PrintMore
namespace Fe
theorem wr1 (i : Nat) (h : i ≤ 500) : wrap64 ((i : Int) + 1) = ((i + 1 : Nat) : Int) := by rw [w64 (by omega) (by omega)]; omega
theorem wf_range {l : List S51} (ok : ∀ s ∈ l, (Lit.int .u64 s.f0).wf = true ∧ (Lit.int .u64 s.f1).wf = true) : ∀ t ∈ l, 0 ≤ t.f0 ∧ 0 ≤ t.f1 ∧ t.f1 < 18446744073709551616 := fun t ht => by
  obtain ⟨h0, h1⟩ := ok t ht
  simp [Lit.wf, IntKind.min, IntKind.max, IntKind.signed, IntKind.bits] at h0 h1
  omega
theorem rise_len {hi : Int} : ∀ (l : List S51) (lo : Int), Rise l → (∀ t ∈ l, lo ≤ t.f0 ∧ t.f0 < hi) → lo ≤ hi → (l.length : Int) ≤ hi - lo
  | [], lo, _, _, h => by simp; omega
  | a :: l, lo, hr, h, _ => by
    obtain ⟨ha, hl⟩ := List.pairwise_cons.1 hr
    obtain ⟨h0, h1⟩ := h a (by simp)
    have := rise_len l (a.f0 + 1) hl (fun t ht => ⟨by have := ha t ht; omega, (h t (by simp [ht])).2⟩) (by omega)
    simp
    omega
theorem putk_new_length {k v : Int} : ∀ {l : List S51}, (∀ t ∈ l, t.f0 ≠ k) → (putk l k v).length = l.length + 1
  | [], _ => by simp [putk]
  | a :: l, h => by
    simp only [putk]
    have h0 := h a (by simp)
    split
    · rw [List.length_cons, putk_new_length (fun t ht => h t (by simp [ht]))]; simp
    · first | (rw [if_neg h0]; simp) | simp
structure FW (K T : Int) (l all : List S51) : Prop where
  mg : MG K T l all
  sum : T = sumL l
  get : ∀ key, getk l key = realL all key
  low : ∀ s ∈ l, s.f0 < K
theorem FW.step {K T : Int} {l all : List S51} (hF : FW K T l all) (hK8 : K ≤ 8) {key wt : Int} (h0 : 0 ≤ key) (h1 : key < K) (h2 : 1 ≤ wt) (h3 : T + wt ≤ 4503599627370496) :
    ∃ l', addL K T l key wt = (K, T + wt, l', 0) ∧ FW K (T + wt) l' (all ++ [⟨key, wt⟩]) := by
  have hM := hF.mg
  obtain ⟨_, _, _, g4⟩ := hM.step h0 (show key < 2305843009213693951 by omega) h2 h3
  have hc : ¬ (getk l key = 0 ∧ (l.length : Int) ≥ K) := by
    rintro ⟨hz, hlen⟩
    have hne : ∀ t ∈ l, t.f0 ≠ key := fun t ht he => by
      have a := getk_mem hM.ok.1 ht
      have b := (hM.ok.2 t ht).2.2.1
      rw [he, hz] at a
      omega
    have hl := rise_len (hi := K) (putk l key 1) 0 (putk_rise hM.ok.1 _ _) (fun t ht => by
      rcases putk_mem ht with rfl | ht
      · exact ⟨h0, h1⟩
      · exact ⟨(hM.ok.2 t ht).1, hF.low t ht⟩) (by omega)
    rw [putk_new_length hne] at hl
    omega
  have ea : addL K T l key wt = (K, T + wt, putk l key (getk l key + wt), 0) := by unfold addL; rw [if_neg hc]
  rw [ea] at g4
  refine ⟨_, ea, g4, ?_, fun j => ?_, fun s hs => ?_⟩
  · rw [sumL_putk _ hM.ok.1]; have := hF.sum; omega
  · rw [realL_snoc, getk_putk _ hM.ok.1, ← hF.get j]
    by_cases hj : j = key
    · subst hj; rw [if_pos rfl, if_pos rfl]
    · rw [if_neg hj, if_neg (fun e => hj e.symm)]; omega
  · rcases putk_mem hs with rfl | hs
    · exact h1
    · exact hF.low s hs
theorem FW.start (K : Int) (hK : 1 ≤ K) : FW K 0 [] [] := ⟨MG.start K hK, rfl, fun _ => rfl, by simp⟩

theorem few_round (l all s : List S51) (x : Bool) (K T : Int) (k i : Nat) (hK1 : 1 ≤ K) (hK8 : K ≤ 8) (hlt : i < l.length) (hi : i < 40) (ha : all.length ≤ 40) (h0 : 0 ≤ l[i].f0) (h1 : 0 ≤ l[i].f1) :
    skylightlaw17_HeavyFew.l0 (k + 2) l x K all i K T s = (heavy_Add.f K T s (l[i].f0 % K) (1 + l[i].f1 % 1000)).bind fun bt => (if bt.2.2.2 = 0 then (skylightlaw17_HeavyFew.l0 k l x K (all ++ [(⟨l[i].f0 % K, 1 + l[i].f1 % 1000⟩ : S51)]) ((i + 1 : Nat) : Int) bt.1 bt.2.1 bt.2.2.1) else some false) := by
  have c1 : (i : Int) < (l.length : Int) := by omega
  have c2 : (0 : Int) ≤ (i : Int) := by omega
  have c3 : decide ((i : Int) < 40) = true := decide_eq_true (by omega)
  have c4 : all.length < 8796093022208 := by omega
  have eK : IntKind.u64.wrap K = K := u64w (by omega) (by omega)
  have cK : ¬ K = 0 := by omega
  have e0 : Int.tmod l[i].f0 K = l[i].f0 % K := Int.tmod_eq_emod_of_nonneg h0
  have e1 : Int.tmod l[i].f1 1000 = l[i].f1 % 1000 := Int.tmod_eq_emod_of_nonneg h1
  have e2 : IntKind.u64.wrap (1 + l[i].f1 % 1000) = 1 + l[i].f1 % 1000 := u64w (by omega) (by omega)
  rw [skylightlaw17_HeavyFew.l0, if_pos c1, c3, skylightlaw17_HeavyFew.j1, if_pos rfl, if_pos c2, if_pos c1, rdT_get hlt, eK, if_neg cK, e0, e1, e2, wr1 i (by omega)]
  congr 1
  funext bt
  rw [if_pos c4]
theorem few_end (l all s : List S51) (x : Bool) (K T : Int) (k i : Nat) (h : ¬ (i < l.length ∧ i < 40)) :
    skylightlaw17_HeavyFew.l0 (k + 2) l x K all i K T s = skylightlaw17_HeavyFew.l1 k x K all 0 K T s := by
  rw [skylightlaw17_HeavyFew.l0]
  by_cases c1 : (i : Int) < (l.length : Int)
  · have c3 : decide ((i : Int) < 40) = false := decide_eq_false (by omega)
    rw [if_pos c1, c3, skylightlaw17_HeavyFew.j1, if_neg (by simp)]
  · rw [if_neg c1, skylightlaw17_HeavyFew.j1, if_neg (by simp)]
theorem add_some {K T key wt : Int} {l : List S51} (h : Okl l ∧ l.length ≤ 9 ∧ 0 ≤ T ∧ 0 ≤ key ∧ key < 2305843009213693951 ∧ 1 ≤ wt ∧ T + wt ≤ 4503599627370496) : heavy_Add.f K T l key wt = some (addL K T l key wt) := by
  unfold heavy_Add.f; rw [if_pos h]
theorem mod_range (a K : Int) (hK : 1 ≤ K) : 0 ≤ a % K ∧ a % K < K := ⟨Int.emod_nonneg _ (by omega), Int.emod_lt_of_pos _ (by omega)⟩
theorem few_l0 {K : Int} (hK1 : 1 ≤ K) (hK8 : K ≤ 8) (l : List S51) (hl : ∀ t ∈ l, 0 ≤ t.f0 ∧ 0 ≤ t.f1 ∧ t.f1 < 18446744073709551616) (x : Bool) : ∀ (m i k : Nat) (T : Int) (s all : List S51), i + m = 40 → 2 * m + 500 ≤ k → FW K T s all → all.length ≤ i → T ≤ 1000 * (i : Int) →
    ∃ k' T' s' all', 400 ≤ k' ∧ skylightlaw17_HeavyFew.l0 k l x K all i K T s = skylightlaw17_HeavyFew.l1 k' x K all' 0 K T' s' ∧ FW K T' s' all' ∧ all'.length ≤ 40
  | 0, i, k, T, s, all, hi, hk, hF, ha, hT => by
    obtain ⟨k, rfl⟩ : ∃ j, k = j + 2 := ⟨k - 2, by omega⟩
    exact ⟨k, T, s, all, by omega, few_end l all s x K T k i (by omega), hF, by omega⟩
  | m + 1, i, k, T, s, all, hi, hk, hF, ha, hT => by
    obtain ⟨k, rfl⟩ : ∃ j, k = j + 2 := ⟨k - 2, by omega⟩
    by_cases hlt : i < l.length
    · obtain ⟨h0, h1, h2⟩ := hl l[i] (List.getElem_mem _)
      obtain ⟨k0, k1⟩ := mod_range l[i].f0 K hK1
      obtain ⟨w0, w1⟩ := mod_range l[i].f1 1000 (by omega)
      rw [few_round l all s x K T k i hK1 hK8 hlt (by omega) (by omega) h0 h1]
      generalize l[i].f0 % K = key at *
      generalize l[i].f1 % 1000 = wt at *
      have hT0 := hF.mg.nonneg
      have hlen := hF.mg.len
      obtain ⟨l', e, hF'⟩ := hF.step hK8 k0 k1 (wt := 1 + wt) (by omega) (by omega)
      rw [add_some ⟨hF.mg.ok, by omega, hT0, k0, by omega, by omega, by omega⟩, e, Option.bind_some, if_pos rfl]
      exact few_l0 hK1 hK8 l hl x m (i + 1) k _ _ _ (by omega) (by omega) hF' (by simp; omega) (by show T + (1 + wt) ≤ 1000 * ((i + 1 : Nat) : Int); omega)
    · exact ⟨k, T, s, all, by omega, few_end l all s x K T k i (by omega), hF, by omega⟩
theorem lost_zero {K T : Int} {l all : List S51} {k : Nat} (hK1 : 1 ≤ K) (hK8 : K ≤ 8) (hF : FW K T l all) (hk : 50 ≤ k) : heavy_Lost.f k K T l = some 0 := by
  have hM := hF.mg
  have hlen := hM.len
  have hp : ∀ t ∈ l, 1 ≤ t.f1 := fun t ht => (hM.ok.2 t ht).2.2.1
  have htop := hM.top
  have hsum := hF.sum
  have hL := left_l0 l [] k T (by omega) (by simpa using (by omega : l.length ≤ 200)) (by omega) (by omega) hp
  unfold heavy_Lost.f heavy_Sum_left.f
  simp only [List.nil_append, List.length_nil] at hL
  rw [show ((0 : Nat) : Int) = 0 from rfl] at hL
  rw [hL, Option.bind_some, if_pos rfl, if_neg (by omega), w64 (n := K + 1) (by omega) (by omega), u64w (x := K + 1) (by omega) (by omega), if_neg (by omega)]
  have e1 : T - sumL l = 0 := by omega
  rw [e1, Int.zero_tdiv, u64w (by omega) (by omega)]
theorem few_l1 {K T : Int} {s all : List S51} (hK1 : 1 ≤ K) (hK8 : K ≤ 8) (hF : FW K T s all) (ha : all.length ≤ 40) : ∀ (m i k : Nat), (i : Int) + m = K → m + 150 ≤ k → skylightlaw17_HeavyFew.l1 k true K all i K T s = some true
  | 0, i, k, hi, hk => by
    obtain ⟨k, rfl⟩ : ∃ j, k = j + 1 := ⟨k - 1, by omega⟩
    have eK : IntKind.u64.wrap K = K := u64w (by omega) (by omega)
    have c1 : ¬ (i : Int) < K := by omega
    rw [skylightlaw17_HeavyFew.l1, eK, if_neg c1, if_pos rfl, lost_zero hK1 hK8 hF (by omega), Option.bind_some]
    rfl
  | m + 1, i, k, hi, hk => by
    obtain ⟨k, rfl⟩ : ∃ j, k = j + 1 := ⟨k - 1, by omega⟩
    have eK : IntKind.u64.wrap K = K := u64w (by omega) (by omega)
    have c1 : (i : Int) < K := by omega
    have hlen := hF.mg.len
    have ei : IntKind.u64.wrap ((i : Int) + 1) = ((i + 1 : Nat) : Int) := by rw [u64w (by omega) (by omega)]; omega
    have e : skylightlaw17_HeavyFew.l1 (k + 1) true K all i K T s = skylightlaw17_HeavyFew.l1 k true K all ((i + 1 : Nat) : Int) K T s := by
      rw [skylightlaw17_HeavyFew.l1, eK, if_pos c1, hOf_eq hF.mg.ok.1 (by omega) (by omega), Option.bind_some, real_eq hF.mg ha _ (by omega), Option.bind_some, if_pos (hF.get _), ei]
    rw [e]
    exact few_l1 hK1 hK8 hF ha m (i + 1) k (by omega) (by omega)
theorem HeavyFew_pure (k : Nat) (hk : 1000 ≤ k) (a0 : Int) (l : List S51) (ok : ∀ s ∈ l, (Lit.int .u64 s.f0).wf = true ∧ (Lit.int .u64 s.f1).wf = true) : skylightlaw17_HeavyFew.f k a0 l = some true := by
  obtain ⟨hK1, hK8⟩ := keys_range a0
  unfold skylightlaw17_HeavyFew.f
  generalize 1 + mx a0 0 % 8 = K at *
  have hn : heavy_New.f K = some (K, 0, [], 0) := by unfold heavy_New.f; rw [if_neg (by omega), if_neg (by omega)]
  obtain ⟨k', T, s, all, hk', h1, hF, ha⟩ := few_l0 hK1 hK8 l (wf_range ok) true 40 0 k 0 [] [] (by omega) (by omega) (FW.start K hK1) (by simp) (by omega)
  have h2 := few_l1 hK1 hK8 hF ha K.toNat 0 k' (by omega) (by omega)
  rw [show skylightlaw17_awake.f = some true from rfl, Option.bind_some, hn, Option.bind_some]
  exact h1.trans h2
end Fe
end Go.Proofs.Ytohginlodlijkaa.PH
