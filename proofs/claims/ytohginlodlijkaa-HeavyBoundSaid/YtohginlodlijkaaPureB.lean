/- Plain: HeavyBound answers true. -/
import Derived.Test.YtohginlodlijkaaBrj
import Derived.Test.YtohginlodlijkaaPHb
namespace Go.Proofs.Ytohginlodlijkaa.PH
open Go.RowKit Go.Proofs.YtohginlodlijkaaW.PrintWords Go.Proofs.YtohginlodlijkaaW.PrintLast Go.Proofs.YtohginlodlijkaaW.PrintMore
theorem wr1 (i : Nat) (h : i ≤ 500) : wrap64 ((i : Int) + 1) = ((i + 1 : Nat) : Int) := by rw [w64 (by omega) (by omega)]; omega
theorem bound_j1 {K T : Int} {s all : List S51} (hK1 : 1 ≤ K) (hK8 : K ≤ 8) (hM : MG K T s all) (ha : all.length ≤ 40) (a2 key : Int) (i k : Nat) (hi : i ≤ 100) (hk : 150 ≤ k) :
    skylightlaw17_HeavyBound.j1 (k + 1) a2 true all i key K T s = skylightlaw17_HeavyBound.l0 k a2 true all ((i + 1 : Nat) : Int) K T s := by
  obtain ⟨E, hE0, hE1, hE2, hE3⟩ := hLost_eq hK1 hK8 hM (k := k) (by omega)
  obtain ⟨g1, g2⟩ := hE3 key
  have hT := hM.nonneg
  have htop := hM.top
  have hlen := hM.len
  obtain ⟨hg0, hg1⟩ := getk_bound hM.ok key
  have hbig : E ≤ (K + 1) * E := by
    have : (K + 1) * E = K * E + E := by rw [Int.add_mul]; simp
    have : 0 ≤ K * E := Int.mul_nonneg (by omega) hE0
    omega
  have c1 : ¬ getk s key > realL all key := by omega
  have c2 : ¬ realL all key > getk s key + E := by omega
  rw [skylightlaw17_HeavyBound.j1, real_eq hM ha key (by omega), Option.bind_some, hOf_eq hM.ok.1 (by omega) (by omega), Option.bind_some, if_neg c1, hE1, Option.bind_some, u64w (by omega) (by omega), if_neg c2, wr1 i (by omega)]
theorem bound_round {K T : Int} {s all : List S51} (hK1 : 1 ≤ K) (hK8 : K ≤ 8) (hM : MG K T s all) (ha : all.length ≤ 40) (a2 : Int) (i k : Nat) (hi : i ≤ all.length) (hk : 150 ≤ k) :
    skylightlaw17_HeavyBound.l0 (k + 2) a2 true all i K T s = skylightlaw17_HeavyBound.l0 k a2 true all ((i + 1 : Nat) : Int) K T s := by
  have c1 : (i : Int) ≤ (all.length : Int) := by omega
  have c2 : (0 : Int) ≤ (i : Int) := by omega
  rw [skylightlaw17_HeavyBound.l0, if_pos c1]
  by_cases h : (i : Int) < (all.length : Int)
  · rw [if_pos h, if_pos c2, bound_j1 hK1 hK8 hM ha _ _ i k (by omega) hk]
  · rw [if_neg h, bound_j1 hK1 hK8 hM ha _ _ i k (by omega) hk]
theorem bound_l0 {K T : Int} {s all : List S51} (hK1 : 1 ≤ K) (hK8 : K ≤ 8) (hM : MG K T s all) (ha : all.length ≤ 40) (a2 : Int) : ∀ (m i k : Nat), i + m = all.length + 1 → 2 * m + 200 ≤ k → skylightlaw17_HeavyBound.l0 k a2 true all i K T s = some true
  | 0, i, k, hi, hk => by
    obtain ⟨k, rfl⟩ : ∃ j, k = j + 1 := ⟨k - 1, by omega⟩
    have c1 : ¬ (i : Int) ≤ (all.length : Int) := by omega
    rw [skylightlaw17_HeavyBound.l0, if_neg c1]
  | m + 1, i, k, hi, hk => by
    obtain ⟨k, rfl⟩ : ∃ j, k = j + 2 := ⟨k - 2, by omega⟩
    rw [bound_round hK1 hK8 hM ha a2 i k (by omega) (by omega)]
    exact bound_l0 hK1 hK8 hM ha a2 m (i + 1) k (by omega) (by omega)
theorem wf_range {l : List S51} (ok : ∀ s ∈ l, (Lit.int .u64 s.f0).wf = true ∧ (Lit.int .u64 s.f1).wf = true) : ∀ t ∈ l, 0 ≤ t.f0 ∧ 0 ≤ t.f1 ∧ t.f1 < 18446744073709551616 := fun t ht => by
  obtain ⟨h0, h1⟩ := ok t ht
  simp [Lit.wf, IntKind.min, IntKind.max, IntKind.signed, IntKind.bits] at h0 h1
  omega
theorem HeavyBound_pure (k : Nat) (hk : 1000 ≤ k) (a0 a2 : Int) (l : List S51) (ok : ∀ s ∈ l, (Lit.int .u64 s.f0).wf = true ∧ (Lit.int .u64 s.f1).wf = true) : skylightlaw17_HeavyBound.f k a0 l a2 = some true := by
  obtain ⟨K, T, s, all, h, hK1, hK8, hM, ha⟩ := made_eq a0 l (wf_range ok) k (by omega)
  have := bound_l0 hK1 hK8 hM ha a2 (all.length + 1) 0 k (by omega) (by omega)
  unfold skylightlaw17_HeavyBound.f
  rw [show skylightlaw17_awake.f = some true from rfl, Option.bind_some, h, Option.bind_some, show skylightlaw17_made.f K T s = some (K, T, s) from rfl, Option.bind_some]
  exact this
end Go.Proofs.Ytohginlodlijkaa.PH
