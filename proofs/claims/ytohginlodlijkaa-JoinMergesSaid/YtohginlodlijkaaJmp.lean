/- Plain: the document's Merge and Sums are the program's. -/
import Derived.Test.YtohginlodlijkaaJmg
import Derived.Test.YtohginlodlijkaaPHg8
namespace Go.Proofs.Ytohginlodlijkaa.PH
open Go.RowKit Go.Proofs.YtohginlodlijkaaW.PrintWords Go.Proofs.YtohginlodlijkaaW.PrintLast Go.Proofs.YtohginlodlijkaaW.PrintMore
theorem place13_l0 (key : Int) : ∀ (s p : List S51) (k : Nat), s.length < k → (p ++ s).length ≤ 200 → skylightref13_place.l0 k (p ++ s) key p.length = some ((p.length + pl s key : Nat) : Int)
  | [], p, k + 1, _, _ => by
    rw [skylightref13_place.l0, if_neg (by simp)]; simp [pl]
  | a :: s, p, k + 1, hk, hl => by
    simp at hl hk
    rw [skylightref13_place.l0, if_pos (by simp; omega), if_pos (by omega), rdT_at]
    by_cases h : a.f0 < key
    · rw [if_pos h, w64s p a (by omega), show p ++ a :: s = (p ++ [a]) ++ s by simp, place13_l0 key s (p ++ [a]) k (by omega) (by simp; omega)]
      simp [pl, h]
      omega
    · rw [if_neg h]
      simp [pl, h]
theorem place13_eq {l : List S51} {key : Int} {k : Nat} (hk : l.length < k) (hl : l.length ≤ 200) : skylightref13_place.f k l key = some ((pl l key : Nat) : Int) := by
  have := place13_l0 key l [] k hk (by simpa using hl)
  simpa [skylightref13_place.f] using this
theorem put13_eq {key v : Int} {l : List S51} {k : Nat} (hr : Rise l) (hk : l.length < k) (hl : l.length ≤ 190) (h0 : 0 ≤ getk l key + v) (h1 : getk l key + v < 18446744073709551616) : skylightref13_Put.f k l key v = some (putk l key (getk l key + v)) := by
  have hp := pl_le l key
  have hg := getk_pl hr key
  have ht : (l.take (pl l key)).length = pl l key := by rw [List.length_take]; omega
  unfold skylightref13_Put.f
  have e : rd_T51 l ((pl l key : Nat) : Int) = l.getD (pl l key) z51 := by simp [rd_T51]
  have ew : wrap64 (((pl l key : Nat) : Int) + 1) = ((pl l key + 1 : Nat) : Int) := by rw [w64 (by omega) (by omega)]; omega
  rw [place13_eq hk (by omega), Option.bind_some, Option.bind_some, if_pos (by omega), if_pos (by omega), Option.bind_some, Int.toNat_natCast, if_pos (by simp; omega), Option.bind_some, putk_pl hr, e, ew, Int.toNat_natCast]
  by_cases h : pl l key < l.length
  · rw [if_pos (by omega)]
    by_cases h2 : (l.getD (pl l key) z51).f0 = key
    · rw [if_pos h, if_pos h2] at hg
      rw [if_pos h2, if_pos (by simp; omega), Option.bind_some, if_pos (by omega), if_pos (by omega), Option.bind_some, if_pos (by simp; omega), if_pos ⟨h, h2⟩, ← hg, u64w h0 h1]
      simp
    · rw [if_pos h, if_neg h2] at hg
      rw [if_neg h2, if_pos (by simp; omega), Option.bind_some, Option.bind_some, if_pos (by simp; omega), if_neg (fun hh => h2 hh.2), hg]
      simp
  · rw [if_neg h] at hg
    rw [if_neg (by omega), if_pos (by simp; omega), Option.bind_some, Option.bind_some, if_pos (by simp; omega), if_neg (fun hh => h hh.1), hg]
    simp
/-- A summary, as the document has it. -/
def s30 (s : Sm) : S30 := ⟨s.K, s.T, s.l⟩
theorem rdT30 {ls : List Sm} {i : Nat} (hi : i < ls.length) : rd_T30 (ls.map s30) (i : Int) = s30 (ls.getD i zSm) := by simp [rd_T30, hi]
theorem sum_nn {q : List S51} (h : ∀ x ∈ q, 0 ≤ x.f1) : 0 ≤ sumL q ∧ ∀ k, 0 ≤ getk q k ∧ getk q k ≤ sumL q := by
  induction q with
  | nil => simp [sumL, getk]
  | cons a q ih =>
    have h1 := h a (by simp)
    obtain ⟨h2, h3⟩ := ih (fun y hy => h y (by simp [hy]))
    refine ⟨by simp only [sumL]; omega, fun k => ?_⟩
    have := h3 k
    simp only [sumL, getk]
    split <;> omega
theorem num_a {A F m k fr B : Nat} (h : F + 200 + (m + 1) ≤ k + 1) (hl : A + (m + 1) + fr ≤ 190) (hB : B ≤ A + 1) : A < k ∧ A ≤ 190 ∧ F + 200 + m ≤ k ∧ B + m + fr ≤ 190 := by omega
theorem num_b {sa g x sr tr : Int} (h0 : 0 ≤ g) (h1 : g ≤ sa) (hx : 0 ≤ x) (hs : sa + (x + sr) + tr < 9223372036854775808) (hr : 0 ≤ sr) (ht : 0 ≤ tr) : 0 ≤ g + x ∧ g + x < 18446744073709551616 ∧ (sa - g + (g + x)) + sr + tr < 9223372036854775808 := by omega
theorem num_c {j m n : Nat} (h : j + (m + 1) = n) : j < n ∧ ((j : Int) < (n : Int)) ∧ j + 1 + m = n := by omega
theorem sums18_l1 {ls : List Sm} {i : Nat} (hi : i < ls.length) (hlen : ls.length ≤ 10) {q : List S51} (hq : (ls.getD i zSm).l = q) {F fr : Nat} {tr : Int} {R : List S51 → Option (List S51)}
    (hR : ∀ k acc, F ≤ k → Rise acc → (∀ x ∈ acc, 0 ≤ x.f1) → sumL acc + tr < 9223372036854775808 → acc.length + fr ≤ 190 → skylightref18_Sums.l0 k (ls.map s30) acc ((i + 1 : Nat) : Int) = R acc) (h0 : 0 ≤ tr) (hcs : ∀ x ∈ q, 0 ≤ x.f1) (hwj : ∀ j : Nat, j < q.length → wrap64 ((j : Int) + 1) = ((j + 1 : Nat) : Int)) :
    ∀ (m j k : Nat) (acc : List S51), j + m = q.length → F + 200 + m ≤ k → Rise acc → (∀ x ∈ acc, 0 ≤ x.f1) → acc.length + m + fr ≤ 190 → sumL acc + sumL (q.drop j) + tr < 9223372036854775808 →
      skylightref18_Sums.l1 k (ls.map s30) acc (i : Int) (j : Int) = R (mergeL acc (q.drop j)) := by
  have hi0 : (0 : Int) ≤ (i : Int) := Int.natCast_nonneg i
  have hi1 : (i : Int) < ((ls.map s30).length : Int) := by rw [List.length_map]; omega
  have ewi : wrap64 ((i : Int) + 1) = ((i + 1 : Nat) : Int) := by rw [w64 (by omega) (by omega)]; omega
  have ers : rd_T30 (ls.map s30) (i : Int) = s30 (ls.getD i zSm) := rdT30 hi
  have e2 : (s30 (ls.getD i zSm)).f2 = q := hq
  intro m
  induction m with
  | zero =>
    intro j k acc hj hk hr hc hl hs
    obtain ⟨k, rfl⟩ : ∃ q, k = q + 1 := ⟨k - 1, by clear hs; omega⟩
    have e : q.drop j = [] := List.drop_eq_nil_of_le (by clear hs; omega)
    have hnj : ¬ (j : Int) < (q.length : Int) := by clear hs; omega
    rw [e] at hs ⊢
    simp only [sumL, Int.add_zero] at hs
    rw [skylightref18_Sums.l1, if_pos hi0, if_pos hi1, ers, e2, if_neg hnj, ewi, mergeL]
    exact hR k acc (by clear hs; omega) hr hc hs (by clear hs; omega)
  | succ m ih =>
    intro j k acc hj hk hr hc hl hs
    obtain ⟨k, rfl⟩ : ∃ q, k = q + 1 := ⟨k - 1, by clear hs; omega⟩
    obtain ⟨hjl, hjl2, hjm⟩ := num_c hj
    have hj0 : (0 : Int) ≤ (j : Int) := Int.natCast_nonneg j
    have ed : q.drop j = q[j] :: q.drop (j + 1) := List.drop_eq_getElem_cons hjl
    have er : rd_T51 q (j : Int) = q[j] := rdT_get hjl
    have ew : wrap64 ((j : Int) + 1) = ((j + 1 : Nat) : Int) := hwj j hjl
    rw [ed] at hs ⊢
    have hx := hcs _ (List.getElem_mem hjl)
    have htn := (sum_nn (q := q.drop (j + 1)) (fun x hx => hcs x (List.mem_of_mem_drop hx))).1
    simp only [sumL] at hs
    obtain ⟨hsa, hg⟩ := sum_nn hc
    have hsp := sumL_putk acc hr q[j].f0 (getk acc q[j].f0 + q[j].f1)
    have hpl := putk_len2 acc q[j].f0 (getk acc q[j].f0 + q[j].f1)
    obtain ⟨hg0, hg1⟩ := hg q[j].f0
    obtain ⟨n1, n2, n3, n4⟩ := num_a hk hl hpl.2
    obtain ⟨n5, n6, n7⟩ := num_b hg0 hg1 hx hs htn h0
    rw [← hsp] at n7
    have hput := put13_eq (key := q[j].f0) (v := q[j].f1) (k := k) hr n1 n2 n5 n6
    have hcn : ∀ z ∈ putk acc q[j].f0 (getk acc q[j].f0 + q[j].f1), 0 ≤ z.f1 := fun z hz => by
      rcases putk_mem hz with rfl | hz
      · exact n5
      · exact hc z hz
    rw [skylightref18_Sums.l1, if_pos hi0, if_pos hi1, ers, e2, if_pos hjl2, if_pos hj0, er, mergeL, hput, Option.bind_some, ew]
    exact ih (j + 1) k _ hjm n3 (putk_rise hr _ _) hcn n4 n7
theorem sums18_l0 {ls : List Sm} (hlen : ls.length ≤ 10) (hc : ∀ s ∈ ls, ∀ x ∈ s.l, 0 ≤ x.f1) : ∀ (m i k : Nat) (acc : List S51), i + m = ls.length → 500 * m + 1 ≤ k → Rise acc → (∀ x ∈ acc, 0 ≤ x.f1) → acc.length + ((ls.drop i).flatMap (·.l)).length ≤ 190 → sumL acc + sumL ((ls.drop i).flatMap (·.l)) < 9223372036854775808 →
      skylightref18_Sums.l0 k (ls.map s30) acc (i : Int) = some (mergeL acc ((ls.drop i).flatMap (·.l))) := by
  intro m
  induction m with
  | zero =>
    intro i k acc hi hk _ _ _ _
    obtain ⟨k, rfl⟩ : ∃ q, k = q + 1 := ⟨k - 1, by omega⟩
    rw [skylightref18_Sums.l0, if_neg (by simp; omega), List.drop_eq_nil_of_le (by omega)]
    rfl
  | succ m ih =>
    intro i k acc hi hk hr hca hl hs
    obtain ⟨k, rfl⟩ : ∃ q, k = q + 1 := ⟨k - 1, by clear hs; omega⟩
    have hil : i < ls.length := by clear hs; omega
    have hil2 : (i : Int) < ((ls.map s30).length : Int) := by rw [List.length_map]; clear hs; omega
    have ed : ls.drop i = ls[i] :: ls.drop (i + 1) := List.drop_eq_getElem_cons hil
    have eg : (ls.getD i zSm).l = ls[i].l := by simp [hil]
    rw [ed, List.flatMap_cons] at hl hs ⊢
    rw [sumL_append] at hs
    rw [List.length_append] at hl
    have ht0 := (sum_nn (q := (ls.drop (i + 1)).flatMap (·.l)) (fun x hx => by
      obtain ⟨s, hs, hx⟩ := List.mem_flatMap.1 hx
      exact hc s (List.mem_of_mem_drop hs) x hx)).1
    have hR : ∀ k acc, 500 * m + 1 ≤ k → Rise acc → (∀ x ∈ acc, 0 ≤ x.f1) → sumL acc + sumL ((ls.drop (i + 1)).flatMap (·.l)) < 9223372036854775808 → acc.length + ((ls.drop (i + 1)).flatMap (·.l)).length ≤ 190 → skylightref18_Sums.l0 k (ls.map s30) acc ((i + 1 : Nat) : Int) = some (mergeL acc ((ls.drop (i + 1)).flatMap (·.l))) :=
      fun k2 a2 hk2 hr2 hc2 hs2 hl2 => ih (i + 1) k2 a2 (by clear hs hs2; omega) hk2 hr2 hc2 hl2 hs2
    rw [merge_append, skylightref18_Sums.l0, if_pos hil2]
    have hwj : ∀ j : Nat, j < (ls[i]).l.length → wrap64 ((j : Int) + 1) = ((j + 1 : Nat) : Int) := fun j hj => by clear hs; rw [w64 (by omega) (by omega)]; omega
    have hin := sums18_l1 hil hlen eg hR ht0 (hc _ (List.getElem_mem hil)) hwj (ls[i]).l.length 0 k acc (by omega) (by clear hs; omega) hr hca (by clear hs; omega) (by rw [List.drop_zero]; omega)
    rw [List.drop_zero] at hin
    exact hin
theorem sums18_eq {ls : List Sm} (hlen : ls.length ≤ 6) (hc : ∀ s ∈ ls, ∀ x ∈ s.l, 0 ≤ x.f1) (hl : (ls.flatMap (·.l)).length ≤ 190) (hs : totL (ls.flatMap (·.l)) < 9223372036854775808) (k : Nat) (hk : 4000 ≤ k) : skylightref18_Sums.f k (ls.map s30) = some (mergeL [] (ls.flatMap (·.l))) := by
  rw [totL_sumL] at hs
  have := sums18_l0 (by omega) hc ls.length 0 k [] (by omega) (by omega) rise_nil (by simp) (by simpa using hl) (by simpa [sumL] using hs)
  simpa [skylightref18_Sums.f] using this
end Go.Proofs.Ytohginlodlijkaa.PH
