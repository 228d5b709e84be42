/- Plain: the insertion's sorting, as printed, sorts. -/
import Derived.Test.YtohginlodlijkaaPHs
namespace Go.Proofs.Ytohginlodlijkaa.PH
open Go.RowKit Go.Proofs.YtohginlodlijkaaW.PrintWords Go.Proofs.YtohginlodlijkaaW.PrintLast Go.Proofs.YtohginlodlijkaaW.PrintMore

abbrev srt0 := slices_insertionSortOrdered_uint64.l0
abbrev srt1 := slices_insertionSortOrdered_uint64.l1
theorem cmpLess_eq (a b : Int) : cmp_Less_uint64.f a b = some (decide (a < b)) := by
  simp [cmp_Less_uint64.f, cmp_isNaN_uint64.f]
theorem srt0_more {k : Nat} {l : List Int} {a b i : Int} {r : List Int} (h : srt0 k l a b i = some r) : ∀ d, srt0 (k + d) l a b i = some r
  | 0 => h
  | d + 1 => (slices_insertionSortOrdered_uint64.mono_l (k + d)).1 _ _ _ _ r (srt0_more h d)
theorem w64 {n : Int} (h0 : -1000 ≤ n) (h1 : n ≤ 1000) : wrap64 n = n := by unfold wrap64; omega
theorem rd_at {p s : List Int} {x : Int} {i : Int} (h : i = p.length) : rd (p ++ x :: s) i = x := by
  subst h
  simp [rd]
theorem rev_ind {P : List Int → Prop} (h0 : P []) (h1 : ∀ p a, P p → P (p ++ [a])) (l : List Int) : P l := by
  have : ∀ m : List Int, P m.reverse := fun m => by
    induction m with
    | nil => exact h0
    | cons a m ih => rw [List.reverse_cons]; exact h1 _ _ ih
  simpa using this l.reverse

/-- One number finds its place. -/
theorem ins_step (x : Int) (p : List Int) : ∀ (s : List Int), p.Pairwise (· ≤ ·) → (p ++ x :: s).length ≤ 100 → ∃ q : List Int, q.Perm (p ++ [x]) ∧ q.Pairwise (· ≤ ·) ∧
    ∀ (k i : Nat) (r : List Int), i ≤ 100 → srt0 k (q ++ s) 0 (p ++ x :: s).length (i + 1 : Nat) = some r → srt1 (k + p.length + 1) (p ++ x :: s) 0 (p ++ x :: s).length i p.length = some r := by
  induction p using rev_ind with
  | h0 =>
    intro s _ _
    refine ⟨[x], by simp, by simp, fun k i r hi h => ?_⟩
    have ew : wrap64 ((i : Int) + 1) = ((i + 1 : Nat) : Int) := by rw [w64 (by omega) (by omega)]; omega
    rw [srt1, slices_insertionSortOrdered_uint64.l1, if_neg (by simp), ew]
    simpa using h
  | h1 p a ih =>
    intro s hp hl
    have hl' : (p ++ a :: x :: s).length ≤ 100 := by simpa using hl
    simp at hl
    obtain ⟨hp1, _, hpa⟩ := List.pairwise_append.1 hp
    have e0 : p ++ [a] ++ x :: s = p ++ a :: x :: s := by simp
    have em : wrap64 (((p ++ [a]).length : Int) - 1) = p.length := by
      have : ((p ++ [a]).length : Int) = p.length + 1 := by simp
      rw [w64 (by omega) (by omega)]; omega
    have r1 : rd (p ++ a :: x :: s) ((p ++ [a]).length : Int) = x := by
      rw [← e0]; exact rd_at rfl
    have r2 : rd (p ++ a :: x :: s) (p.length : Int) = a := rd_at rfl
    have hstep : ∀ (k i : Nat), srt1 (k + 1) (p ++ [a] ++ x :: s) 0 (p ++ [a] ++ x :: s).length i (p ++ [a]).length =
        if x < a then srt1 k (p ++ x :: a :: s) 0 (p ++ x :: a :: s).length i p.length else srt0 k (p ++ a :: x :: s) 0 (p ++ a :: x :: s).length (wrap64 ((i : Int) + 1)) := by
      intro k i
      have hlen : (p ++ [a]).length = p.length + 1 := by simp
      rw [e0, srt1, slices_insertionSortOrdered_uint64.l1, if_pos (by rw [hlen]; omega), if_pos (by omega), if_pos (by simp; omega), em, if_pos (by omega), if_pos (by simp; omega), r1, r2, cmpLess_eq, Option.bind_some]
      by_cases hx : x < a
      · rw [if_pos hx, if_pos (by simp [hx])]
        have es : ((p ++ a :: x :: s).set ((p ++ [a]).length : Int).toNat a).set ((p.length : Int)).toNat x = p ++ x :: a :: s := by
          rw [Int.toNat_natCast, Int.toNat_natCast, hlen, List.set_append_right _ _ (by omega), List.set_append_right _ _ (by omega)]
          simp
        rw [es]
        congr 1
        simp
      · rw [if_neg hx, if_neg (by simp [hx])]
    by_cases hx : x < a
    · obtain ⟨q, hq1, hq2, hq3⟩ := ih (a :: s) hp1 (by simpa using hl')
      refine ⟨q ++ [a], ?_, ?_, fun k i r hi h => ?_⟩
      · refine (hq1.append_right [a]).trans ?_
        rw [List.append_assoc, List.append_assoc]
        exact (List.Perm.swap a x []).append_left p
      · refine List.pairwise_append.2 ⟨hq2, by simp, fun y hy z hz => ?_⟩
        simp at hz
        subst hz
        rcases List.mem_append.1 (hq1.mem_iff.1 hy) with hy | hy
        · exact hpa y hy z (by simp)
        · simp at hy; omega
      · rw [show k + (p ++ [a]).length + 1 = (k + p.length + 1) + 1 by simp; omega, hstep, if_pos hx]
        refine hq3 k i r hi ?_
        rw [show (p ++ x :: a :: s).length = (p ++ [a] ++ x :: s).length by simp]
        simpa using h
    · refine ⟨p ++ [a] ++ [x], List.Perm.refl _, ?_, fun k i r hi h => ?_⟩
      · refine List.pairwise_append.2 ⟨hp, by simp, fun y hy z hz => ?_⟩
        simp at hz
        subst hz
        rcases List.mem_append.1 hy with hy | hy
        · have := hpa y hy a (by simp); omega
        · simp at hy; omega
      · have ew : wrap64 ((i : Int) + 1) = ((i + 1 : Nat) : Int) := by rw [w64 (by omega) (by omega)]; omega
        rw [show k + (p ++ [a]).length + 1 = (k + (p.length + 1)) + 1 by simp, hstep, if_neg hx, ew]
        refine srt0_more ?_ _
        rw [show (p ++ a :: x :: s).length = (p ++ [a] ++ x :: s).length by simp]
        simpa using h

theorem ins_all : ∀ (s p : List Int), p.Pairwise (· ≤ ·) → (p ++ s).length ≤ 90 → ∃ q : List Int, q.Perm (p ++ s) ∧ q.Pairwise (· ≤ ·) ∧ srt0 (s.length * 92 + 1) (p ++ s) 0 (p ++ s).length p.length = some q
  | [], p, hp, _ => ⟨p, by simp, hp, by rw [srt0, slices_insertionSortOrdered_uint64.l0, if_neg (by simp)]; simp⟩
  | x :: s, p, hp, hl => by
    obtain ⟨q, h1, h2, h3⟩ := ins_step x p s hp (by omega)
    have e1 : (q ++ s).length = (p ++ x :: s).length := by have := h1.length_eq; simp at this ⊢; omega
    obtain ⟨q', g1, g2, g3⟩ := ins_all s q h2 (by omega)
    refine ⟨q', g1.trans ((h1.append_right s).trans (by simp)), g2, ?_⟩
    have hlen : q.length = p.length + 1 := by have := h1.length_eq; simpa using this
    rw [e1, hlen] at g3
    have hpl : p.length ≤ 90 := by simp at hl; omega
    have := h3 _ p.length q' (by omega) g3
    rw [show (x :: s).length * 92 + 1 = (s.length * 92 + 1 + p.length + 1 + (90 - p.length)) + 1 by simp; omega, srt0, slices_insertionSortOrdered_uint64.l0, if_pos (by simp; omega)]
    have hm : ∀ d, srt1 (s.length * 92 + 1 + p.length + 1 + d) (p ++ x :: s) 0 (p ++ x :: s).length p.length p.length = some q' := fun d => by
      induction d with
      | zero => exact this
      | succ d ih => exact (slices_insertionSortOrdered_uint64.mono_l _).2 _ _ _ _ _ q' ih
    exact hm _

/-- What is no longer than 10 is sorted. -/
theorem ins_sorts (ss t : List Int) (hl : ss.length ≤ 10) (hp : ss.Perm t) (ht : t.Pairwise (· < ·)) : slices_insertionSortOrdered_uint64.f 1000 ss 0 ss.length = some t := by
  unfold slices_insertionSortOrdered_uint64.f
  rw [show wrap64 (0 + 1) = 1 by rw [w64] <;> omega]
  have hsame : ∀ q : List Int, q.Perm ss → q.Pairwise (· ≤ ·) → q = t := fun q h1 h2 =>
    List.Perm.eq_of_pairwise (le := fun a b : Int => a ≤ b) (fun a b _ _ h h' => Int.le_antisymm h h') h2 (ht.imp (fun h => by omega)) (h1.trans hp)
  cases ss with
  | nil =>
    have := hsame [] (by simp) (by simp)
    subst this
    rw [slices_insertionSortOrdered_uint64.l0, if_neg (by simp)]
  | cons x s =>
    obtain ⟨q, h1, h2, h3⟩ := ins_all s [x] (by simp) (by simp at hl ⊢; omega)
    have := hsame q h1 h2
    subst this
    simp at hl
    have := srt0_more h3 (1000 - (s.length * 92 + 1))
    rw [show s.length * 92 + 1 + (1000 - (s.length * 92 + 1)) = 1000 by omega] at this
    simpa using this
end Go.Proofs.Ytohginlodlijkaa.PH
