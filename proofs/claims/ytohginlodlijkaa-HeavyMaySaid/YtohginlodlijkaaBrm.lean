/- Plain: heavy's May and the document's, of any summary of at most 300 items. -/
import Derived.Test.YtohginlodlijkaaBse
import Derived.Test.YtohginlodlijkaaPHm
import Derived.Test.YtohginlodlijkaaPHn
namespace Go.Proofs.Ytohginlodlijkaa.PH
open Go.RowKit Go.Proofs.YtohginlodlijkaaW.PrintWords Go.Proofs.YtohginlodlijkaaW.PrintLast Go.Proofs.YtohginlodlijkaaW.PrintMore
theorem sumL_nonneg {l : List S51} (h : ∀ t ∈ l, 0 ≤ t.f1) : 0 ≤ sumL l := by
  induction l with
  | nil => simp [sumL]
  | cons a l ih =>
    have := ih (fun t ht => h t (by simp [ht]))
    have := h a (by simp)
    simp only [sumL]; omega
theorem w64p (p : List S51) (a : S51) (h : p.length ≤ 500) : wrap64 ((p.length : Int) + 1) = ((p ++ [a]).length : Int) := by
  have : ((p ++ [a]).length : Int) = p.length + 1 := by simp
  rw [this, w64 (by omega) (by omega)]
theorem counts_any : ∀ (s p : List S51) (k : Nat) (acc : Int), s.length < k → (p ++ s).length ≤ 500 → 0 ≤ acc → acc ≤ 4503599627370497 → (∀ t ∈ s, 0 ≤ t.f1) → skylightref17_counts.l0 k (p ++ s) acc p.length = some (min (acc + sumL s) 4503599627370497)
  | [], p, k + 1, acc, _, _, h0, h1, _ => by rw [skylightref17_counts.l0, if_neg (by simp)]; simp only [sumL]; congr 1; omega
  | a :: s, p, k + 1, acc, hk, hl, h0, h1, hp => by
    simp at hl hk
    have ha := hp a (by simp)
    have hp' : ∀ t ∈ s, 0 ≤ t.f1 := fun t ht => hp t (by simp [ht])
    have n1 := sumL_nonneg hp'
    have e : mn (IntKind.u64.wrap (acc + mn a.f1 4503599627370497)) 4503599627370497 = min (acc + a.f1) 4503599627370497 := by
      rw [mn_eq, mn_eq, u64w (by omega) (by omega)]
      omega
    rw [skylightref17_counts.l0, if_pos (by simp; omega), if_pos (by omega), rdT_at, e, w64p p a (by omega), show p ++ a :: s = (p ++ [a]) ++ s by simp, counts_any s (p ++ [a]) k _ (by omega) (by simp; omega) (by omega) (by omega) hp']
    simp only [sumL]
    congr 1
    omega
theorem left_any : ∀ (s p : List S51) (k : Nat) (x : Int), s.length < k → (p ++ s).length ≤ 500 → 0 ≤ x → x < 18446744073709551616 → (∀ t ∈ s, 0 ≤ t.f1) → ∃ y, heavy_Sum_left.l0 k x (p ++ s) (p ++ s).length p.length = some (y, decide (sumL s ≤ x)) ∧ (sumL s ≤ x → y = x - sumL s)
  | [], p, k + 1, x, _, _, h0, _, _ => ⟨x, by rw [heavy_Sum_left.l0, if_neg (by simp)]; simp [sumL, h0], fun _ => by simp [sumL]⟩
  | a :: s, p, k + 1, x, hk, hl, h0, hx, hp => by
    simp at hl hk
    have ha := hp a (by simp)
    have hp' : ∀ t ∈ s, 0 ≤ t.f1 := fun t ht => hp t (by simp [ht])
    have n1 := sumL_nonneg hp'
    rw [heavy_Sum_left.l0, if_pos (by simp; omega), if_pos (by omega), if_pos (by simp; omega), rdT_at]
    rw [show sumL (a :: s) = a.f1 + sumL s from rfl]
    by_cases h : a.f1 > x
    · rw [if_pos h, decide_eq_false (by omega)]
      exact ⟨0, rfl, fun hh => by omega⟩
    · rw [if_neg h, u64w (by omega) (by omega), w64p p a (by omega), show p ++ a :: s = (p ++ [a]) ++ s by simp]
      obtain ⟨y, h1, h2⟩ := left_any s (p ++ [a]) k (x - a.f1) (by omega) (by simp; omega) (by omega) (by omega) hp'
      refine ⟨y, ?_, fun hh => by rw [h2 (by omega)]; omega⟩
      rw [h1]
      congr 2
      rw [decide_eq_decide]
      omega

/-- One item that may not be. -/
def oddT (t : S51) : Bool := !decide (t.f0 < 2305843009213693951) || t.f1 == 0
def chainL : S51 → List S51 → Bool
  | _, [] => true
  | a, b :: s => decide (a.f0 < b.f0) && chainL b s
def chain0 : List S51 → Bool
  | [] => true
  | a :: s => chainL a s
theorem odd_any : ∀ (s p : List S51) (k : Nat), s.length < k → (p ++ s).length ≤ 500 → ∃ y : Int, api_Item_66.l0 k (p ++ s) (p ++ s).length p.length = some y ∧ decide (y ≥ 0) = s.any oddT
  | [], p, k + 1, _, _ => ⟨-1, by rw [api_Item_66.l0, if_neg (by simp)], by simp⟩
  | a :: s, p, k + 1, hk, hl => by
    simp at hl hk
    have e : heavy_May_1.f a.f0 a.f1 = some (oddT a) := by
      by_cases h : a.f0 < 2305843009213693951
      · simp [heavy_May_1.f, hash_Key.f, oddT, h]
      · simp [heavy_May_1.f, hash_Key.f, oddT, h]
    rw [api_Item_66.l0, if_pos (by simp; omega), if_pos (by omega), if_pos (by simp; omega), rdT_at, e, Option.bind_some, List.any_cons]
    cases ho : oddT a with
    | true => exact ⟨p.length, by rw [if_pos rfl], by simp⟩
    | false =>
      rw [if_neg (by simp), w64p p a (by omega), show p ++ a :: s = (p ++ [a]) ++ s by simp]
      obtain ⟨y, h1, h2⟩ := odd_any s (p ++ [a]) k (by omega) (by simp; omega)
      exact ⟨y, h1, by rw [h2]; simp⟩
theorem odd62 {l : List S51} {k : Nat} (hk : l.length < k) (hl : l.length ≤ 500) : api_Item_62.f k l = some (l.any oddT) := by
  obtain ⟨y, h1, h2⟩ := odd_any l [] k hk (by simpa using hl)
  simp only [List.nil_append, List.length_nil] at h1
  rw [show ((0 : Nat) : Int) = 0 from rfl] at h1
  unfold api_Item_62.f api_Item_66.f
  rw [h1, Option.bind_some, h2]
/-- What May tells behind its loop. -/
def mayFin (K T : Int) (l : List S51) (ok : Bool) : Int := if ok = true then (if (l.length : Int) > K then 2 else if T > 4503599627370496 then 2 else if l.any oddT = true then 2 else 0) else 2
theorem may_end {K T : Int} {l : List S51} {k : Nat} {i : Int} {ok : Bool} (hi : ¬ i < (l.length : Int)) (hk : l.length < k) (hl : l.length ≤ 500) : heavy_May.l0 (k + 1) ok i K T l = some (mayFin K T l ok) := by
  rw [heavy_May.l0, if_neg hi]
  unfold mayFin
  cases ok with
  | false => rw [if_neg (by simp), if_neg (by simp)]
  | true =>
    rw [if_pos rfl, if_pos rfl]
    split
    · rfl
    · split
      · rfl
      · rw [odd62 hk hl, Option.bind_some]
        cases l.any oddT <;> rfl
theorem may_loop (K T : Int) : ∀ (s p : List S51) (a : S51) (k : Nat) (ok : Bool), (p ++ a :: s).length + s.length + 1 < k → (p ++ a :: s).length ≤ 400 → heavy_May.l0 k ok ((p ++ [a]).length : Int) K T (p ++ a :: s) = some (mayFin K T (p ++ a :: s) (ok && chainL a s))
  | [], p, a, k + 1, ok, hk, hl => by
    rw [may_end (by simp) (by simp at hk ⊢; omega) (by omega)]
    simp [chainL]
  | b :: s, p, a, k + 1, ok, hk, hl => by
    have e0 : p ++ a :: b :: s = (p ++ [a]) ++ b :: s := by simp
    have hn : (p ++ [a]).length ≤ 400 := by simp at hl ⊢; omega
    have c1 : ((p ++ [a]).length : Int) < ((p ++ a :: b :: s).length : Int) := by simp; omega
    have em : wrap64 (((p ++ [a]).length : Int) - 1) = p.length := by
      have : ((p ++ [a]).length : Int) = p.length + 1 := by simp
      rw [w64 (by omega) (by omega)]; omega
    have ih := fun ok' => may_loop K T s (p ++ [a]) b k ok' (by simp at hk ⊢; omega) (by simp at hl ⊢; omega)
    rw [← e0] at ih
    rw [heavy_May.l0, if_pos c1]
    cases ok with
    | false =>
      rw [if_neg (by simp), w64p (p ++ [a]) b (by omega), ih false]
      simp
    | true =>
      have r1 : rd_T51 (p ++ a :: b :: s) (p.length : Int) = a := rdT_at _ _ _
      have r2 : rd_T51 (p ++ a :: b :: s) ((p ++ [a]).length : Int) = b := by rw [e0]; exact rdT_at _ _ _
      rw [if_pos rfl, em, if_pos (by omega), if_pos (by simp; omega), if_pos (by omega), r1, r2, show heavy_May_2.f a.f0 a.f1 b.f0 b.f1 = some (decide (a.f0 < b.f0)) from rfl, Option.bind_some, w64p (p ++ [a]) b (by omega), ih _]
      simp [chainL]

/-- The document's loop. -/
theorem refMay_loop (K T : Int) : ∀ (s p : List S51) (a : S51) (k : Nat), s.length < k → (p ++ a :: s).length ≤ 400 → skylightref17_May.l0 k ((p ++ [a]).length : Int) K T (p ++ a :: s) = some (if s.any oddT = false ∧ chainL a s = true then 0 else 2)
  | [], p, a, k + 1, hk, hl => by rw [skylightref17_May.l0, if_neg (by simp)]; simp [chainL]
  | b :: s, p, a, k + 1, hk, hl => by
    have e0 : p ++ a :: b :: s = (p ++ [a]) ++ b :: s := by simp
    have hn : (p ++ [a]).length ≤ 400 := by simp at hl ⊢; omega
    have c1 : ((p ++ [a]).length : Int) < ((p ++ a :: b :: s).length : Int) := by simp; omega
    have c2 : ((p ++ [a]).length : Int) > 0 := by simp
    have em : wrap64 (((p ++ [a]).length : Int) - 1) = p.length := by
      have : ((p ++ [a]).length : Int) = p.length + 1 := by simp
      rw [w64 (by omega) (by omega)]; omega
    have ih := refMay_loop K T s (p ++ [a]) b k (by simp at hk ⊢; omega) (by simp at hl ⊢; omega)
    rw [← e0] at ih
    have r1 : rd_T51 (p ++ a :: b :: s) (p.length : Int) = a := rdT_at _ _ _
    have r2 : rd_T51 (p ++ a :: b :: s) ((p ++ [a]).length : Int) = b := by rw [e0]; exact rdT_at _ _ _
    rw [skylightref17_May.l0, if_pos c1, if_pos (by omega), r2, show skylightref04_Key.f b.f0 = some (decide (b.f0 < 2305843009213693951)) from rfl, Option.bind_some, em, r1, w64p (p ++ [a]) b (by omega)]
    by_cases h1 : b.f0 < 2305843009213693951
    · rw [if_pos (by simpa using h1)]
      by_cases h2 : b.f1 = 0
      · rw [if_pos h2, if_neg (by simp [oddT, h2])]
      · rw [if_neg h2, if_pos c2, if_pos (by omega), if_pos (by simp; omega)]
        by_cases h3 : b.f0 ≤ a.f0
        · rw [if_pos h3, if_neg (by simp [chainL]; omega)]
        · rw [if_neg h3, ih]
          have ho : oddT b = false := by simp [oddT, h1, h2]
          have hc : decide (a.f0 < b.f0) = true := by simp; omega
          simp only [List.any_cons, ho, Bool.false_or, chainL, hc, Bool.true_and]
    · rw [if_neg (by simpa using h1), if_neg (by simp [oddT, h1])]

def mayV (K T : Int) (l : List S51) : Int :=
  if 1 ≤ K ∧ K ≤ 256 then (if (l.length : Int) ≤ K ∧ T ≤ 4503599627370496 ∧ sumL l ≤ T ∧ chain0 l = true ∧ l.any oddT = false then 0 else 2) else 9
theorem heavyMay_eq {K T : Int} {l : List S51} {k : Nat} (hk : 1000 ≤ k) (hl : l.length ≤ 300) (hT : 0 ≤ T) (hT1 : T < 18446744073709551616) (h : ∀ t ∈ l, 0 ≤ t.f1) : heavy_May.f k K T l = some (mayV K T l) := by
  obtain ⟨y, h1, _⟩ := left_any l [] k T (by omega) (by simpa using (by omega : l.length ≤ 500)) hT hT1 h
  simp only [List.nil_append, List.length_nil] at h1
  rw [show ((0 : Nat) : Int) = 0 from rfl] at h1
  unfold heavy_May.f heavy_Sum_left.f mayV
  by_cases hK : 1 ≤ K ∧ K ≤ 256
  · have hn : heavy_New.f K = some (K, 0, [], 0) := by unfold heavy_New.f; rw [if_neg (by omega), if_neg (by omega)]
    rw [hn, Option.bind_some, if_pos rfl, h1, Option.bind_some, if_pos hK]
    have hm : heavy_May.l0 k (decide (sumL l ≤ T)) 1 K T l = some (mayFin K T l (decide (sumL l ≤ T) && chain0 l)) := by
      cases l with
      | nil =>
        obtain ⟨k, rfl⟩ : ∃ j, k = j + 1 := ⟨k - 1, by omega⟩
        rw [may_end (by simp) (by simp; omega) (by simp)]
        simp [chain0]
      | cons a s => exact may_loop K T s [] a k _ (by simp at hl ⊢; omega) (by simp at hl ⊢; omega)
    refine hm.trans ?_
    unfold mayFin
    congr 1
    by_cases a1 : sumL l ≤ T <;> by_cases a2 : chain0 l = true <;> by_cases a3 : (l.length : Int) ≤ K <;> by_cases a4 : T ≤ 4503599627370496 <;> cases a5 : l.any oddT <;> simp [a1, a2, a3, a4, Int.not_lt.2, Int.not_le.1] <;> omega
  · have hn : heavy_New.f K = some (0, 0, [], 9) := by
      unfold heavy_New.f
      by_cases h0 : K < 1
      · rw [if_pos h0]
      · rw [if_neg h0, if_pos (by omega)]
    rw [hn, Option.bind_some, if_neg (by decide), if_neg hK]

theorem refMay_body {K T : Int} {l : List S51} {k : Nat} (hk : 900 ≤ k) (hl : l.length ≤ 300) : skylightref17_May.l0 k 0 K T l = some (if l.any oddT = false ∧ chain0 l = true then 0 else 2) := by
  obtain ⟨k, rfl⟩ : ∃ j, k = j + 1 := ⟨k - 1, by omega⟩
  cases l with
  | nil => rw [skylightref17_May.l0, if_neg (by simp)]; simp [chain0]
  | cons a s =>
    have ih := refMay_loop K T s [] a k (by simp at hl ⊢; omega) (by simp at hl ⊢; omega)
    simp only [List.nil_append] at ih
    have c1 : (0 : Int) < ((a :: s).length : Int) := by simp only [List.length_cons]; omega
    have r1 : rd_T51 (a :: s) 0 = a := rfl
    have ew : wrap64 ((0 : Int) + 1) = ([a].length : Int) := by rw [w64 (by omega) (by omega)]; rfl
    rw [skylightref17_May.l0, if_pos c1, if_pos (Int.le_refl 0), r1, show skylightref04_Key.f a.f0 = some (decide (a.f0 < 2305843009213693951)) from rfl, Option.bind_some, ew]
    by_cases h1 : a.f0 < 2305843009213693951
    · rw [if_pos (by simpa using h1)]
      by_cases h2 : a.f1 = 0
      · rw [if_pos h2, if_neg (by simp [oddT, h2])]
      · rw [if_neg h2, if_neg (Int.lt_irrefl 0), ih]
        have ho : oddT a = false := by simp [oddT, h1, h2]
        simp only [List.any_cons, ho, Bool.false_or, chain0]
    · rw [if_neg (by simpa using h1), if_neg (by simp [oddT, h1])]
theorem refMay_eq {K T : Int} {l : List S51} {k : Nat} (hk : 1000 ≤ k) (hl : l.length ≤ 300) (hT : 0 ≤ T) (h : ∀ t ∈ l, 0 ≤ t.f1) : skylightref17_May.f k K T l = some (mayV K T l) := by
  have hC := counts_any l [] k 0 (by omega) (by simpa using (by omega : l.length ≤ 500)) (by omega) (by omega) h
  simp only [List.nil_append, List.length_nil] at hC
  rw [show ((0 : Nat) : Int) = 0 from rfl] at hC
  have hn := sumL_nonneg h
  obtain ⟨k, rfl⟩ : ∃ j, k = j + 1 := ⟨k - 1, by omega⟩
  have hj1 : ∀ x, skylightref17_May.j0 (k + 1) true x T l = some 2 := fun x => by rw [skylightref17_May.j0, if_pos rfl]
  unfold skylightref17_May.f skylightref17_counts.f mayV
  by_cases hK : 1 ≤ K ∧ K ≤ 256
  · have hc : skylightref17_Conf.f K = some true := by unfold skylightref17_Conf.f; rw [if_pos (by omega), decide_eq_true hK.2]
    rw [hc, Option.bind_some, if_pos rfl, if_pos hK]
    by_cases a1 : (l.length : Int) > K
    · rw [if_pos a1, hj1, if_neg (by omega)]
    · rw [if_neg a1]
      by_cases a2 : T > 4503599627370496
      · rw [if_pos a2, hj1, if_neg (by omega)]
      · rw [if_neg a2, hC, Option.bind_some]
        by_cases a3 : sumL l ≤ T
        · have c : decide (min (0 + sumL l) 4503599627370497 > T) = false := decide_eq_false (by omega)
          rw [c, skylightref17_May.j0, if_neg (by simp), refMay_body (by omega) hl]
          congr 1
          by_cases b1 : l.any oddT = false ∧ chain0 l = true
          · rw [if_pos b1, if_pos ⟨by omega, by omega, a3, b1.2, b1.1⟩]
          · rw [if_neg b1, if_neg (fun hh => b1 ⟨hh.2.2.2.2, hh.2.2.2.1⟩)]
        · have c : decide (min (0 + sumL l) 4503599627370497 > T) = true := decide_eq_true (by omega)
          rw [c, hj1, if_neg (fun hh => a3 hh.2.2.1)]
  · have hc : skylightref17_Conf.f K = some false := by
      unfold skylightref17_Conf.f
      by_cases h0 : K ≥ 1
      · rw [if_pos h0, decide_eq_false (by omega)]
      · rw [if_neg h0]
    rw [hc, Option.bind_some, if_neg (by simp), if_neg hK]
end Go.Proofs.Ytohginlodlijkaa.PH
