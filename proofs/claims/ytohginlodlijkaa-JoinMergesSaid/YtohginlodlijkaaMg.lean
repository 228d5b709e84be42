/- Plain: Misra and Gries: what a summary tells of what came. -/
import Derived.Test.YtohginlodlijkaaAdd
namespace Go.Proofs.Ytohginlodlijkaa.PH
def sumL : List S51 → Int
  | [] => 0
  | s :: l => s.f1 + sumL l
def realL : List S51 → Int → Int
  | [], _ => 0
  | s :: l, k => (if s.f0 = k then s.f1 else 0) + realL l k
theorem sumL_snoc (l : List S51) (s : S51) : sumL (l ++ [s]) = sumL l + s.f1 := by
  induction l with
  | nil => simp [sumL]
  | cons t l ih => simp only [List.cons_append, sumL, ih]; omega
theorem realL_snoc (l : List S51) (s : S51) (k : Int) : realL (l ++ [s]) k = realL l k + if s.f0 = k then s.f1 else 0 := by
  induction l with
  | nil => simp [realL]
  | cons t l ih => simp only [List.cons_append, realL, ih]; omega
theorem realL_nonneg {l : List S51} (h : ∀ s ∈ l, 1 ≤ s.f1) (k : Int) : 0 ≤ realL l k := by
  induction l with
  | nil => simp [realL]
  | cons t l ih =>
    have h1 := ih (fun s hs => h s (by simp [hs]))
    have h2 := h t (by simp)
    simp only [realL]
    split <;> omega
theorem realL_le {l : List S51} (h : ∀ s ∈ l, 1 ≤ s.f1) (k : Int) : realL l k ≤ sumL l := by
  induction l with
  | nil => simp [realL, sumL]
  | cons t l ih =>
    have h1 := ih (fun s hs => h s (by simp [hs]))
    have h2 := h t (by simp)
    simp only [realL, sumL]
    split <;> omega
theorem sumL_putk (l : List S51) (hr : Rise l) (k v : Int) : sumL (putk l k v) = sumL l - getk l k + v := by
  induction l with
  | nil => simp [putk, sumL, getk]
  | cons t l ih =>
    obtain ⟨ha, hl⟩ := List.pairwise_cons.1 hr
    simp only [putk, getk]
    by_cases h1 : t.f0 < k
    · rw [if_pos h1, if_neg (by omega)]
      simp only [sumL]
      rw [ih hl]
      omega
    · rw [if_neg h1]
      by_cases h2 : t.f0 = k
      · rw [if_pos h2, if_pos h2]
        simp only [sumL]
        omega
      · rw [if_neg h2, if_neg h2, getk_none (fun s hs => by have := ha s hs; omega)]
        simp only [sumL]
        omega
theorem sumL_lessk {l : List S51} {d : Int} (h : ∀ s ∈ l, d ≤ s.f1) : sumL (lessk l d) = sumL l - d * l.length := by
  induction l with
  | nil => simp [lessk, sumL]
  | cons t l ih =>
    have ih' := ih (fun s hs => h s (by simp [hs]))
    have e : d * ((t :: l).length : Int) = d * l.length + d := by rw [List.length_cons, Int.natCast_add, Int.mul_add]; simp
    rw [e]
    unfold lessk at *
    rw [List.filterMap_cons]
    split
    · rename_i hs
      split at hs
      · simp only [sumL]; omega
      · cases hs
    · rename_i u hs
      split at hs
      · cases hs
      · cases hs
        simp only [sumL]
        omega
theorem getk_lessk_if {l : List S51} (hr : Rise l) (d j : Int) : getk (lessk l d) j = if hask l j then getk l j - d else 0 := by
  by_cases h : hask l j = true
  · rw [if_pos h]
    obtain ⟨s, hs, rfl⟩ := hask_iff.1 h
    rw [getk_mem hr hs]
    by_cases hd : s.f1 - d = 0
    · rw [hd]
      refine getk_none fun t ht he => ?_
      obtain ⟨u, hu, e0, e1, hne⟩ := lessk_mem ht
      have a := getk_mem hr hu
      rw [← e0, he, getk_mem hr hs] at a
      omega
    · exact getk_mem (lessk_rise hr d) (s := ⟨s.f0, s.f1 - d⟩) (List.mem_filterMap.2 ⟨s, hs, by rw [if_neg hd]⟩)
  · rw [if_neg h]
    refine getk_none fun t ht he => h ?_
    obtain ⟨u, hu, e0, _, _⟩ := lessk_mem ht
    exact hask_iff.2 ⟨u, hu, by omega⟩
theorem putk_same_length {l : List S51} {k v : Int} (hr : Rise l) (h : hask l k = true) : (putk l k v).length = l.length := by
  induction l with
  | nil => simp [hask] at h
  | cons t l ih =>
    obtain ⟨ha, hl⟩ := List.pairwise_cons.1 hr
    obtain ⟨s, hs, he⟩ := hask_iff.1 h
    simp only [putk]
    rcases List.mem_cons.1 hs with rfl | hs
    · rw [if_neg (by omega), if_pos he]; simp
    · have := ha s hs
      rw [if_pos (by omega)]
      simp [ih hl (hask_iff.2 ⟨s, hs, he⟩)]
theorem minL_at (w : Int) : ∀ l : List S51, minL (fun _ => true) w l = w ∨ ∃ s ∈ l, s.f1 = minL (fun _ => true) w l
  | [] => .inl rfl
  | t :: l => by
    simp only [minL, if_true]
    rcases minL_at w l with h | ⟨s, hs, h⟩
    · by_cases hh : t.f1 ≤ minL (fun _ => true) w l
      · exact .inr ⟨t, by simp, by omega⟩
      · exact .inl (by omega)
    · by_cases hh : t.f1 ≤ minL (fun _ => true) w l
      · exact .inr ⟨t, by simp, by omega⟩
      · exact .inr ⟨s, by simp [hs], by omega⟩
theorem lessk_shorter {l : List S51} {d : Int} {s : S51} (hs : s ∈ l) (hd : s.f1 = d) : (lessk l d).length < l.length := by
  induction l with
  | nil => simp at hs
  | cons t l ih =>
    have hle := lessk_length l d
    unfold lessk at *
    rw [List.filterMap_cons]
    rcases List.mem_cons.1 hs with rfl | hs
    · rw [if_pos (by omega)]
      simp only [List.length_cons]
      omega
    · have := ih hs
      split
      · simp only [List.length_cons]; omega
      · simp only [List.length_cons]; omega

/-- What is known of a summary. -/
structure MG (K T : Int) (l all : List S51) : Prop where
  ok : Okl l
  keys : ∀ s ∈ l, s.f0 < 2305843009213693951
  len : (l.length : Int) ≤ K
  tot : T = sumL all
  top : T ≤ 4503599627370496
  pos : ∀ s ∈ all, 0 ≤ s.f0 ∧ s.f0 < 2305843009213693951 ∧ 1 ≤ s.f1
  E : ∃ E : Int, 0 ≤ E ∧ T = sumL l + (K + 1) * E ∧ ∀ key, getk l key ≤ realL all key ∧ realL all key ≤ getk l key + E
theorem MG.start (K : Int) (hK : 1 ≤ K) : MG K 0 [] [] :=
  ⟨⟨List.Pairwise.nil, by simp⟩, by simp, by simp; omega, rfl, by omega, by simp, 0, by omega, by simp [sumL], fun key => by simp [getk, realL]⟩
theorem MG.nonneg {K T : Int} {l all : List S51} (h : MG K T l all) : 0 ≤ T := by
  have := realL_nonneg (fun s hs => (h.pos s hs).2.2) 0
  have := realL_le (fun s hs => (h.pos s hs).2.2) (k := 0) (l := all)
  have := h.tot
  omega
theorem okl_of {l : List S51} (hr : Rise l) (h : ∀ s ∈ l, 0 ≤ s.f0 ∧ s.f0 < 2305843009213693951 ∧ 1 ≤ s.f1 ∧ s.f1 ≤ 4503599627370496) : Okl l ∧ ∀ s ∈ l, s.f0 < 2305843009213693951 :=
  ⟨⟨hr, fun s hs => by obtain ⟨a, b, c, d⟩ := h s hs; exact ⟨a, by omega, c, d⟩⟩, fun s hs => (h s hs).2.1⟩
theorem putk_ok {l : List S51} (ho : Okl l) (hk : ∀ s ∈ l, s.f0 < 2305843009213693951) {k v : Int} (h0 : 0 ≤ k) (h1 : k < 2305843009213693951) (h2 : 1 ≤ v) (h3 : v ≤ 4503599627370496) : Okl (putk l k v) ∧ ∀ s ∈ putk l k v, s.f0 < 2305843009213693951 :=
  okl_of (putk_rise ho.1 k v) fun s hs => by
    rcases putk_mem hs with rfl | hs
    · exact ⟨h0, h1, h2, h3⟩
    · obtain ⟨a, b, c, d⟩ := ho.2 s hs
      exact ⟨a, hk s hs, c, d⟩
theorem lessk_ok {l : List S51} (ho : Okl l) (hk : ∀ s ∈ l, s.f0 < 2305843009213693951) {d : Int} (h0 : 0 ≤ d) (h1 : ∀ s ∈ l, d ≤ s.f1) : Okl (lessk l d) ∧ ∀ s ∈ lessk l d, s.f0 < 2305843009213693951 :=
  okl_of (lessk_rise ho.1 d) fun s hs => by
    obtain ⟨t, ht, e0, e1, hne⟩ := lessk_mem hs
    obtain ⟨a, b, c, e⟩ := ho.2 t ht
    have := hk t ht
    have := h1 t ht
    exact ⟨by omega, by omega, by omega, by omega⟩

theorem MG.step {K T : Int} {l all : List S51} (h : MG K T l all) {key wt : Int} (h0 : 0 ≤ key) (h1 : key < 2305843009213693951) (h2 : 1 ≤ wt) (h3 : T + wt ≤ 4503599627370496) :
    (addL K T l key wt).1 = K ∧ (addL K T l key wt).2.1 = T + wt ∧ (addL K T l key wt).2.2.2 = 0 ∧ MG K (T + wt) (addL K T l key wt).2.2.1 (all ++ [⟨key, wt⟩]) := by
  obtain ⟨E, hE0, hE1, hE2⟩ := h.E
  have hT := h.nonneg
  obtain ⟨hg0, hg1⟩ := getk_bound h.ok key
  have hrb := realL_le (fun s hs => (h.pos s hs).2.2) key
  have htot : T + wt = sumL (all ++ [(⟨key, wt⟩ : S51)]) := by rw [sumL_snoc, ← h.tot]
  have hpos : ∀ s ∈ all ++ [(⟨key, wt⟩ : S51)], 0 ≤ s.f0 ∧ s.f0 < 2305843009213693951 ∧ 1 ≤ s.f1 := fun s hs => by
    rcases List.mem_append.1 hs with hs | hs
    · exact h.pos s hs
    · simp at hs; subst hs; exact ⟨h0, h1, h2⟩
  have hreal : ∀ j, realL (all ++ [(⟨key, wt⟩ : S51)]) j = realL all j + if key = j then wt else 0 := fun j => realL_snoc _ _ _
  unfold addL
  by_cases hc : getk l key = 0 ∧ (l.length : Int) ≥ K
  · rw [if_pos hc]
    obtain ⟨hm1, hm2⟩ := minL_le wt l
    have hm3 := minL_ge (p := fun _ => true) h2 (fun s hs => (h.ok.2 s hs).2.2.1)
    have hat := minL_at wt l
    generalize minL (fun _ => true) wt l = d at *
    obtain ⟨ko, kk⟩ := lessk_ok h.ok h.keys (d := d) (by omega) hm2
    have hz := getk_lessk h.ok hc.1 d
    have hlen : (l.length : Int) = K := by have := h.len; omega
    have hsum := sumL_lessk hm2
    rw [hlen] at hsum
    have hmul : (K + 1) * (E + d) = (K + 1) * E + d * K + d := by rw [Int.mul_add, Int.add_mul K 1 d, Int.mul_comm K d]; omega
    have hget : ∀ j, j ≠ key → getk (lessk l d) j ≤ getk l j ∧ getk l j ≤ getk (lessk l d) j + d := fun j _ => by
      rw [getk_lessk_if h.ok.1]
      by_cases hh : hask l j = true
      · rw [if_pos hh]; omega
      · rw [if_neg hh, getk_none (fun s hs he => hh (hask_iff.2 ⟨s, hs, he⟩))]; omega
    have hkey := hE2 key
    rw [hc.1] at hkey
    by_cases hw : wt - d > 0
    · rw [if_pos hw]
      obtain ⟨po, pk⟩ := putk_ok ko kk h0 h1 (v := wt - d) (by omega) (by omega)
      refine ⟨rfl, rfl, rfl, po, pk, ?_, htot, h3, hpos, E + d, by omega, ?_, fun j => ?_⟩
      · rcases hat with hat | ⟨s, hs, hat⟩
        · omega
        · have a := lessk_shorter hs hat
          have b := putk_length (lessk l d) key (wt - d)
          show ((putk (lessk l d) key (wt - d)).length : Int) ≤ K
          omega
      · show T + wt = sumL (putk (lessk l d) key (wt - d)) + (K + 1) * (E + d)
        rw [sumL_putk _ ko.1, hz, hsum, hmul]
        omega
      · rw [hreal]
        show getk (putk (lessk l d) key (wt - d)) j ≤ _ ∧ _ ≤ getk (putk (lessk l d) key (wt - d)) j + _
        rw [getk_putk _ ko.1]
        by_cases hj : j = key
        · subst hj
          rw [if_pos rfl, if_pos rfl]
          omega
        · rw [if_neg hj, if_neg (fun e => hj e.symm)]
          have := hget j hj
          have := hE2 j
          omega
    · rw [if_neg hw]
      refine ⟨rfl, rfl, rfl, ko, kk, ?_, htot, h3, hpos, E + d, by omega, ?_, fun j => ?_⟩
      · have := lessk_length l d
        show ((lessk l d).length : Int) ≤ K
        omega
      · show T + wt = sumL (lessk l d) + (K + 1) * (E + d)
        rw [hsum, hmul]
        omega
      · rw [hreal]
        show getk (lessk l d) j ≤ _ ∧ _ ≤ getk (lessk l d) j + _
        by_cases hj : j = key
        · subst hj
          rw [if_pos rfl, hz]
          omega
        · rw [if_neg (fun e => hj e.symm)]
          have := hget j hj
          have := hE2 j
          omega
  · rw [if_neg hc]
    have hgk := (hE2 key).1
    have hle : getk l key ≤ T := by have := h.tot; omega
    obtain ⟨po, pk⟩ := putk_ok h.ok h.keys h0 h1 (v := getk l key + wt) (by omega) (by omega)
    refine ⟨rfl, rfl, rfl, po, pk, ?_, htot, h3, hpos, E, hE0, ?_, fun j => ?_⟩
    · show ((putk l key (getk l key + wt)).length : Int) ≤ K
      by_cases hz : getk l key = 0
      · have := putk_length l key (getk l key + wt)
        have := h.len
        have : ¬ (l.length : Int) ≥ K := fun hh => hc ⟨hz, hh⟩
        omega
      · rw [putk_same_length h.ok.1 (by
          cases hh : hask l key with
          | true => rfl
          | false => exact absurd (getk_none (fun s hs he => by rw [hask_iff.2 ⟨s, hs, he⟩] at hh; cases hh)) hz)]
        exact h.len
    · show T + wt = sumL (putk l key (getk l key + wt)) + (K + 1) * E
      rw [sumL_putk _ h.ok.1]
      omega
    · rw [hreal]
      show getk (putk l key (getk l key + wt)) j ≤ _ ∧ _ ≤ getk (putk l key (getk l key + wt)) j + _
      rw [getk_putk _ h.ok.1]
      have := hE2 j
      by_cases hj : j = key
      · subst hj
        rw [if_pos rfl, if_pos rfl]
        omega
      · rw [if_neg hj, if_neg (fun e => hj e.symm)]
        omega
end Go.Proofs.Ytohginlodlijkaa.PH
