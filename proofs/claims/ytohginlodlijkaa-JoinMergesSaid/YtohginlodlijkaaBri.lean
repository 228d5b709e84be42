/- Plain: what the printed functions over items answer. Conditions: at most 100 items. -/
import Derived.Test.YtohginlodlijkaaBsd
import Derived.Test.YtohginlodlijkaaPHx4
namespace Go.Proofs.Ytohginlodlijkaa.PH
open Go.RowKit Go.Proofs.YtohginlodlijkaaW.PrintWords Go.Proofs.YtohginlodlijkaaW.PrintLast Go.Proofs.YtohginlodlijkaaW.PrintMore

def pl (l : List S51) (key : Int) : Nat := (l.takeWhile fun t => decide (t.f0 < key)).length
theorem place_l0 (key : Int) : ∀ (s p : List S51) (k : Nat), s.length < k → (p ++ s).length ≤ 200 → skylightref17_place.l0 k (p ++ s) key p.length = some ((p.length + pl s key : Nat) : Int)
  | [], p, k + 1, _, _ => by
    rw [skylightref17_place.l0, if_neg (by simp)]; simp [pl]
  | a :: s, p, k + 1, hk, hl => by
    simp at hl hk
    rw [skylightref17_place.l0, if_pos (by simp; omega), if_pos (by omega), rdT_at]
    by_cases h : a.f0 < key
    · rw [if_pos h, w64s p a (by omega), show p ++ a :: s = (p ++ [a]) ++ s by simp, place_l0 key s (p ++ [a]) k (by omega) (by simp; omega)]
      simp [pl, h]
      omega
    · rw [if_neg h]
      simp [pl, h]
theorem pl_le (l : List S51) (key : Int) : pl l key ≤ l.length := by
  unfold pl
  exact (List.takeWhile_sublist _).length_le
theorem place_eq {l : List S51} {key : Int} {k : Nat} (hk : l.length < k) (hl : l.length ≤ 200) : skylightref17_place.f k l key = some ((pl l key : Nat) : Int) := by
  have := place_l0 key l [] k hk (by simpa using hl)
  simpa [skylightref17_place.f] using this
theorem getk_pl {l : List S51} (hr : Rise l) (key : Int) : getk l key = if pl l key < l.length then (if (l.getD (pl l key) z51).f0 = key then (l.getD (pl l key) z51).f1 else 0) else 0 := by
  induction l with
  | nil => simp [getk]
  | cons a l ih =>
    obtain ⟨ha, hl⟩ := List.pairwise_cons.1 hr
    simp only [getk]
    by_cases h : a.f0 < key
    · have e : pl (a :: l) key = pl l key + 1 := by simp [pl, h]
      rw [e, if_neg (by omega), ih hl]
      simp
    · have e : pl (a :: l) key = 0 := by simp [pl, h]
      rw [e, show (a :: l).getD 0 z51 = a from rfl, if_pos (show 0 < (a :: l).length by simp)]
      by_cases h2 : a.f0 = key
      · rw [if_pos h2, if_pos h2]
      · rw [if_neg h2, if_neg h2, getk_none (fun s hs => by have := ha s hs; omega)]
theorem putk_pl {l : List S51} (hr : Rise l) (key v : Int) : putk l key v = l.take (pl l key) ++ [⟨key, v⟩] ++ (if pl l key < l.length ∧ (l.getD (pl l key) z51).f0 = key then l.drop (pl l key + 1) else l.drop (pl l key)) := by
  induction l with
  | nil => simp [putk, pl]
  | cons a l ih =>
    obtain ⟨ha, hl⟩ := List.pairwise_cons.1 hr
    simp only [putk]
    by_cases h : a.f0 < key
    · have e : pl (a :: l) key = pl l key + 1 := by simp [pl, h]
      rw [e, if_pos h, ih hl]
      simp
    · have e : pl (a :: l) key = 0 := by simp [pl, h]
      rw [e, if_neg h]
      by_cases h2 : a.f0 = key
      · rw [if_pos h2, if_pos ⟨by simp, by simpa using h2⟩]; simp
      · rw [if_neg h2, if_neg (fun hh => h2 (by simpa using hh.2))]; simp
theorem refOf_eq {K T key : Int} {l : List S51} {k : Nat} (hr : Rise l) (hk : l.length < k) (hl : l.length ≤ 200) : skylightref17_Of.f k K T l key = some (getk l key) := by
  unfold skylightref17_Of.f
  rw [place_eq hk hl, Option.bind_some, getk_pl hr]
  by_cases h : pl l key < l.length
  · rw [if_pos (by omega), if_pos (by omega), if_pos h]
    have e : rd_T51 l ((pl l key : Nat) : Int) = l.getD (pl l key) z51 := by simp [rd_T51]
    rw [e]
    split <;> rfl
  · rw [if_neg (by omega), if_neg h]
theorem refput_eq {key v : Int} {l : List S51} {k : Nat} (hr : Rise l) (hk : l.length < k) (hl : l.length ≤ 200) : skylightref17_put.f k l key v = some (putk l key v) := by
  have hp := pl_le l key
  have ht : (l.take (pl l key)).length = pl l key := by rw [List.length_take]; omega
  unfold skylightref17_put.f
  have e : rd_T51 l ((pl l key : Nat) : Int) = l.getD (pl l key) z51 := by simp [rd_T51]
  have ew : wrap64 (((pl l key : Nat) : Int) + 1) = ((pl l key + 1 : Nat) : Int) := by rw [w64 (by omega) (by omega)]; omega
  rw [place_eq hk hl, Option.bind_some, Option.bind_some, if_pos (by omega), if_pos (by omega), Option.bind_some, Int.toNat_natCast, if_pos (by simp; omega), Option.bind_some, if_pos (by simp; omega), Option.bind_some, putk_pl hr, e, ew, Int.toNat_natCast]
  by_cases h : pl l key < l.length
  · rw [if_pos (by omega)]
    by_cases h2 : (l.getD (pl l key) z51).f0 = key
    · rw [if_pos h2, if_pos (by omega), if_pos (by omega), Option.bind_some, if_pos (by simp; omega), if_pos ⟨h, h2⟩]
      simp
    · rw [if_neg h2, Option.bind_some, if_pos (by simp; omega), if_neg (fun hh => h2 hh.2)]
      simp
  · rw [if_neg (by omega), Option.bind_some, if_pos (by simp; omega), if_neg (fun hh => h hh.1)]
    simp

def lessF (d : Int) (t : S51) : Option S51 := if t.f1 > d then some ⟨t.f0, t.f1 - d⟩ else none
theorem less_l0 (d : Int) (hd : 0 ≤ d) : ∀ (s p acc : List S51) (k : Nat), (∀ t ∈ s, t.f1 < 18446744073709551616) → s.length < k → (p ++ s).length ≤ 200 → acc.length ≤ p.length → skylightref17_Less.l0 k (p ++ s) d acc p.length = some (acc ++ s.filterMap (lessF d))
  | [], p, acc, k + 1, _, _, _, _ => by rw [skylightref17_Less.l0, if_neg (by simp)]; simp
  | a :: s, p, acc, k + 1, hb, hk, hl, ha => by
    simp at hl hk
    have hba := hb a (by simp)
    have hbs : ∀ t ∈ s, t.f1 < 18446744073709551616 := fun t ht => hb t (by simp [ht])
    rw [skylightref17_Less.l0, if_pos (by simp; omega), if_pos (by omega), rdT_at, w64s p a (by omega), show p ++ a :: s = (p ++ [a]) ++ s by simp]
    by_cases h : a.f1 > d
    · rw [if_pos h, if_pos (by omega), u64w (by omega) (by omega), less_l0 d hd s (p ++ [a]) _ k hbs (by omega) (by simp; omega) (by simp; omega)]
      simp [lessF, h]
    · rw [if_neg h, less_l0 d hd s (p ++ [a]) acc k hbs (by omega) (by simp; omega) (by simp; omega)]
      simp [lessF, h]
theorem less_eq {l : List S51} {d : Int} {k : Nat} (hd : 0 ≤ d) (h : ∀ s ∈ l, d ≤ s.f1 ∧ s.f1 < 18446744073709551616) (hk : l.length < k) (hl : l.length ≤ 200) : skylightref17_Less.f k l d = some (lessk l d) := by
  have := less_l0 d hd l [] [] k (fun t ht => (h t ht).2) hk (by simpa using hl) (by simp)
  have e : l.filterMap (lessF d) = lessk l d := by
    clear this
    unfold lessk
    clear hk hl
    induction l with
    | nil => rfl
    | cons a l ih =>
      have ha := (h a (by simp)).1
      rw [List.filterMap_cons, List.filterMap_cons, ih (fun s hs => h s (by simp [hs]))]
      by_cases hh : a.f1 > d
      · rw [show lessF d a = some ⟨a.f0, a.f1 - d⟩ by simp [lessF, hh], if_neg (by omega)]
      · rw [show lessF d a = none by simp [lessF, hh], if_pos (by omega)]
  rw [← e]
  simpa [skylightref17_Less.f] using this
theorem minL_min (a : Int) : ∀ (w : Int) (l : List S51), minL (fun _ => true) (min w a) l = min a (minL (fun _ => true) w l)
  | w, [] => by simp only [minL]; omega
  | w, s :: l => by
    simp only [minL, if_true]
    rw [minL_min a w l]
    omega
theorem addL0_eq {K T key wt : Int} : ∀ (s p : List S51) (x9 d : Int) (k : Nat), Rise (p ++ s) → (∀ t ∈ p ++ s, d ≤ t.f1 ∧ t.f1 < 18446744073709551616) → (p ++ s).length ≤ 100 → 250 + s.length < k → minL (fun _ => true) x9 s = d → 0 ≤ d → 0 ≤ wt → wt < 18446744073709551616 →
    skylightref17_Add.l0 k key wt x9 p.length K T (p ++ s) = some (K, T, (if wt > d then putk (lessk (p ++ s) d) key (wt - d) else lessk (p ++ s) d), 0)
  | [], p, x9, d, k + 1, hr, hb, hl, hk, hd, h0, hw, hw1 => by
    simp only [minL] at hd
    subst hd
    have hll := lessk_length (p ++ []) x9
    rw [skylightref17_Add.l0, if_neg (by simp), less_eq h0 hb (by omega) (by omega), Option.bind_some]
    split
    · rw [u64w (by omega) (by omega), refput_eq (lessk_rise hr _) (by omega) (by omega), Option.bind_some]
    · rfl
  | a :: s, p, x9, d, k + 1, hr, hb, hl, hk, hd, h0, hw, hw1 => by
    simp at hl hk
    rw [skylightref17_Add.l0, if_pos (by simp; omega), if_pos (by omega), rdT_at, w64s p a (by omega), mn_eq]
    have e : p ++ a :: s = (p ++ [a]) ++ s := by simp
    rw [e] at hr hb ⊢
    exact addL0_eq s (p ++ [a]) (min x9 a.f1) d k hr hb (by simp; omega) (by omega) (by rw [minL_min]; simp only [minL, if_true] at hd; exact hd) h0 hw hw1
theorem refAdd_good {K T key wt : Int} {l : List S51} {k : Nat} (hk : 400 < k) (ho : Okl l) (hl : l.length ≤ 50) (hT : 0 ≤ T) (hk1 : key < 2305843009213693951) (h1 : 1 ≤ wt) (h2 : T + wt ≤ 4503599627370496) :
    skylightref17_Add.f k K T l key wt = some (addL K T l key wt) := by
  obtain ⟨k, rfl⟩ : ∃ j, k = j + 2 := ⟨k - 2, by omega⟩
  obtain ⟨hg0, hg1⟩ := getk_bound ho key
  unfold skylightref17_Add.f
  rw [if_neg (by omega), show skylightref04_Key.f key = some true by simp [skylightref04_Key.f, hk1], Option.bind_some, if_pos rfl, if_neg (by omega), u64w (by omega) (by omega), if_neg (by omega), refOf_eq ho.1 (by omega) (by omega), Option.bind_some]
  have hput : skylightref17_Add.j0 (k + 2) key wt (getk l key) true K (T + wt) l = some (K, T + wt, putk l key (getk l key + wt), 0) := by
    rw [skylightref17_Add.j0, if_pos rfl, u64w (by omega) (by omega), refput_eq ho.1 (by omega) (by omega), Option.bind_some]
  unfold addL
  by_cases hz : getk l key = 0
  · rw [if_neg (by omega)]
    by_cases hc : (l.length : Int) < K
    · rw [decide_eq_true hc, hput, if_neg (fun hh => by omega)]
    · rw [decide_eq_false hc, if_pos ⟨hz, by omega⟩, skylightref17_Add.j0, if_neg (by simp)]
      obtain ⟨hm1, hm2⟩ := minL_le wt l
      have hm3 := minL_ge (p := fun _ => true) h1 (fun s hs => (ho.2 s hs).2.2.1)
      have := addL0_eq (K := K) (T := T + wt) (key := key) (wt := wt) l [] wt _ (k + 1) ho.1 (fun t ht => ⟨hm2 t ht, by have := (ho.2 t ht).2.2.2; omega⟩) (by simpa using (by omega : l.length ≤ 100)) (by omega) rfl (by omega) (by omega) (by omega)
      simp only [List.nil_append, List.length_nil] at this
      rw [show ((0 : Nat) : Int) = 0 from rfl] at this
      rw [this]
      by_cases hh : wt - minL (fun _ => true) wt l > 0
      · rw [if_pos hh, if_pos (by omega)]
      · rw [if_neg hh, if_neg (by omega)]
  · rw [if_pos (by omega), hput, if_neg (fun hh => hz hh.1)]
theorem refAdd_bad {K T key wt : Int} {l : List S51} {k : Nat} (hT : 0 ≤ T) (hT1 : T ≤ 4503599627370496) (hw : 0 ≤ wt) (hw1 : wt < 18446744073709551616)
    (h : ¬ (key < 2305843009213693951 ∧ 1 ≤ wt ∧ T + wt ≤ 4503599627370496)) : ∃ e : Int, e ≠ 0 ∧ skylightref17_Add.f k K T l key wt = some (0, 0, [], e) := by
  unfold skylightref17_Add.f
  by_cases h0 : wt = 0
  · exact ⟨1, by decide, by rw [if_pos h0]⟩
  · rw [if_neg h0]
    by_cases h1 : key < 2305843009213693951
    · rw [show skylightref04_Key.f key = some true by simp [skylightref04_Key.f, h1], Option.bind_some, if_pos rfl]
      by_cases h2 : wt > 4503599627370496
      · exact ⟨5, by decide, by rw [if_pos h2]⟩
      · exact ⟨5, by decide, by rw [if_neg h2, u64w (by omega) (by omega), if_pos (by omega)]⟩
    · exact ⟨7, by decide, by rw [show skylightref04_Key.f key = some false by simp [skylightref04_Key.f]; omega, Option.bind_some, if_neg (by simp)]⟩
end Go.Proofs.Ytohginlodlijkaa.PH
