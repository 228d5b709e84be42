/- Plain: counts by keys as a rising list, and the map that it is. -/
import Derived.Test.YtohginlodlijkaaPHx0
import Derived.Maps.RangeWalk
namespace Go.Proofs.Ytohginlodlijkaa.PH
open Go

/-- Keys rise. -/
def Rise (l : List S51) : Prop := l.Pairwise (fun a b => a.f0 < b.f0)
/-- What a key has; 0 of one that isn't there. -/
def getk : List S51 → Int → Int
  | [], _ => 0
  | s :: l, k => if s.f0 = k then s.f1 else getk l k
def hask (l : List S51) (k : Int) : Bool := l.any fun s => decide (s.f0 = k)
def putk : List S51 → Int → Int → List S51
  | [], k, v => [⟨k, v⟩]
  | s :: l, k, v => if s.f0 < k then s :: putk l k v else if s.f0 = k then ⟨k, v⟩ :: l else ⟨k, v⟩ :: s :: l
/-- All counts less by so much, without those that have nothing left. -/
def lessk (l : List S51) (d : Int) : List S51 := l.filterMap fun s => if s.f1 - d = 0 then none else some ⟨s.f0, s.f1 - d⟩

/-- The map that holds these counts. -/
def ent (s : S51) : Lit × DataW Unit := (.int .u64 s.f0, .lit (.int .u64 s.f1))
def mapD (l : List S51) : DataW Unit := .map (l.map ent)

theorem same_u64 (a b : Int) : Lit.sameKey (.int .u64 a) (.int .u64 b) = decide (a = b) := by simp [Lit.sameKey]
theorem mapD_size (l : List S51) : Maps.size (mapD l) = l.length := by simp [mapD, Maps.size_eq]
theorem mapD_has (l : List S51) (k : Int) : Maps.has (mapD l) (.int .u64 k) = hask l k := by
  rw [mapD, Maps.has_eq, List.any_map]
  unfold hask
  congr 1
  funext s
  simp [ent, same_u64]
theorem mapD_at (l : List S51) (k : Int) : (mapD l).atKey (.int .u64 k) (.lit (.int .u64 0)) = .lit (.int .u64 (getk l k)) := by
  unfold mapD DataW.atKey
  induction l with
  | nil => rfl
  | cons s l ih =>
    simp only [List.map_cons, List.find?_cons, ent, same_u64, getk]
    by_cases h : s.f0 = k
    · simp [h]
    · simp only [h, decide_false, if_false]
      exact ih
theorem mapD_del (l : List S51) (k : Int) : (mapD l).del (.int .u64 k) = mapD (l.filter fun s => decide (s.f0 ≠ k)) := by
  unfold mapD DataW.del
  simp only
  congr 1
  rw [List.filter_map]
  congr 1
  apply List.filter_congr
  intro s _
  simp [ent, same_u64]

theorem filter_ne_of (l : List S51) (k : Int) (h : ∀ s ∈ l, s.f0 ≠ k) : l.filter (fun s => decide (s.f0 ≠ k)) = l := List.filter_eq_self.2 fun s hs => by simp [h s hs]

theorem insert_ent (l : List S51) (k v : Int) (hr : Rise l) (h : ∀ s ∈ l, s.f0 ≠ k) : DataW.insert (ent ⟨k, v⟩) (l.map ent) = (putk l k v).map ent := by
  induction l with
  | nil => rfl
  | cons s l ih =>
    have h1 := h s (by simp)
    simp only [List.map_cons, DataW.insert, putk]
    by_cases hlt : s.f0 < k
    · rw [if_neg (by simp [ent, Lit.before]; omega), if_pos hlt, ih (List.pairwise_cons.1 hr).2 (fun t ht => h t (by simp [ht]))]
      rfl
    · rw [if_pos (by simp [ent, Lit.before]; omega), if_neg hlt, if_neg h1]
      rfl
theorem putk_filter (l : List S51) (k v : Int) (hr : Rise l) : putk (l.filter fun s => decide (s.f0 ≠ k)) k v = putk l k v := by
  induction l with
  | nil => rfl
  | cons s l ih =>
    obtain ⟨ha, hl⟩ := List.pairwise_cons.1 hr
    by_cases he : s.f0 = k
    · have hf : l.filter (fun s => decide (s.f0 ≠ k)) = l := filter_ne_of l k fun t ht => by have := ha t ht; omega
      rw [List.filter_cons, if_neg (by simp [he]), hf]
      simp only [putk]
      rw [if_neg (by omega), if_pos he]
      cases l with
      | nil => rfl
      | cons t l =>
        have := ha t (by simp)
        simp only [putk]
        rw [if_neg (by omega), if_neg (by omega)]
    · rw [List.filter_cons, if_pos (by simp [he])]
      simp only [putk]
      rw [ih hl]
      by_cases hlt : s.f0 < k
      · rw [if_pos hlt, if_pos hlt]
      · rw [if_neg hlt, if_neg hlt, if_neg he, if_neg he, filter_ne_of l k fun t ht => by have := ha t ht; omega]
theorem rise_filter {l : List S51} (p : S51 → Bool) (h : Rise l) : Rise (l.filter p) := h.sublist List.filter_sublist
theorem mapD_put (l : List S51) (k v : Int) (hr : Rise l) : (mapD l).put (.int .u64 k) (.lit (.int .u64 v)) = mapD (putk l k v) := by
  unfold mapD DataW.put
  simp only
  congr 1
  have e : (l.map ent).filter (fun p => !p.1.sameKey (.int .u64 k)) = (l.filter fun s => decide (s.f0 ≠ k)).map ent := by
    rw [List.filter_map]
    congr 1
    apply List.filter_congr
    intro s _
    simp [ent, same_u64]
  rw [e, show ((Lit.int .u64 k, DataW.lit (Lit.int .u64 v)) : Lit × DataW Unit) = ent ⟨k, v⟩ from rfl, insert_ent _ _ _ (rise_filter _ hr) (fun s hs => by simpa using (List.mem_filter.1 hs).2), putk_filter l k v hr]

/-! ### The lists themselves -/
theorem putk_mem {l : List S51} {k v : Int} {s : S51} (h : s ∈ putk l k v) : s = ⟨k, v⟩ ∨ s ∈ l := by
  induction l with
  | nil => simpa [putk] using h
  | cons t l ih =>
    simp only [putk] at h
    split at h
    · rcases List.mem_cons.1 h with h | h
      · exact .inr (by simp [h])
      · rcases ih h with h | h
        · exact .inl h
        · exact .inr (by simp [h])
    · split at h
      · rcases List.mem_cons.1 h with h | h
        · exact .inl h
        · exact .inr (by simp [h])
      · rcases List.mem_cons.1 h with h | h
        · exact .inl h
        · exact .inr h
theorem putk_rise {l : List S51} (h : Rise l) (k v : Int) : Rise (putk l k v) := by
  induction l with
  | nil => simp [putk, Rise]
  | cons t l ih =>
    obtain ⟨ha, hl⟩ := List.pairwise_cons.1 h
    simp only [putk]
    split
    · rename_i hlt
      refine List.pairwise_cons.2 ⟨fun s hs => ?_, ih hl⟩
      rcases putk_mem hs with rfl | hs
      · exact hlt
      · exact ha s hs
    · split
      · rename_i he
        exact List.pairwise_cons.2 ⟨fun s hs => by have := ha s hs; show k < s.f0; omega, hl⟩
      · refine List.pairwise_cons.2 ⟨fun s hs => ?_, h⟩
        rcases List.mem_cons.1 hs with rfl | hs
        · show k < _; omega
        · have := ha s hs; show k < _; omega
theorem getk_none {l : List S51} {k : Int} (h : ∀ s ∈ l, s.f0 ≠ k) : getk l k = 0 := by
  induction l with
  | nil => rfl
  | cons t l ih => simp only [getk]; rw [if_neg (h t (by simp)), ih (fun s hs => h s (by simp [hs]))]
theorem getk_mem {l : List S51} (hr : Rise l) {s : S51} (h : s ∈ l) : getk l s.f0 = s.f1 := by
  induction l with
  | nil => simp at h
  | cons t l ih =>
    obtain ⟨ha, hl⟩ := List.pairwise_cons.1 hr
    simp only [getk]
    rcases List.mem_cons.1 h with rfl | h
    · simp
    · rw [if_neg (by have := ha s h; omega), ih hl h]
theorem getk_putk (l : List S51) (hr : Rise l) (k v j : Int) : getk (putk l k v) j = if j = k then v else getk l j := by
  induction l with
  | nil =>
    simp only [putk, getk]
    by_cases h : j = k
    · simp [h]
    · rw [if_neg h, if_neg (fun e => h e.symm)]
  | cons t l ih =>
    obtain ⟨ha, hl⟩ := List.pairwise_cons.1 hr
    simp only [putk]
    by_cases h1 : t.f0 < k
    · rw [if_pos h1]
      simp only [getk]
      rw [ih hl]
      by_cases h2 : t.f0 = j
      · rw [if_pos h2, if_pos h2, if_neg (by omega)]
      · rw [if_neg h2, if_neg h2]
    · rw [if_neg h1]
      by_cases h3 : t.f0 = k
      · rw [if_pos h3]
        simp only [getk]
        by_cases h2 : j = k
        · simp [h2]
        · rw [if_neg (by omega), if_neg h2, if_neg (by omega)]
      · rw [if_neg h3]
        simp only [getk]
        by_cases h2 : j = k
        · simp [h2]
        · rw [if_neg (by omega), if_neg h2]
theorem hask_iff {l : List S51} {k : Int} : hask l k = true ↔ ∃ s ∈ l, s.f0 = k := by simp [hask]

/-! ### A list that is told by what has come of each -/
/-- What each of l has become, key by key. -/
def goL (g : S51 → Option S51) (l : List S51) : List S51 := l.filterMap g
def Keeps (g : S51 → Option S51) : Prop := ∀ s t, g s = some t → t.f0 = s.f0
theorem goL_mem {g : S51 → Option S51} (hg : Keeps g) {l : List S51} {t : S51} (h : t ∈ goL g l) : ∃ s ∈ l, t.f0 = s.f0 ∧ g s = some t := by
  obtain ⟨s, hs, he⟩ := List.mem_filterMap.1 h
  exact ⟨s, hs, hg s t he, he⟩
theorem goL_rise {g : S51 → Option S51} (hg : Keeps g) {l : List S51} (h : Rise l) : Rise (goL g l) := by
  induction l with
  | nil => exact List.Pairwise.nil
  | cons s l ih =>
    obtain ⟨ha, hl⟩ := List.pairwise_cons.1 h
    unfold goL
    rw [List.filterMap_cons]
    split
    · exact ih hl
    · rename_i t ht
      refine List.pairwise_cons.2 ⟨fun u hu => ?_, ih hl⟩
      obtain ⟨v, hv, e, _⟩ := goL_mem hg hu
      have := ha v hv
      have := hg s t ht
      omega
theorem goL_congr {g g' : S51 → Option S51} {l : List S51} (h : ∀ s ∈ l, g s = g' s) : goL g l = goL g' l := by
  induction l with
  | nil => rfl
  | cons s l ih =>
    have := ih (fun t ht => h t (by simp [ht]))
    unfold goL at *
    rw [List.filterMap_cons, List.filterMap_cons, h s (by simp), this]
/-- One of them is put anew. -/
theorem goL_put {g g' : S51 → Option S51} (hg : Keeps g) {l : List S51} (hr : Rise l) {s0 t0 : S51} (hs : s0 ∈ l) (h0 : g s0 = some t0) {v : Int} (h1 : g' s0 = some ⟨s0.f0, v⟩) (h2 : ∀ s ∈ l, s.f0 ≠ s0.f0 → g' s = g s) :
    putk (goL g l) s0.f0 v = goL g' l := by
  induction l with
  | nil => simp at hs
  | cons s l ih =>
    obtain ⟨ha, hl⟩ := List.pairwise_cons.1 hr
    rcases List.mem_cons.1 hs with rfl | hs'
    · have e1 : goL g (s0 :: l) = t0 :: goL g l := by unfold goL; rw [List.filterMap_cons, h0]
      have e2 : goL g' (s0 :: l) = ⟨s0.f0, v⟩ :: goL g' l := by unfold goL; rw [List.filterMap_cons, h1]
      rw [e1, e2]
      have := hg s0 t0 h0
      simp only [putk]
      rw [if_neg (by omega), if_pos this, goL_congr (g := g) (g' := g') (fun t ht => (h2 t (by simp [ht]) (by have := ha t ht; omega)).symm)]
    · have hlt := ha s0 hs'
      have hne := h2 s (by simp) (by omega)
      have ih' := ih hl hs' (fun t ht hn => h2 t (by simp [ht]) hn)
      unfold goL at *
      rw [List.filterMap_cons, List.filterMap_cons, hne]
      cases hgs : g s with
      | none => exact ih'
      | some t =>
        have := hg s t hgs
        simp only [putk]
        rw [if_pos (by omega), ih']
/-- One of them is struck. -/
theorem goL_strike {g g' : S51 → Option S51} (hg : Keeps g) {l : List S51} {k : Int} (h1 : ∀ s ∈ l, s.f0 = k → g' s = none) (h2 : ∀ s ∈ l, s.f0 ≠ k → g' s = g s) :
    (goL g l).filter (fun s => decide (s.f0 ≠ k)) = goL g' l := by
  induction l with
  | nil => rfl
  | cons s l ih =>
    have ih' := ih (fun t ht => h1 t (by simp [ht])) (fun t ht => h2 t (by simp [ht]))
    unfold goL at *
    rw [List.filterMap_cons, List.filterMap_cons]
    by_cases hk : s.f0 = k
    · rw [h1 s (by simp) hk]
      cases hgs : g s with
      | none => exact ih'
      | some t =>
        have := hg s t hgs
        rw [List.filter_cons, if_neg (by simp; omega)]
        exact ih'
    · rw [h2 s (by simp) hk]
      cases hgs : g s with
      | none => exact ih'
      | some t =>
        have := hg s t hgs
        rw [List.filter_cons, if_pos (by simp; omega), ih']
theorem goL_get {g : S51 → Option S51} (hg : Keeps g) {l : List S51} (hr : Rise l) {s0 t0 : S51} (hs : s0 ∈ l) (h0 : g s0 = some t0) : getk (goL g l) s0.f0 = t0.f1 := by
  have hm : t0 ∈ goL g l := List.mem_filterMap.2 ⟨s0, hs, h0⟩
  have := getk_mem (goL_rise hg hr) hm
  rwa [hg s0 t0 h0] at this
/-- The least of a start and some. -/
def minL (p : S51 → Bool) (w : Int) : List S51 → Int
  | [] => w
  | s :: l => if p s then min s.f1 (minL p w l) else minL p w l
theorem minL_none (w : Int) : ∀ l : List S51, minL (fun _ => false) w l = w
  | [] => rfl
  | s :: l => by simp only [minL]; simpa using minL_none w l
theorem minL_congr {p p' : S51 → Bool} (w : Int) : ∀ {l : List S51}, (∀ s ∈ l, p s = p' s) → minL p w l = minL p' w l
  | [], _ => rfl
  | s :: l, h => by simp only [minL]; rw [h s (by simp), minL_congr w (fun t ht => h t (by simp [ht]))]
theorem minL_more {p p' : S51 → Bool} (w : Int) {l : List S51} (hr : Rise l) {s0 : S51} (hs : s0 ∈ l) (h0 : p s0 = false) (h1 : p' s0 = true) (h2 : ∀ s ∈ l, s.f0 ≠ s0.f0 → p' s = p s) : minL p' w l = min (minL p w l) s0.f1 := by
  induction l with
  | nil => simp at hs
  | cons s l ih =>
    obtain ⟨ha, hl⟩ := List.pairwise_cons.1 hr
    simp only [minL]
    rcases List.mem_cons.1 hs with rfl | hs'
    · rw [h0, h1, minL_congr w (p := p') (p' := p) (fun t ht => h2 t (by simp [ht]) (by have := ha t ht; omega))]
      simp only [if_true]
      simp
      omega
    · have hlt := ha s0 hs'
      rw [h2 s (by simp) (by omega), ih hl hs' (fun t ht hn => h2 t (by simp [ht]) hn)]
      split <;> omega
theorem minL_le (w : Int) : ∀ (l : List S51), minL (fun _ => true) w l ≤ w ∧ ∀ s ∈ l, minL (fun _ => true) w l ≤ s.f1
  | [] => ⟨Int.le_refl _, by simp⟩
  | s :: l => by
    obtain ⟨h1, h2⟩ := minL_le w l
    simp only [minL, if_true]
    refine ⟨by omega, fun t ht => ?_⟩
    rcases List.mem_cons.1 ht with rfl | ht
    · omega
    · have := h2 t ht; omega
end Go.Proofs.Ytohginlodlijkaa.PH
