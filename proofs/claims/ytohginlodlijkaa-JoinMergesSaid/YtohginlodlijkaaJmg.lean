/- join.Merge, whatever is merged: what it answers. Plain: in whatever turn it is the same. -/
import Derived.Test.YtohginlodlijkaaJpx
namespace Go.Proofs.Ytohginlodlijkaa.PH
open Go.RowKit Go.Proofs.YtohginlodlijkaaW.PrintWords Go.Proofs.YtohginlodlijkaaW.PrintLast Go.Proofs.YtohginlodlijkaaW.PrintMore
/-- What Merge answers. -/
def mrg (ls : List Sm) : Sm × Int :=
  if ls.all (fun s => decide (s.K = (ls.getD 0 zSm).K)) = true then (if sumT ls ≤ 4503599627370496 then (⟨(ls.getD 0 zSm).K, sumT ls, cutL (ls.getD 0 zSm).K.toNat (mergeL [] (ls.flatMap (·.l)))⟩, 0) else (zSm, 5)) else (zSm, 9)
structure MOk (ls : List Sm) : Prop where
  T : ∀ s ∈ ls, 0 ≤ s.T ∧ s.T ≤ 4503599627370496
  len : ∀ s ∈ ls, s.l.length < 1000
  cnt : ls.length < 1000
  pos : 0 < ls.length
  mok : Mok (ls.flatMap (·.l))
  few : (mergeL [] (ls.flatMap (·.l))).length < 50
  K : 0 ≤ (ls.getD 0 zSm).K
theorem merge_any (Al : Option Addr) (cl n : Nat) (ls : List Sm) (w : World) (hx : SX w Al ls) (hk : MOk ls) (hn : n = ls.length) :
    Calls Try.prog 16 #[.slice Al n cl] w fun e w' => ∃ A c, e = .returned (.tuple #[.agg #[.int .i64 (mrg ls).1.K, .int .u64 (mrg ls).1.T, .slice A (mrg ls).1.l.length c], .int .i64 (mrg ls).2]) ∧
      Kd.R k51 51 w' w.heap.size (fun _ => True) (.slice A (mrg ls).1.l.length c) (mrg ls).1.l ∧ Below w.heap.size w w' := by
  subst hn
  by_cases hall : ls.all (fun s => decide (s.K = (ls.getD 0 zSm).K)) = true
  · have hK : ∀ s ∈ ls, s.K = (ls.getD 0 zSm).K := fun s hs => by simpa using List.all_eq_true.1 hall s hs
    by_cases hS : sumT ls ≤ 4503599627370496
    · have e : mrg ls = (⟨(ls.getD 0 zSm).K, sumT ls, cutL (ls.getD 0 zSm).K.toNat (mergeL [] (ls.flatMap (·.l)))⟩, 0) := by unfold mrg; rw [if_pos hall, if_pos hS]
      rw [e]
      refine (merge_calls Al cl ls (ls.getD 0 zSm).K w hx hk.pos hk.cnt (fun s hs => ⟨hK s hs, (hk.T s hs).1⟩) hS hk.K hk.len hk.mok hk.few).mono ?_
      rintro e w' ⟨v, rfl, hR, hb⟩
      obtain ⟨A, c, rfl⟩ := Kd.R_slice hR
      exact ⟨A, c, rfl, hR, hb⟩
    · have e : mrg ls = (zSm, 5) := by unfold mrg; rw [if_pos hall, if_neg hS]
      rw [e]
      refine (merge_bad Al cl ls (ls.getD 0 zSm).K 5 w hx hk.pos hk.cnt rfl hk.T (.inr ⟨rfl, hK, by omega⟩)).mono ?_
      rintro e w' ⟨rfl, hb⟩
      exact ⟨none, 0, rfl, Kd.R_nil _ _ _ _ _, hb⟩
  · have e : mrg ls = (zSm, 9) := by unfold mrg; rw [if_neg hall]
    rw [e]
    have hne : ∃ s ∈ ls, s.K ≠ (ls.getD 0 zSm).K := by
      simpa using hall
    refine (merge_bad Al cl ls (ls.getD 0 zSm).K 9 w hx hk.pos hk.cnt rfl hk.T (.inl ⟨rfl, hne⟩)).mono ?_
    rintro e w' ⟨rfl, hb⟩
    exact ⟨none, 0, rfl, Kd.R_nil _ _ _ _ _, hb⟩
/-- A summary that was made, or merged: what it tells of what came. -/
structure GS (K : Int) (s : Sm) (all : List S51) : Prop where
  keys : s.K = K
  pw : PW K s.T s.l all
  rise : Rise s.l
  len : (s.l.length : Int) ≤ K
  top : s.T ≤ 4503599627370496
theorem MG.gs {K T : Int} {l all : List S51} (h : MG K T l all) : GS K ⟨K, T, l⟩ all := ⟨rfl, h.pw, h.ok.1, h.len, h.top⟩
theorem sum_nonneg {l : List S51} (h : ∀ x ∈ l, 1 ≤ x.f1) : 0 ≤ sumL l := by
  have := realL_nonneg h 0
  have := realL_le h 0
  omega
theorem GS.nonneg {K : Int} {s : Sm} {all : List S51} (h : GS K s all) : 0 ≤ s.T := by
  rw [h.pw.tot]; exact sum_nonneg (fun x hx => (h.pw.pos x hx).2.2)
theorem pw_all {K : Int} : ∀ ps : List (Sm × List S51), (∀ p ∈ ps, GS K p.1 p.2) → PW K (sumT (ps.map (·.1))) ((ps.map (·.1)).flatMap (·.l)) (ps.flatMap (·.2))
  | [], _ => PW.nil K
  | p :: ps, h => (h p (by simp)).pw.append (pw_all ps (fun q hq => h q (by simp [hq])))
theorem sumT_le {K : Int} : ∀ ps : List (Sm × List S51), (∀ p ∈ ps, GS K p.1 p.2) → sumT (ps.map (·.1)) ≤ 4503599627370496 * ps.length
  | [], _ => by simp [sumT]
  | p :: ps, h => by
    have h1 := (h p (by simp)).top
    have h2 := sumT_le ps (fun q hq => h q (by simp [hq]))
    simp only [List.map_cons, sumT, List.length_cons]
    omega
theorem flat_le {K : Int} : ∀ ps : List (Sm × List S51), (∀ p ∈ ps, GS K p.1 p.2) → (((ps.map (·.1)).flatMap (·.l)).length : Int) ≤ K * ps.length
  | [], _ => by simp
  | p :: ps, h => by
    have h1 := (h p (by simp)).len
    have h2 := flat_le ps (fun q hq => h q (by simp [hq]))
    have h3 : K * ((p :: ps).length : Int) = K * ps.length + K := by rw [List.length_cons, Int.natCast_add, Int.mul_add]; simp
    rw [h3, List.map_cons, List.flatMap_cons, List.length_append]
    omega
theorem mok_all {K : Int} (hK1 : 1 ≤ K) (hK8 : K ≤ 8) {ps : List (Sm × List S51)} (h : ∀ p ∈ ps, GS K p.1 p.2) (hp : 0 < ps.length) (hl : ps.length ≤ 6) : MOk (ps.map (·.1)) := by
  have h1 := pw_all ps h
  have h2 := sumT_le ps h
  have h3 := flat_le ps h
  have h4 := (merge_length ((ps.map (·.1)).flatMap (·.l)) []).2
  have h5 : K * (ps.length : Int) ≤ 8 * 6 := by
    have := Int.mul_le_mul hK8 (by omega : (ps.length : Int) ≤ 6) (by omega) (by omega)
    omega
  simp only [List.length_nil] at h4
  refine ⟨fun s hs => ?_, fun s hs => ?_, by rw [List.length_map]; omega, by rw [List.length_map]; exact hp, h1.mok (by omega) (by omega), by omega, ?_⟩
  · obtain ⟨p, hp, rfl⟩ := List.mem_map.1 hs
    exact ⟨(h p hp).nonneg, (h p hp).top⟩
  · obtain ⟨p, hp, rfl⟩ := List.mem_map.1 hs
    have := (h p hp).len
    omega
  · match ps, hp with
    | p :: ps, _ => have := (h p (by simp)).keys; simp; omega
theorem mrg_one {K : Int} {s : Sm} {all : List S51} (hK : 1 ≤ K) (h : GS K s all) : mrg [s] = (s, 0) := by
  have hl := h.len
  have hm : mergeL [] (([s] : List Sm).flatMap (·.l)) = s.l := by rw [List.flatMap_cons, List.flatMap_nil, List.append_nil, merge_self h.rise]
  have ht := h.top
  have e : sumT [s] = s.T := by simp [sumT]
  have hk := h.keys
  unfold mrg
  rw [if_pos (by simp), e, if_pos ht, hm]
  simp only [List.getD_cons_zero]
  rw [cutL, if_pos (by omega)]
theorem mrg_turn {s0 s1 s2 : Sm} (h1 : s1.K = s0.K) (h2 : s2.K = s0.K) {a b c : Sm} (h : (a = s2 ∧ b = s1 ∧ c = s0) ∨ (a = s0 ∧ b = s2 ∧ c = s1) ∨ (a = s1 ∧ b = s0 ∧ c = s2)) : mrg [a, b, c] = mrg [s0, s1, s2] := by
  have hm : ∀ (x y z : Sm), (∀ k, hask (([x, y, z] : List Sm).flatMap (·.l)) k = (hask x.l k || hask y.l k || hask z.l k)) ∧ (∀ k, realL (([x, y, z] : List Sm).flatMap (·.l)) k = realL x.l k + realL y.l k + realL z.l k) := fun x y z => by
    refine ⟨fun k => ?_, fun k => ?_⟩
    · simp only [List.flatMap_cons, List.flatMap_nil, List.append_nil, hask, List.any_append, Bool.or_assoc]
    · simp only [List.flatMap_cons, List.flatMap_nil, List.append_nil, realL_append]; omega
  have he : mergeL [] (([a, b, c] : List Sm).flatMap (·.l)) = mergeL [] (([s0, s1, s2] : List Sm).flatMap (·.l)) := by
    refine merge_ext (fun k => ?_) (fun k => ?_)
    · rw [(hm a b c).1, (hm s0 s1 s2).1]
      rcases h with ⟨e1, e2, e3⟩ | ⟨e1, e2, e3⟩ | ⟨e1, e2, e3⟩ <;> rw [e1, e2, e3] <;> cases hask s0.l k <;> cases hask s1.l k <;> cases hask s2.l k <;> rfl
    · rw [(hm a b c).2, (hm s0 s1 s2).2]
      rcases h with ⟨rfl, rfl, rfl⟩ | ⟨rfl, rfl, rfl⟩ | ⟨rfl, rfl, rfl⟩ <;> omega
  have hs : sumT [a, b, c] = sumT [s0, s1, s2] := by
    simp only [sumT]
    rcases h with ⟨rfl, rfl, rfl⟩ | ⟨rfl, rfl, rfl⟩ | ⟨rfl, rfl, rfl⟩ <;> omega
  have hK : a.K = s0.K := by rcases h with ⟨rfl, rfl, rfl⟩ | ⟨rfl, rfl, rfl⟩ | ⟨rfl, rfl, rfl⟩ <;> omega
  have hA : ([a, b, c] : List Sm).all (fun s => decide (s.K = (([a, b, c] : List Sm).getD 0 zSm).K)) = true := by
    simp
    rcases h with ⟨rfl, rfl, rfl⟩ | ⟨rfl, rfl, rfl⟩ | ⟨rfl, rfl, rfl⟩ <;> omega
  have hB : ([s0, s1, s2] : List Sm).all (fun s => decide (s.K = (([s0, s1, s2] : List Sm).getD 0 zSm).K)) = true := by
    simp [h1, h2]
  unfold mrg
  rw [if_pos hA, if_pos hB, hs, he]
  simp only [List.getD_cons_zero, hK]
theorem keep_le (cut : Int) (l : List S51) : (keepC cut l).length ≤ l.length := List.length_filter_le _ _
theorem mrg_len {ls : List Sm} (h : MOk ls) : (mrg ls).1.l.length ≤ 100 := by
  have hf := h.few
  unfold mrg
  split
  · split
    · show (cutL _ _).length ≤ 100
      unfold cutL
      split
      · omega
      · rw [subC, List.length_map]
        have := keep_le (cutC (ls.getD 0 zSm).K.toNat (mergeL [] (ls.flatMap (·.l)))) (mergeL [] (ls.flatMap (·.l)))
        omega
    · simp [zSm]
  · simp [zSm]
end Go.Proofs.Ytohginlodlijkaa.PH
