/- Rows of summaries that grow by append, as raw cells; what is made of each list by its own number of keys. -/
import Derived.Test.YtohginlodlijkaaJmq
namespace Go.Proofs.Ytohginlodlijkaa.PH
open Go.RowKit Go.Proofs.YtohginlodlijkaaW.PrintWords Go.Proofs.YtohginlodlijkaaW.PrintLast Go.Proofs.YtohginlodlijkaaW.PrintMore
theorem info33r : (Try.prog.info? 33).map (fun i => (i.zero, i.size, i.bytes)) = some (some (.agg #[(.int .i64 0), (.int .u64 0), (.slice none 0 0)]), 3, 40) := by kernel_rfl
/-- One summary's cells. -/
def rw3 (s : Sm) (A : Option Addr) (c : Nat) : List Value := [.int .i64 s.K, .int .u64 s.T, .slice A s.l.length c]
theorem raw_one {W : World} {g : Nat} {t : TypeId} {K T : Int} {A : Option Addr} {n c : Nat} (hg : W.heap[g]? = some (.cells #[.int .i64 K, .int .u64 T, .slice A n c] t (0, 0))) : Kd.C (Kd.raw 3) W (some ⟨g, 0, none⟩) 1 [[.int .i64 K, .int .u64 T, .slice A n c]] := by
  refine ⟨rfl, by decide, fun _ => ⟨_, rfl, fun j p hp => ?_⟩⟩
  have hj : j = 0 := by
    have := (List.getElem?_eq_some_iff.1 hp).1
    simp at this; omega
  subst hj
  simp at hp
  subst hp
  refine ⟨_, rfl, ⟨rfl, rfl, by simp [Value.oneCell']⟩, fun i u hu => ?_⟩
  rw [add_at, Nat.zero_mul, Nat.zero_add, blk_cell hg i]
  simpa using hu
/-- Both rows of summaries: the same cells in each; the items stand elsewhere. -/
structure RW2 (base : Nat) (sms : List Sm) (vA vM : Value) (i : Nat) (wr : World) : Prop where
  rows : ∃ rows : List (List Value), rows.length = i ∧ Kd.R (Kd.raw 3) 30 wr base (fun _ => True) vA rows ∧ Kd.R (Kd.raw 3) 33 wr base (fun _ => True) vM rows ∧
    ∀ j, j < i → ∃ A c, rows.getD j [] = rw3 (sms.getD j zSm) A c ∧ Kd.R k51 51 wr base (fun _ => True) (.slice A (sms.getD j zSm).l.length c) (sms.getD j zSm).l
theorem raw_at {W : World} {A : Option Addr} {n : Nat} {rows : List (List Value)} (h : Kd.C (Kd.raw 3) W A n rows) {j : Nat} (hj : j < rows.length) : ∃ ad, A = some ad ∧ ∀ t u, (rows.getD j [])[t]? = some u → W.cell? (ad.add (j * 3 + t)) = some u := by
  obtain ⟨ad, e, hc⟩ := h.2.2 (by have := h.1; omega)
  obtain ⟨c, h1, h2, h3⟩ := hc j rows[j] (List.getElem?_eq_getElem hj)
  refine ⟨ad, e, fun t u hu => h3 t u ?_⟩
  have e2 : c = rows[j] := h2.1
  rw [e2]
  simpa [hj] using hu
theorem RW2.sx {base : Nat} {sms : List Sm} {vA vM : Value} {wr : World} (h : RW2 base sms vA vM sms.length wr) : ∃ A c, vM = .slice A sms.length c ∧ SX wr A sms := by
  obtain ⟨rows, hl, _, hM, hr⟩ := h.rows
  obtain ⟨A, c, rfl⟩ := Kd.R_slice hM
  refine ⟨A, c, by rw [hl], fun i hi => ?_⟩
  have hC := (Kd.R_reads' hM).2.2
  obtain ⟨ad, rfl, hat⟩ := raw_at hC (j := i) (by omega)
  obtain ⟨A2, c2, e, hR⟩ := hr i hi
  rw [e] at hat
  have h0 := hat 0 _ rfl
  have h1 := hat 1 _ rfl
  have h2 := hat 2 _ rfl
  rw [Nat.add_zero] at h0
  rw [add_field _ _ 1 (by omega)] at h1
  rw [add_field _ _ 2 (by omega)] at h2
  refine ⟨ad, rfl, A2, c2, h0, h1, h2, fun j hj => ?_⟩
  obtain ⟨a2, rfl, k0, k1⟩ := at_T51 (Kd.R_reads' hR).2.2 (j : Int) (by omega) (by omega)
  rw [show rd_T51 (sms.getD i zSm).l (j : Int) = (sms.getD i zSm).l.getD j z51 from rfl, Int.toNat_natCast] at k0 k1
  exact ⟨a2, rfl, k0, k1⟩
theorem RW2.k30 {base : Nat} {sms : List Sm} {vA vM : Value} {wr : World} (h : RW2 base sms vA vM sms.length wr) : ∃ A c, vA = .slice A sms.length c ∧ sms.length ≤ c ∧ Kd.C k30 wr A (sms.map s30).length (sms.map s30) := by
  obtain ⟨rows, hl, hA, _, hr⟩ := h.rows
  obtain ⟨A, c, rfl⟩ := Kd.R_slice hA
  have hcap := (Kd.R_reads' hA).2.1
  have hC := (Kd.R_reads' hA).2.2
  refine ⟨A, c, by rw [hl], by omega, rfl, by have := hC.2.1; rw [List.length_map]; omega, fun hp => ?_⟩
  rw [List.length_map] at hp
  obtain ⟨ad, rfl, _⟩ := raw_at hC (j := 0) (by omega)
  refine ⟨ad, rfl, fun j p hj => ?_⟩
  have hj1 := (List.getElem?_eq_some_iff.1 hj).1
  rw [List.length_map] at hj1
  obtain ⟨ad', e', hat⟩ := raw_at hC (j := j) (by omega)
  cases e'
  obtain ⟨A2, c2, e, hR⟩ := hr j hj1
  have hp2 : p = s30 (sms.getD j zSm) := by
    rw [List.getElem?_map, List.getElem?_eq_getElem hj1] at hj
    simp at hj
    rw [← hj]; simp [hj1]
  subst hp2
  have hrd := Kd.R_reads' hR
  refine ⟨_, rfl, k30_mk wr (s30 (sms.getD j zSm)) (A2 := A2) (c2 := c2) hrd.2.1 hrd.2.2, fun t u hu => hat t u ?_⟩
  rw [e]
  exact hu
theorem RW2.below {base : Nat} {sms : List Sm} {vA vM : Value} {i : Nat} {wr W : World} (h : RW2 base sms vA vM i wr) (hb : Below wr.heap.size wr W) : RW2 base sms vA vM i W := by
  obtain ⟨rows, hl, hA, hM, hr⟩ := h.rows
  exact ⟨rows, hl, Kd.R_below hA hb, Kd.R_below hM hb, fun j hj => by obtain ⟨A, c, e, hR⟩ := hr j hj; exact ⟨A, c, e, Kd.R_below hR hb⟩⟩
theorem made_each : ∀ (lst : List (List S51)) (ks : Nat → Int), (∀ l ∈ lst, ∀ t ∈ l, 0 ≤ t.f0 ∧ 0 ≤ t.f1 ∧ t.f1 < 18446744073709551616) → ∃ sms : List Sm, sms.length = lst.length ∧
    ∀ i, i < lst.length → ∃ all, skylightref17_Made.f 600 (ks i) (lst.getD i []) = some ((sms.getD i zSm).K, (sms.getD i zSm).T, (sms.getD i zSm).l, all) ∧ MG (sms.getD i zSm).K (sms.getD i zSm).T (sms.getD i zSm).l all ∧ 1 ≤ (sms.getD i zSm).K ∧ (sms.getD i zSm).K ≤ 8 := by
  intro lst
  induction lst with
  | nil => intro ks _; exact ⟨[], rfl, fun i hi => by simp at hi⟩
  | cons l lst ih =>
    intro ks h
    obtain ⟨T, s, all, h1, h2, h3⟩ := made_is (ks 0) l (h l (by simp))
    obtain ⟨hK1, hK8⟩ := keys_range (ks 0)
    obtain ⟨sms, g1, g2⟩ := ih (fun i => ks (i + 1)) (fun q hq => h q (by simp [hq]))
    refine ⟨⟨1 + (mx (ks 0) 0) % 8, T, s⟩ :: sms, by simp [g1], fun i hi => ?_⟩
    rcases i with _ | i
    · exact ⟨all, h1, h2, hK1, hK8⟩
    · simpa using g2 i (by simpa using hi)
/-- Made summaries may be merged. -/
theorem mok_each {sms : List Sm} (h : ∀ s ∈ sms, ∃ all, MG s.K s.T s.l all ∧ 1 ≤ s.K ∧ s.K ≤ 8) (hl : sms.length ≤ 6) : (0 < sms.length → MOk sms) ∧ (sms.flatMap (·.l)).length ≤ 48 ∧ Mok (sms.flatMap (·.l)) ∧ ∀ s ∈ sms, ∀ x ∈ s.l, 1 ≤ x.f1 := by
  have hc : ∀ s ∈ sms, ∀ x ∈ s.l, 0 ≤ x.f0 ∧ x.f0 < 2305843009213693951 ∧ 1 ≤ x.f1 := fun s hs x hx => by
    obtain ⟨all, hM, _⟩ := h s hs
    exact hM.pw.cnt x hx
  have key : ∀ q : List Sm, (∀ s ∈ q, ∃ all, MG s.K s.T s.l all ∧ 1 ≤ s.K ∧ s.K ≤ 8) → (q.flatMap (·.l)).length ≤ 8 * q.length ∧ sumL (q.flatMap (·.l)) ≤ 4503599627370496 * q.length := by
    intro q
    induction q with
    | nil => intro _; simp [sumL]
    | cons a q ih =>
      intro hq
      obtain ⟨all, hM, hK1, hK8⟩ := hq a (by simp)
      obtain ⟨i1, i2⟩ := ih (fun s hs => hq s (by simp [hs]))
      have h1 := hM.len
      have h2 := hM.pw.sum_le (by omega)
      have h3 := hM.top
      rw [List.flatMap_cons, List.length_append, sumL_append, List.length_cons]
      omega
  obtain ⟨k1, k2⟩ := key sms h
  have hmok : Mok (sms.flatMap (·.l)) := by
    refine ⟨fun x hx => ?_, fun x hx => ?_, by rw [totL_sumL]; omega⟩
    · obtain ⟨s, hs, hx⟩ := List.mem_flatMap.1 hx
      have := hc s hs x hx; omega
    · obtain ⟨s, hs, hx⟩ := List.mem_flatMap.1 hx
      have := hc s hs x hx; omega
  have hm := (merge_length (sms.flatMap (·.l)) []).2
  simp only [List.length_nil] at hm
  refine ⟨fun hp => ⟨fun s hs => ?_, fun s hs => ?_, by omega, hp, hmok, by omega, ?_⟩, by omega, hmok, fun s hs x hx => (hc s hs x hx).2.2⟩
  · obtain ⟨all, hM, _⟩ := h s hs
    exact ⟨hM.nonneg, hM.top⟩
  · obtain ⟨all, hM, hK1, hK8⟩ := h s hs
    have := hM.len; omega
  · rcases sms with _ | ⟨s, q⟩
    · simp at hp
    · obtain ⟨all, hM, hK1, hK8⟩ := h s List.mem_cons_self
      show 0 ≤ s.K
      omega
theorem RW2.next {base : Nat} {sms : List Sm} {vA vM : Value} {i : Nat} {W : World} {rows : List (List Value)} {sK sT : Int} {sl : List S51} {A : Option Addr} {c : Nat} (hl : rows.length = i)
    (hA : Kd.R (Kd.raw 3) 30 W base (fun _ => True) vA (rows ++ [[.int .i64 sK, .int .u64 sT, .slice A sl.length c]])) (hM : Kd.R (Kd.raw 3) 33 W base (fun _ => True) vM (rows ++ [[.int .i64 sK, .int .u64 sT, .slice A sl.length c]]))
    (hI : ∀ j, j < i → ∃ A c, rows.getD j [] = rw3 (sms.getD j zSm) A c ∧ Kd.R k51 51 W base (fun _ => True) (.slice A (sms.getD j zSm).l.length c) (sms.getD j zSm).l) (hs : sms.getD i zSm = ⟨sK, sT, sl⟩) (hN : Kd.R k51 51 W base (fun _ => True) (.slice A sl.length c) sl) : RW2 base sms vA vM (i + 1) W := by
  refine ⟨_, by rw [List.length_append, hl]; rfl, hA, hM, fun j hj => ?_⟩
  by_cases e : j = i
  · subst e
    rw [hs]
    exact ⟨A, c, by simp [← hl, rw3], hN⟩
  · obtain ⟨A', c', e1, hR⟩ := hI j (by omega)
    refine ⟨A', c', ?_, hR⟩
    rw [← e1]
    have hj2 : j < rows.length := by omega
    simp [List.getElem?_append_left hj2]
theorem merges_both {sms : List Sm} (h : ∀ s ∈ sms, ∃ all, MG s.K s.T s.l all ∧ 1 ≤ s.K ∧ s.K ≤ 8) (hl : sms.length ≤ 6) {wr : World} {Am Aa : Option Addr} {cm ca : Nat} (hx : SX wr Am sms) (hz : sms.length = 0 → Am = none ∧ cm = 0) (hca : sms.length ≤ ca) (hC : Kd.C k30 wr Aa (sms.map s30).length (sms.map s30)) :
    ∃ (rK rT : Int) (rl : List S51) (re : Int), rl.length ≤ 100 ∧ (∀ W, Below wr.heap.size wr W → Calls Try.prog 16 #[.slice Am sms.length cm] W fun e w' => ∃ A c, e = .returned (.tuple #[.agg #[.int .i64 rK, .int .u64 rT, .slice A rl.length c], .int .i64 re]) ∧ Kd.R k51 51 w' W.heap.size (fun _ => True) (.slice A rl.length c) rl ∧ Below W.heap.size W w') ∧
      (∀ W, Below wr.heap.size wr W → Calls Try.prog 17 #[.slice Aa sms.length ca] W fun e w' => ∃ A c, e = .returned (.tuple #[.agg #[.int .i64 rK, .int .u64 rT, .slice A rl.length c], .int .i64 re]) ∧ Kd.R k51 51 w' W.heap.size (fun _ => True) (.slice A rl.length c) rl ∧ Below W.heap.size W w') := by
  obtain ⟨hok, hfl, hmok, hcn⟩ := mok_each h hl
  rcases Nat.eq_zero_or_pos sms.length with h0 | h0
  · obtain rfl : sms = [] := List.eq_nil_of_length_eq_zero h0
    obtain ⟨rfl, rfl⟩ := hz rfl
    refine ⟨0, 0, [], 1, by simp, fun W hW => ?_, fun W hW => ?_⟩
    · refine (merge_none W).mono ?_
      rintro e w' ⟨rfl, hb⟩
      exact ⟨none, 0, rfl, Kd.R_nil _ _ _ _ _, hb⟩
    · refine (skylightref18_Merge.calls 6000 Aa ca [] 0 0 [] 1 W (Kd.C_below hC hW) hca merge18_nil).mono ?_
      rintro e w' ⟨v, rfl, hR, hb⟩
      obtain ⟨A, c, rfl⟩ := Kd.R_slice hR
      exact ⟨A, c, rfl, hR, hb⟩
  · refine ⟨_, _, _, _, mrg_len (hok h0), fun W hW => merge_any Am cm sms.length sms W (hx.kept (KeepsCells.of_below hW)) (hok h0) rfl, fun W hW => ?_⟩
    have := skylightref18_Merge.calls 6000 Aa ca (sms.map s30) _ _ _ _ W (Kd.C_below hC hW) (by rw [List.length_map]; exact hca) (merge18_eq hl (hok h0) (by omega) hcn)
    rw [List.length_map] at this
    refine this.mono ?_
    rintro e w' ⟨v, rfl, hR, hb⟩
    obtain ⟨A, c, rfl⟩ := Kd.R_slice hR
    exact ⟨A, c, rfl, hR, hb⟩
theorem sums_both {sms : List Sm} (h : ∀ s ∈ sms, ∃ all, MG s.K s.T s.l all ∧ 1 ≤ s.K ∧ s.K ≤ 8) (hl : sms.length ≤ 6) {wr : World} {Am Aa : Option Addr} {cm ca : Nat} (hx : SX wr Am sms) (hca : sms.length ≤ ca) (hC : Kd.C k30 wr Aa (sms.map s30).length (sms.map s30)) :
    ∃ (m : List S51), m.length ≤ 100 ∧ (∀ W, Below wr.heap.size wr W → Calls Try.prog 20 #[.slice Am sms.length cm] W fun e w' => ∃ A c, e = .returned (.slice A m.length c) ∧ Kd.R k51 51 w' W.heap.size (fun _ => True) (.slice A m.length c) m ∧ Below W.heap.size W w') ∧
      (∀ W, Below wr.heap.size wr W → Calls Try.prog 21 #[.slice Aa sms.length ca] W fun e w' => ∃ A c, e = .returned (.slice A m.length c) ∧ Kd.R k51 51 w' W.heap.size (fun _ => True) (.slice A m.length c) m ∧ Below W.heap.size W w') := by
  obtain ⟨hok, hfl, hmok, hcn⟩ := mok_each h hl
  have hml := (merge_length (sms.flatMap (·.l)) []).2
  simp only [List.length_nil] at hml
  refine ⟨mergeL [] (sms.flatMap (·.l)), by omega, fun W hW => ?_, fun W hW => ?_⟩
  · have := sums_calls Am cm (sms.map (·.l)) W ((hx.kept (KeepsCells.of_below hW)).sl) (by rw [List.length_map]; omega) (by
      intro li hli
      obtain ⟨s, hs, rfl⟩ := List.mem_map.1 hli
      obtain ⟨all, hM, _, hK8⟩ := h s hs
      have := hM.len; omega) (by rw [← List.flatMap_def]; omega) (by rw [← List.flatMap_def]; exact hmok) (by rw [← List.flatMap_def]; omega)
    rw [← List.flatMap_def, List.length_map] at this
    refine this.mono ?_
    rintro e w' ⟨v, rfl, hR, hb⟩
    obtain ⟨A, c, rfl⟩ := Kd.R_slice hR
    exact ⟨A, c, rfl, hR, hb⟩
  · have := skylightref18_Sums.calls 6000 Aa ca (sms.map s30) _ W (Kd.C_below hC hW) (by rw [List.length_map]; exact hca) (sums18_eq hl (fun s hs x hx => by have := hcn s hs x hx; omega) (by omega) hmok.tot 6000 (by omega))
    rw [List.length_map] at this
    refine this.mono ?_
    rintro e w' ⟨v, rfl, hR, hb⟩
    obtain ⟨A, c, rfl⟩ := Kd.R_slice hR
    exact ⟨A, c, rfl, hR, hb⟩
end Go.Proofs.Ytohginlodlijkaa.PH
