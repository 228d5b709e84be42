/- slices.DeleteFunc of items, by join's closure 'no more than the cut'. And more: see each part's head. -/
import Derived.Lib.SliceRun
import Derived.Deep.CutBlock
import Derived.Deep.DeepCutAuto
import Derived.Test.YtohginlodlijkaaSrx
import Derived.Test.YtohginlodlijkaaItems
import Derived.Test.YtohginlodlijkaaHw
/-! slices.DeleteFunc of items, by join's closure 'no more than the cut'. -/
namespace Go.Proofs.Ytohginlodlijkaa.PH
open Go.RowKit Go.Proofs.YtohginlodlijkaaW.PrintWords
/-- Block g holds cap items; the first are l. -/
def Rw2 (g cap : Nat) (l : List S51) (w : World) : Prop := ∃ cur : Array Value, w.heap[g]? = some (.cells cur 51 (0, 0)) ∧ cur.size = cap * 2 ∧ l.length ≤ cap ∧ ∀ t, t < l.length → cur[t * 2]? = some (.int .u64 (l.getD t z51).f0) ∧ cur[t * 2 + 1]? = some (.int .u64 (l.getD t z51).f1)
theorem Rw2.lt {g cap : Nat} {l : List S51} {w : World} (h : Rw2 g cap l w) : g < w.heap.size := by obtain ⟨cur, h1, _⟩ := h; exact (Array.getElem?_eq_some_iff.1 h1).1
theorem Rw2.kept {g cap : Nat} {l : List S51} {w w' : World} (h : Rw2 g cap l w) (e : w'.heap[g]? = w.heap[g]?) : Rw2 g cap l w' := by obtain ⟨cur, h1, h2⟩ := h; exact ⟨cur, e.trans h1, h2⟩
theorem Rw2.alloc {g cap : Nat} {l : List S51} {w : World} (h : Rw2 g cap l w) (o : Obj) : Rw2 g cap l (w.alloc o) := h.kept (Below.heap_alloc w o g h.lt)
theorem Rw2.c0 {g cap : Nat} {l : List S51} {w : World} (h : Rw2 g cap l w) {t : Nat} (ht : t < l.length) : w.cell? ⟨g, t * 2, none⟩ = some (.int .u64 (l.getD t z51).f0) := by
  obtain ⟨cur, h1, _, _, h4⟩ := h
  simp only [World.cell?, h1]
  exact (h4 t ht).1
theorem Rw2.c1 {g cap : Nat} {l : List S51} {w : World} (h : Rw2 g cap l w) {t : Nat} (ht : t < l.length) : w.cell? ⟨g, t * 2 + 1, none⟩ = some (.int .u64 (l.getD t z51).f1) := by
  obtain ⟨cur, h1, _, _, h4⟩ := h
  simp only [World.cell?, h1]
  exact (h4 t ht).2
theorem Rw2.frozen {g cap : Nat} {l : List S51} {w : World} (h : Rw2 g cap l w) (i : Nat) : w.frozen? ⟨g, i, none⟩ = false := by
  obtain ⟨cur, h1, _⟩ := h
  simp [World.frozen?, h1]
set_option maxHeartbeats 4000000 in
set_option maxRecDepth 100000 in
theorem cut_calls (k c cut : Int) (cb : Nat) (w : World) (hc : w.cell? ⟨cb, 0, none⟩ = some (.int .u64 cut)) :
    Calls Try.prog 40 #[.agg #[.int .u64 k, .int .u64 c], .pointer (some ⟨cb, 0, none⟩)] w fun e w' => e = .returned (.bool (decide (c ≤ cut))) ∧ w' = w.alloc (.cells #[.int .u64 k, .int .u64 c] 51) := by
  have hlt := World.block_lt_of_cell? w _ hc
  have hc' : (w.alloc (.cells #[.int .u64 k, .int .u64 c] 51)).cell? ⟨cb, 0, none⟩ = some (.int .u64 cut) := (World.cell?_alloc_lt _ _ _ hlt).trans hc
  go_enter Try.func40, Try.ntmps40
  go_wp2
  go_ret
  exact ⟨rfl, rfl⟩
/-- Where the first stands that is no more than the cut. -/
def firstC (cut : Int) : List S51 → Nat
  | [] => 0
  | x :: l => if x.f1 ≤ cut then 0 else firstC cut l + 1
/-- What IndexFunc tells. -/
def idxC (cut : Int) (l : List S51) : Int := if firstC cut l < l.length then (firstC cut l : Int) else -1
theorem firstC_le (cut : Int) : ∀ l : List S51, firstC cut l ≤ l.length
  | [] => Nat.le_refl _
  | x :: l => by have := firstC_le cut l; simp only [firstC, List.length_cons]; split <;> omega
theorem firstC_at (cut : Int) : ∀ (l : List S51), firstC cut l < l.length → (l.getD (firstC cut l) z51).f1 ≤ cut
  | [], h => by simp [firstC] at h
  | x :: l, h => by
    simp only [firstC] at h ⊢
    split at h
    · rename_i h1; rw [if_pos h1]; simpa using h1
    · rename_i h1
      rw [if_neg h1]
      have := firstC_at cut l (by simpa using h)
      simpa using this
theorem firstC_lt (cut : Int) : ∀ (l : List S51) (t : Nat), t < firstC cut l → cut < (l.getD t z51).f1
  | [], t, h => by simp [firstC] at h
  | x :: l, t, h => by
    simp only [firstC] at h
    split at h
    · omega
    · rename_i h1
      cases t with
      | zero => simpa using h1
      | succ t => have := firstC_lt cut l t (by omega); simpa using this
theorem firstC_is (cut : Int) (l : List S51) (k : Nat) (hk : k < l.length) (h1 : ∀ t, t < k → cut < (l.getD t z51).f1) (h2 : (l.getD k z51).f1 ≤ cut) : firstC cut l = k := by
  rcases Nat.lt_trichotomy (firstC cut l) k with h | h | h
  · have := firstC_at cut l (by omega); have := h1 _ h; omega
  · exact h
  · have := firstC_lt cut l k h; omega
set_option maxHeartbeats 4000000 in
set_option maxRecDepth 100000 in
theorem index_calls (g cap c cb : Nat) (cut : Int) (l : List S51) (w : World) (hR : Rw2 g cap l w) (hc : So.Bx cb 27 (.int .u64 cut) w) (hl : l.length < 1000) :
    Calls Try.prog 66 #[.slice (some ⟨g, 0, none⟩) l.length c, .func (.func 40) #[] #[.pointer (some ⟨cb, 0, none⟩)]] w fun e w' => e = .returned (.int .i64 (idxC cut l)) ∧ Below w.heap.size w w' := by
  have HR := So.Sh.mk hR
  have HC := So.Sh.mk hc
  clear hR hc
  go_enter Try.func66, Try.ntmps66
  go_wp2
  go_loopw [8] (fun vi wr => ∃ k : Nat, vi = .int .i64 k ∧ k ≤ l.length ∧ (∀ t, t < k → cut < (l.getD t z51).f1) ∧ Below w.heap.size w wr) (fun vi _ => l.length - (So.toI vi).toNat)
  case atStart => exact ⟨0, rfl, Nat.zero_le _, fun t h => by omega, Below.refl _ _⟩
  case round =>
    obtain ⟨k, rfl, hk, hn, hb⟩ := hrel
    by_cases hlt : k < l.length
    · have hR2 := HR.out.kept (hb.block g HR.out.lt)
      have c0 := hR2.c0 hlt
      have c1 := hR2.c1 hlt
      have hcb : cb < w.heap.size := (Array.getElem?_eq_some_iff.1 HC.out).1
      have cc : wr.cell? ⟨cb, 0, none⟩ = some (.int .u64 cut) := (hb.cell (p := ⟨cb, 0, none⟩) hcb).trans HC.out.cell
      have hxn := So.Sh.mk (show (l.getD k z51).f1 ≤ cut → firstC cut l = k from firstC_is cut l k hlt hn)
      have hyn := So.Sh.mk (show cut < (l.getD k z51).f1 → ∀ t, t < k + 1 → cut < (l.getD t z51).f1 from fun h t ht => by rcases Nat.lt_succ_iff_lt_or_eq.1 ht with h1 | rfl; exact hn t h1; exact h)
      have HB := So.Sh.mk hb
      clear hn hb hR2
      generalize l.getD k z51 = x at *
      go_wp2_with (go_at_call 40; refine (cut_calls x.f0 x.f1 cut cb _ (by assumption)).mono ?_; rintro e w1 ⟨rfl, rfl⟩)
      · go_ret
        have e := hxn.out (by assumption)
        exact ⟨by unfold idxC; rw [if_pos (by omega), e]; rfl, HB.out.alloc HB.out.size _⟩
      · exact ⟨⟨k + 1, by simp, by omega, hyn.out (by omega), HB.out.alloc HB.out.size _⟩, by simp [So.toI]; omega⟩
    · obtain rfl : k = l.length := by omega
      have hge : ¬ firstC cut l < l.length := fun h => by have := hn _ h; have := firstC_at cut l h; omega
      go_wp2
      go_ret
      exact ⟨by unfold idxC; rw [if_neg hge]; rfl, hb⟩
end Go.Proofs.Ytohginlodlijkaa.PH

/-! slices.DeleteFunc of items, by join's closure 'no more than the cut': those above it, in their turn. -/
namespace Go.Proofs.Ytohginlodlijkaa.PH
open Go.RowKit Go.Proofs.YtohginlodlijkaaW.PrintWords
theorem setCell_block {w : World} {g i : Nat} {cur : Array Value} {t : TypeId} {fr : Nat × Nat} (h : w.heap[g]? = some (.cells cur t fr)) (v : Value) : (w.setCell ⟨g, i, none⟩ v).heap[g]? = some (.cells (cur.setIfInBounds i v) t fr) := by
  simp only [World.setCell, Array.getElem?_modify, h, if_true, Option.map_some]
  rfl
theorem Rw2.set {g cap i : Nat} {l : List S51} {w : World} (h : Rw2 g cap l w) (hi : i < l.length) (x : S51) : Rw2 g cap (l.set i x) ((w.setCell ⟨g, i * 2, none⟩ (.int .u64 x.f0)).setCell ⟨g, i * 2 + 1, none⟩ (.int .u64 x.f1)) := by
  obtain ⟨cur, h1, h2, h3, h4⟩ := h
  refine ⟨_, setCell_block (setCell_block h1 _) _, by simpa using h2, by simpa using h3, fun t ht => ?_⟩
  rw [List.length_set] at ht
  have hs : i * 2 + 1 < cur.size := by omega
  by_cases e : i = t
  · subst e
    have eg : (l.set i x).getD i z51 = x := by simp [hi]
    rw [eg]
    constructor
    · rw [Array.getElem?_setIfInBounds, if_neg (by omega), Array.getElem?_setIfInBounds, if_pos rfl, if_pos (by omega)]
    · rw [Array.getElem?_setIfInBounds, if_pos rfl, if_pos (by simpa using hs)]
  · have eg : (l.set i x).getD t z51 = l.getD t z51 := by simp [List.getElem?_set_ne e]
    rw [eg]
    constructor
    · rw [Array.getElem?_setIfInBounds, if_neg (by omega), Array.getElem?_setIfInBounds, if_neg (by omega)]; exact (h4 t ht).1
    · rw [Array.getElem?_setIfInBounds, if_neg (by omega), Array.getElem?_setIfInBounds, if_neg (by omega)]; exact (h4 t ht).2
theorem setCells_heap (g : Nat) : ∀ (vs : List Value) (o : Nat) (w : World) (cur : Array Value), w.heap[g]? = some (.cells cur 51 (0, 0)) → ∃ cur', (w.setCells g o vs).heap[g]? = some (.cells cur' 51 (0, 0)) ∧ cur'.size = cur.size ∧ ∀ k, k < o → cur'[k]? = cur[k]?
  | [], _, _, cur, h => ⟨cur, h, rfl, fun _ _ => rfl⟩
  | v :: vs, o, w, _, h => by
    obtain ⟨cur', h1, h2, h3⟩ := setCells_heap g vs (o + 1) (w.setCell ⟨g, o, none⟩ v) _ (setCell_block h v)
    refine ⟨cur', h1, by simpa using h2, fun k hk => ?_⟩
    rw [h3 k (by omega), Array.getElem?_setIfInBounds, if_neg (by omega)]
theorem setCells_kp (g : Nat) : ∀ (vs : List Value) (o : Nat) (w0 w : World), So.Kp g w0 w → So.Kp g w0 (w.setCells g o vs)
  | [], _, _, _, h => h
  | v :: vs, o, w0, _, h => setCells_kp g vs (o + 1) w0 _ (h.set (.inl rfl) o v)
theorem Rw2.clear {g cap i : Nat} {l : List S51} {w : World} (h : Rw2 g cap l w) (hi : i ≤ l.length) (vs : List Value) : Rw2 g cap (l.take i) (w.setCells g (i * 2) vs) := by
  obtain ⟨cur, h1, h2, h3, h4⟩ := h
  obtain ⟨cur', k1, k2, k3⟩ := setCells_heap g vs (i * 2) w cur h1
  refine ⟨cur', k1, by omega, by rw [List.length_take]; omega, fun t ht => ?_⟩
  rw [List.length_take] at ht
  have eg : (l.take i).getD t z51 = l.getD t z51 := by simp [show t < i by omega]
  rw [eg, k3 _ (by omega), k3 _ (by omega)]
  exact h4 t (by omega)
theorem run_clear_items (w : World) (ty : TypeId) (b o m c : Nat) (hc : ∀ j, j < 2 * (m + 1) → (w.cell? ⟨b, o + j, none⟩).isSome = true) (hf : ∀ j, w.frozen? ⟨b, j, none⟩ = false) :
    (Builtin.clear_ #[28] ty #[.slice (some ⟨b, o, none⟩) (m + 1) c]).run Try.prog w = .ok (.tuple #[]) (w.setCells b o (Builtin.zeroCells #[.int .u64 0, .int .u64 0] (m + 1)).toList) := by
  have hz : ∀ w, (zeroValue 51).run Try.prog w = .ok (.agg #[.int .u64 0, .int .u64 0]) w := fun w => by kernel_rfl
  have hlen : (Builtin.zeroCells #[.int .u64 0, .int .u64 0] (m + 1)).toList.length = 2 * (m + 1) := by simp [Builtin.zeroCells]; omega
  have hst := run_storeCells_cells (P := Try.prog) b o (Builtin.zeroCells #[.int .u64 0, .int .u64 0] (m + 1)).toList 0 w (by rw [hlen]; simpa using hc) (fun j _ => by simpa using hf _) (by
    intro v hv
    simp [Builtin.zeroCells] at hv
    obtain ⟨k, _, rfl⟩ := hv
    rcases Nat.mod_two_eq_zero_or_one k with e | e <;> simp [e, Value.oneCell'])
  simp only [Nat.add_zero] at hst
  have hzc : Value.cells (.agg #[.int .u64 0, .int .u64 0]) = #[.int .u64 0, .int .u64 0] := rfl
  simp [Builtin.clear_, run_underlying Try.underlying28, hz, hzc, hst]
/-- What is kept. -/
def keepC (cut : Int) (l : List S51) : List S51 := l.filter fun x => decide (cut < x.f1)
theorem keep_first (cut : Int) (l : List S51) (h : firstC cut l < l.length) : keepC cut (l.take (firstC cut l + 1)) = l.take (firstC cut l) := by
  unfold keepC
  rw [List.take_succ_eq_append_getElem h, List.filter_append]
  have h1 : (l.take (firstC cut l)).filter (fun x => decide (cut < x.f1)) = l.take (firstC cut l) := by
    rw [List.filter_eq_self]
    intro x hx
    obtain ⟨t, ht, rfl⟩ := List.getElem_of_mem hx
    rw [List.length_take] at ht
    have := firstC_lt cut l t (by omega)
    simp only [List.getElem_take, decide_eq_true_eq]
    simpa [show t < l.length by omega] using this
  have h2 := firstC_at cut l h
  rw [h1]
  have h3 : ¬ cut < l[firstC cut l].f1 := by simpa [h] using (show ¬ cut < (l.getD (firstC cut l) z51).f1 by omega)
  simp [h3]
theorem keep_all (cut : Int) (l : List S51) (h : ¬ firstC cut l < l.length) : keepC cut l = l := by
  have e : firstC cut l = l.length := by have := firstC_le cut l; omega
  unfold keepC
  rw [List.filter_eq_self]
  intro x hx
  obtain ⟨t, ht, rfl⟩ := List.getElem_of_mem hx
  have := firstC_lt cut l t (by omega)
  simpa [ht] using this
theorem keep_snoc (cut : Int) (a : List S51) (x : S51) : keepC cut (a ++ [x]) = keepC cut a ++ (if cut < x.f1 then [x] else []) := by
  unfold keepC
  rw [List.filter_append]
  by_cases h : cut < x.f1 <;> simp [h]
theorem take_set {m : List S51} {i : Nat} {x : S51} (h : i < m.length) : (m.set i x).take (i + 1) = m.take i ++ [x] := by
  rw [List.take_succ_eq_append_getElem (by simpa using h), List.take_set_of_le (Nat.le_refl _)]
  simp
set_option maxHeartbeats 8000000 in
set_option maxRecDepth 100000 in
theorem delete_calls (g cap c cb : Nat) (cut : Int) (l : List S51) (w : World) (hR : Rw2 g cap l w) (hc : So.Bx cb 27 (.int .u64 cut) w) (hgc : g ≠ cb) (hl : l.length < 1000) (hlc : l.length ≤ c) :
    Calls Try.prog 39 #[.slice (some ⟨g, 0, none⟩) l.length c, .func (.func 40) #[] #[.pointer (some ⟨cb, 0, none⟩)]] w fun e w' => e = .returned (.slice (some ⟨g, 0, none⟩) (keepC cut l).length c) ∧ Rw2 g cap (keepC cut l) w' ∧ So.Kp g w w' := by
  have HI := So.Sh.mk (index_calls g cap c cb cut l w hR hc hl)
  have HR := So.Sh.mk hR
  have HC := So.Sh.mk hc
  clear hR hc
  by_cases hf : firstC cut l < l.length
  · have hi : idxC cut l = (firstC cut l : Int) := by unfold idxC; rw [if_pos hf]
    rw [hi] at HI
    clear hi
    have hk1 := keep_first cut l hf
    generalize firstC cut l = f at *
    have hm1 : ((f : Int) == -1) = false := by first | (simp; done) | (simp; omega)
    have HK := So.Sh.mk hk1
    clear hk1
    go_enter Try.func39, Try.ntmps39
    go_wp2_with (go_at_call 66; refine HI.out.mono ?_; rintro e w1 ⟨rfl, hb⟩)
    have HB := So.Sh.mk hb
    have HR1 := So.Sh.mk (HR.out.kept (hb.block g HR.out.lt))
    have HC1 := So.Sh.mk (show So.Bx cb 27 (.int .u64 cut) w1 from (hb.block cb (Array.getElem?_eq_some_iff.1 HC.out).1).trans HC.out)
    have HP1 := So.Sh.mk (show So.Kp g w w1 from ⟨hb.os, hb.tape, hb.output, hb.size, fun k hk _ => hb.block k hk⟩)
    clear hb HI
    go_loopw [5, 6] (fun vi vj wr => ∃ (i j : Nat) (m : List S51), vi = .int .i64 i ∧ vj = .int .i64 j ∧ i < j ∧ j ≤ l.length ∧ m.length = l.length ∧ m.take i = keepC cut (l.take j) ∧ (∀ t, j ≤ t → m.getD t z51 = l.getD t z51) ∧ Rw2 g cap m wr ∧ So.Kp g w1 wr) (fun _ vj _ => l.length - (So.toI vj).toNat)
    case atStart => exact ⟨f, f + 1, l, by simp, by simp, by omega, by omega, rfl, HK.out.symm, fun _ _ => rfl, HR1.out, So.Kp.refl g w1⟩
    case round =>
      obtain ⟨i, j, m, rfl, rfl, hij, hj, hm, ht, hs, hRm, hkp⟩ := hrel
      have HT := So.Sh.mk ht
      have HS := So.Sh.mk hs
      have HRm := So.Sh.mk hRm
      have HKp := So.Sh.mk hkp
      by_cases hjl : j < l.length
      · have c0 := hRm.c0 (t := j) (by omega)
        have c1 := hRm.c1 (t := j) (by omega)
        rw [hs j (Nat.le_refl _)] at c0 c1
        have hcbl := (Array.getElem?_eq_some_iff.1 HC1.out).1
        have cc : wr.cell? ⟨cb, 0, none⟩ = some (.int .u64 cut) := So.Bx.cell ((hkp.rest cb hcbl (fun e => hgc e.symm)).trans HC1.out)
        have hcl := World.block_lt_of_cell? wr _ cc
        have htk : l.take (j + 1) = l.take j ++ [l.getD j z51] := by rw [List.take_succ_eq_append_getElem hjl]; simp [hjl]
        have HTK := So.Sh.mk htk
        clear htk ht hs hRm hkp
        generalize l.getD j z51 = x at *
        have H2 := So.Sh.mk ((HRm.out.alloc (.cells #[.int .u64 x.f0, .int .u64 x.f1] 51)).alloc (.cells #[.int .u64 x.f0, .int .u64 x.f1] 51))
        go_wp2_with (go_at_call 40; refine (cut_calls x.f0 x.f1 cut cb _ ((World.cell?_alloc_lt _ _ _ hcl).trans cc)).mono ?_; rintro e w2 ⟨rfl, rfl⟩; have d0 := H2.out.c0 (t := i) (by omega); have d1 := H2.out.c1 (t := i) (by omega); have f0 := H2.out.frozen (i * 2); have f1 := H2.out.frozen (i * 2 + 1))
        · have hx : cut < x.f1 := by have := of_decide_eq_false (So.nb0 (b := decide (x.f1 ≤ cut)) (by assumption)); omega
          exact ⟨⟨i + 1, j + 1, m.set i x, by simp, by simp, by omega, by omega, by simpa using hm, by rw [HTK.out, keep_snoc, if_pos hx, take_set (by omega), HT.out], fun t h => by rw [← HS.out t (by omega)]; simp [List.getElem?_set_ne (show i ≠ t by omega)], H2.out.set (by omega) x, (((HKp.out.alloc _).alloc _).set (.inl rfl) _ _).set (.inl rfl) _ _⟩, by simp [So.toI]; omega⟩
        · have hx : ¬ cut < x.f1 := by have := of_decide_eq_true (So.nb1 (b := decide (x.f1 ≤ cut)) (by assumption)); omega
          exact ⟨⟨i, j + 1, m, rfl, by simp, by omega, by omega, hm, by rw [HTK.out, keep_snoc, if_neg hx, List.append_nil]; exact HT.out, fun t h => HS.out t (by omega), H2.out, (HKp.out.alloc _).alloc _⟩, by simp [So.toI]; omega⟩
      · obtain rfl : j = l.length := by omega
        rw [List.take_length] at ht
        obtain ⟨n, hn⟩ : ∃ n, l.length - i = n + 1 := ⟨l.length - i - 1, by omega⟩
        have hcl := run_clear_items wr 0 g (i * 2) n (c - i) (fun q hq => by
          rcases Nat.mod_two_eq_zero_or_one q with e | e
          · have := hRm.c0 (t := i + q / 2) (by omega)
            rw [show (i + q / 2) * 2 = i * 2 + q by omega] at this
            rw [this]; rfl
          · have := hRm.c1 (t := i + q / 2) (by omega)
            rw [show (i + q / 2) * 2 + 1 = i * 2 + q by omega] at this
            rw [this]; rfl) hRm.frozen
        have hlk : (keepC cut l).length = i := by rw [← ht, List.length_take]; omega
        have hic : i ≤ c := by omega
        have hkr := So.Sh.mk hRm
        have hT2 := So.Sh.mk ht
        clear ht hs hRm hkp HT
        go_wp2
        go_ret
        have hC := hkr.out.clear (i := i) (by omega) (Builtin.zeroCells #[.int .u64 0, .int .u64 0] (n + 1)).toList
        rw [hT2.out] at hC
        exact ⟨by rw [hlk]; rfl, hC, HP1.out.trans (setCells_kp g _ _ _ _ HKp.out)⟩
  · have hi : idxC cut l = -1 := by unfold idxC; rw [if_neg hf]
    rw [hi] at HI
    have hk := keep_all cut l hf
    clear hi
    go_enter Try.func39, Try.ntmps39
    go_wp2_with (go_at_call 66; refine HI.out.mono ?_; rintro e w1 ⟨rfl, hb⟩)
    go_ret
    rw [hk]
    exact ⟨rfl, HR.out.kept (hb.block g HR.out.lt), ⟨hb.os, hb.tape, hb.output, hb.size, fun k hk _ => hb.block k hk⟩⟩
end Go.Proofs.Ytohginlodlijkaa.PH

/-! A row of items of one's own, and what its block holds; cut and sorted: plain. -/
namespace Go.Proofs.Ytohginlodlijkaa.PH
open Go.RowKit Go.Proofs.YtohginlodlijkaaW.PrintWords
theorem rw2_of_R {w : World} {base n cap : Nat} {A : Option Addr} {l : List S51} (h : Kd.R k51 51 w base (fun _ => True) (.slice A n cap) l) (hp : 0 < l.length) : ∃ g, A = some ⟨g, 0, none⟩ ∧ base ≤ g ∧ l.length ≤ cap ∧ cap ≤ maxLen ∧ Rw2 g cap l w := by
  obtain ⟨_, inner, ⟨hn, ⟨_, h2⟩ | ⟨g', cap', cur, hv, hb, hh, hnc, hc, hs, ht⟩⟩, hr⟩ := h
  · omega
  · injection hv with h1 _ h3
    subst h3
    refine ⟨g', h1, hb, hnc, hc, cur, hh, hs, hnc, fun t htl => ?_⟩
    have h4 := hr.2 t _ (List.getElem?_eq_getElem htl)
    have h5 := k51_openM h4
    have e : l.getD t z51 = l[t] := by simp [htl]
    rw [e]
    have k0 : ∀ j, j < 2 → cur[t * 2 + j]? = (([.int .u64 l[t].f0, .int .u64 l[t].f1] : List Value))[j]? := fun j hj => by
      rw [← h5, ← ht]
      have e2 : k51.sz = 2 := rfl
      rw [e2, List.getElem?_take_of_lt hj, List.getElem?_drop, List.getElem?_take_of_lt (by omega), Array.getElem?_toList]
    exact ⟨k0 0 (by omega), k0 1 (by omega)⟩
theorem R_of_rw2 {w : World} {base g cap : Nat} {l : List S51} (h : Rw2 g cap l w) (hb : base ≤ g) (hc : cap ≤ maxLen) : Kd.R k51 51 w base (fun _ => True) (.slice (some ⟨g, 0, none⟩) l.length cap) l := by
  obtain ⟨cur, h1, h2, h3, h4⟩ := h
  have e2 : k51.sz = 2 := rfl
  have hlen : (cur.toList.take (l.length * 2)).length = l.length * 2 := by rw [List.length_take, show cur.toList.length = cap * 2 from h2]; omega
  refine ⟨fun _ _ => trivial, cur.toList.take (l.length * 2), ⟨hlen, .inr ⟨g, cap, cur, rfl, hb, h1, h3, hc, h2, rfl⟩⟩, hlen, fun j p hp => ?_⟩
  obtain ⟨hj, e⟩ := List.getElem?_eq_some_iff.1 hp
  have h5 := h4 j hj
  have e3 : l.getD j z51 = p := by simp [hj, e]
  rw [e3] at h5
  have e4 : ((cur.toList.take (l.length * 2)).drop (j * k51.sz)).take k51.sz = [.int .u64 p.f0, .int .u64 p.f1] := by
    rw [e2]
    apply List.ext_getElem?
    intro i
    rcases Nat.lt_or_ge i 2 with hi | hi
    · rw [List.getElem?_take_of_lt hi, List.getElem?_drop, List.getElem?_take_of_lt (by omega), Array.getElem?_toList]
      rcases (show i = 0 ∨ i = 1 by omega) with rfl | rfl
      · exact h5.1
      · exact h5.2
    · rw [List.getElem?_eq_none (by simp; omega), List.getElem?_eq_none (by simpa using hi)]
  rw [e4]
  exact k51_mkM _ _ _ p
/-- All counts, as they rise. -/
def cnts (l : List S51) : List Int := (l.map (·.f1)).mergeSort (fun a b => decide (a ≤ b))
/-- The count that is the greatest but K. -/
def cutC (K : Nat) (l : List S51) : Int := (cnts l).getD (l.length - 1 - K) 0
def subC (c : Int) (l : List S51) : List S51 := l.map fun x => ⟨x.f0, x.f1 - c⟩
/-- What Merge leaves of all items. -/
def cutL (K : Nat) (l : List S51) : List S51 := if l.length ≤ K then l else subC (cutC K l) (keepC (cutC K l) l)
theorem sorted_is {r : List Int} {l : List S51} (hp : r.Perm (l.map (·.f1))) (hs : r.Pairwise (· ≤ ·)) : r = cnts l := by
  refine List.Perm.eq_of_pairwise (le := fun a b : Int => a ≤ b) ?_ hs ?_ (hp.trans (List.mergeSort_perm _ _).symm)
  · intro a b _ _ h1 h2; omega
  · have := List.pairwise_mergeSort (le := fun a b : Int => decide (a ≤ b)) (fun a b c h1 h2 => by simp at *; omega) (fun a b => by simp; omega) (l.map (·.f1))
    exact this.imp (fun h => by simpa using h)
theorem subC_take {c : Int} {l m : List S51} {i : Nat} (hi : i < l.length) (hm : m.length = l.length) (ht : m.take i = (subC c l).take i) : (m.set i ⟨(l.getD i z51).f0, (l.getD i z51).f1 - c⟩).take (i + 1) = (subC c l).take (i + 1) := by
  rw [take_set (by omega), ht, List.take_succ_eq_append_getElem (by simpa [subC] using hi)]
  simp [subC, hi]
theorem Rw2.set1 {g cap i : Nat} {l : List S51} {w : World} (h : Rw2 g cap l w) (hi : i < l.length) (c : Int) : Rw2 g cap (l.set i ⟨(l.getD i z51).f0, c⟩) (w.setCell ⟨g, i * 2 + 1, none⟩ (.int .u64 c)) := by
  obtain ⟨cur, h1, h2, h3, h4⟩ := h
  refine ⟨_, setCell_block h1 _, by simpa using h2, by simpa using h3, fun t ht => ?_⟩
  rw [List.length_set] at ht
  by_cases e : i = t
  · subst e
    have eg : ∀ x : S51, (l.set i x).getD i z51 = x := fun x => by simp [hi]
    rw [eg]
    constructor
    · rw [Array.getElem?_setIfInBounds, if_neg (by omega)]; exact (h4 i hi).1
    · rw [Array.getElem?_setIfInBounds, if_pos rfl, if_pos (by omega)]
  · have eg : ∀ x : S51, (l.set i x).getD t z51 = l.getD t z51 := fun x => by simp [List.getElem?_set_ne e]
    rw [eg]
    constructor
    · rw [Array.getElem?_setIfInBounds, if_neg (by omega)]; exact (h4 t ht).1
    · rw [Array.getElem?_setIfInBounds, if_neg (by omega)]; exact (h4 t ht).2
theorem cutC_nonneg {K : Nat} {l : List S51} (h : ∀ s ∈ l, 0 ≤ s.f1) : 0 ≤ cutC K l := by
  unfold cutC
  rw [List.getD_eq_getElem?_getD]
  rcases hq : (cnts l)[l.length - 1 - K]? with _ | q
  · exact Int.le_refl _
  · have := List.mem_of_getElem? hq
    rw [cnts, List.mem_mergeSort, List.mem_map] at this
    obtain ⟨s, hs, rfl⟩ := this
    exact h s hs
theorem wf_rng {l : List S51} (h : Wf l) : ∀ s ∈ l, 0 ≤ s.f1 ∧ s.f1 < 18446744073709551616 := fun s hs => by
  have := (h s hs).2
  simp [Lit.wf, IntKind.min, IntKind.max, IntKind.signed, IntKind.bits] at this
  omega
end Go.Proofs.Ytohginlodlijkaa.PH
