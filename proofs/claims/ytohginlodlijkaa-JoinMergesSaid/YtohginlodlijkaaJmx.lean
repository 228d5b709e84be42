/- join.Merge. And more: see each part's head. -/
import Derived.Test.YtohginlodlijkaaJsx
import Derived.Test.YtohginlodlijkaaJdx
/-! join.Merge. -/
namespace Go.Proofs.Ytohginlodlijkaa.PH
open Go.RowKit Go.Maps Go.Proofs.YtohginlodlijkaaW.PrintWords Go.Proofs.YtohginlodlijkaaW.PrintLast Go.Proofs.YtohginlodlijkaaW.PrintMore
/-- A summary: the number of keys, the total, the items. -/
structure Sm where
  K : Int
  T : Int
  l : List S51
def zSm : Sm := ⟨0, 0, []⟩
/-- Some summaries, as their cells read. -/
def SX (w : World) (Al : Option Addr) (ls : List Sm) : Prop :=
  ∀ i, i < ls.length → ∃ ad, Al = some ad ∧ ∃ (A : Option Addr) (c : Nat), w.cell? (ad.add (i * 3)) = some (.int .i64 (ls.getD i zSm).K) ∧ w.cell? ⟨(ad.add (i * 3)).block, (ad.add (i * 3)).off + 1, none⟩ = some (.int .u64 (ls.getD i zSm).T) ∧ w.cell? ⟨(ad.add (i * 3)).block, (ad.add (i * 3)).off + 2, none⟩ = some (.slice A (ls.getD i zSm).l.length c) ∧
    ∀ j, j < (ls.getD i zSm).l.length → ∃ a2, A = some a2 ∧ w.cell? (a2.add (j * 2)) = some (.int .u64 ((ls.getD i zSm).l.getD j z51).f0) ∧ w.cell? ⟨(a2.add (j * 2)).block, (a2.add (j * 2)).off + 1, none⟩ = some (.int .u64 ((ls.getD i zSm).l.getD j z51).f1)
theorem SX.kept {w w' : World} {Al : Option Addr} {ls : List Sm} (h : SX w Al ls) (hk : KeepsCells w w') : SX w' Al ls := fun i hi => by
  obtain ⟨ad, rfl, A, c, h1, h2, h3, h4⟩ := h i hi
  exact ⟨ad, rfl, A, c, hk.cell h1, hk.cell h2, hk.cell h3, fun j hj => by obtain ⟨a2, rfl, h5, h6⟩ := h4 j hj; exact ⟨a2, rfl, hk.cell h5, hk.cell h6⟩⟩
theorem SX.sl {w : World} {Al : Option Addr} {ls : List Sm} (h : SX w Al ls) : SL w Al (ls.map (·.l)) := fun i hi => by
  rw [List.length_map] at hi
  obtain ⟨ad, rfl, A, c, h1, h2, h3, h4⟩ := h i hi
  have e : (ls.map (·.l)).getD i [] = (ls.getD i zSm).l := by simp [hi]
  rw [e]
  exact ⟨ad, rfl, _, _, A, c, h1, h2, h3, h4⟩
def sumT : List Sm → Int
  | [] => 0
  | s :: l => s.T + sumT l
theorem sumT_snoc (l : List Sm) (s : Sm) : sumT (l ++ [s]) = sumT l + s.T := by
  induction l with
  | nil => simp [sumT]
  | cons a l ih => simp only [List.cons_append, sumT, ih]; omega
theorem sumT_nonneg {l : List Sm} (h : ∀ s ∈ l, 0 ≤ s.T) : 0 ≤ sumT l := by
  induction l with
  | nil => simp [sumT]
  | cons a l ih => have h1 := h a (by simp); have h2 := ih (fun s hs => h s (by simp [hs])); simp only [sumT]; omega
/-- What stands between two rounds of the first loop. -/
structure M1 (w : World) (K0 tot : Int) (wr : World) : Prop where
  rb : wr.heap[w.heap.size]? = some (.cells #[.int .i64 0, .int .u64 0, .slice none 0 0] 33 (0, 0))
  ob : wr.heap[w.heap.size + 1]? = some (.cells #[.int .i64 K0, .int .u64 tot, .slice none 0 0] 33 (0, 0))
  bel : Below w.heap.size w wr
theorem M1.alloc {w wr : World} {K0 tot : Int} (h : M1 w K0 tot wr) (o : Obj) : M1 w K0 tot (wr.alloc o) := ⟨(Below.heap_alloc _ _ _ (Array.getElem?_eq_some_iff.1 h.rb).1).trans h.rb, (Below.heap_alloc _ _ _ (Array.getElem?_eq_some_iff.1 h.ob).1).trans h.ob, h.bel.alloc h.bel.size o⟩
/-- The cells of both boxes. -/
structure M1C (w : World) (K0 tot : Int) (W : World) : Prop where
  o0 : W.cell? ⟨w.heap.size + 1, 0, none⟩ = some (.int .i64 K0)
  o1 : W.cell? ⟨w.heap.size + 1, 1, none⟩ = some (.int .u64 tot)
  o2 : W.cell? ⟨w.heap.size + 1, 2, none⟩ = some (.slice none 0 0)
  f1 : W.frozen? ⟨w.heap.size + 1, 1, none⟩ = false
  f2 : W.frozen? ⟨w.heap.size + 1, 2, none⟩ = false
  r0 : W.cell? ⟨w.heap.size, 0, none⟩ = some (.int .i64 0)
  r1 : W.cell? ⟨w.heap.size, 1, none⟩ = some (.int .u64 0)
  r2 : W.cell? ⟨w.heap.size, 2, none⟩ = some (.slice none 0 0)
  g0 : W.frozen? ⟨w.heap.size, 0, none⟩ = false
  g1 : W.frozen? ⟨w.heap.size, 1, none⟩ = false
  g2 : W.frozen? ⟨w.heap.size, 2, none⟩ = false
theorem M1.cells {w W : World} {K0 tot : Int} (h : M1 w K0 tot W) : M1C w K0 tot W :=
  ⟨blk_cell h.ob 0, blk_cell h.ob 1, blk_cell h.ob 2, blk_frozen h.ob 1, blk_frozen h.ob 2, blk_cell h.rb 0, blk_cell h.rb 1, blk_cell h.rb 2, blk_frozen h.rb 0, blk_frozen h.rb 1, blk_frozen h.rb 2⟩
theorem M1.tot {w W : World} {K0 tot : Int} (h : M1 w K0 tot W) (t2 : Int) : M1 w K0 t2 (W.setCell ⟨w.heap.size + 1, 1, none⟩ (.int .u64 t2)) :=
  ⟨(Below.heap_setCell W ⟨w.heap.size + 1, 1, none⟩ _ _ (by show w.heap.size ≠ w.heap.size + 1; omega)).trans h.rb, blk_put (cs := #[.int .i64 K0, .int .u64 tot, .slice none 0 0]) h.ob 1 _ rfl, h.bel.setCell (by show w.heap.size ≤ w.heap.size + 1; omega) _⟩
set_option maxHeartbeats 8000000 in
set_option maxRecDepth 100000 in
theorem merge_none (w : World) : Calls Try.prog 16 #[.slice none 0 0] w fun e w' => e = .returned (.tuple #[.agg #[.int .i64 0, .int .u64 0, .slice none 0 0], .int .i64 1]) ∧ Below w.heap.size w w' := by
  have hB := Aside0.mk ((Below.refl _ w).alloc (Nat.le_refl _) (.cells #[.int .i64 0, .int .u64 0, .slice none 0 0] 33))
  have hn := World.alloc_heap_new w (.cells #[.int .i64 0, .int .u64 0, .slice none 0 0] 33)
  have HN := Aside0.mk hn
  clear hn
  go_enter Try.func16, Try.ntmps16
  go_wp2
  refine bodyPost_ret (results_ct rfl _ _ w.heap.size 33 #[.int .i64 0, .int .u64 0, .slice none 0 0] (0, 0) _ rfl HN.out Try.underlying33 rfl (by kernel_rfl)) rfl ?_
  exact ⟨rfl, hB.out⟩
theorem add0 (a : Addr) : a.add 0 = a := by unfold Addr.add; split <;> simp_all
theorem sumT_take {ls : List Sm} (h : ∀ s ∈ ls, 0 ≤ s.T) (i : Nat) : sumT (ls.take i) ≤ sumT ls := by
  have e : ∀ a b : List Sm, sumT (a ++ b) = sumT a + sumT b := fun a b => by
    induction a with
    | nil => simp [sumT]
    | cons x a ih => simp only [List.cons_append, sumT, ih]; omega
  have h1 := e (ls.take i) (ls.drop i)
  rw [List.take_append_drop] at h1
  have h2 := sumT_nonneg (l := ls.drop i) (fun s hs => h s (List.mem_of_mem_drop hs))
  omega
/-- The boxes of the result and of what is made, once it has its items. -/
structure M2 (w : World) (K0 tot : Int) (v : Value) (wr : World) : Prop where
  rb : wr.heap[w.heap.size]? = some (.cells #[.int .i64 0, .int .u64 0, .slice none 0 0] 33 (0, 0))
  ob : wr.heap[w.heap.size + 1]? = some (.cells #[.int .i64 K0, .int .u64 tot, v] 33 (0, 0))
  bel : Below w.heap.size w wr
structure M2C (w : World) (K0 tot : Int) (v : Value) (W : World) : Prop where
  o0 : W.cell? ⟨w.heap.size + 1, 0, none⟩ = some (.int .i64 K0)
  o1 : W.cell? ⟨w.heap.size + 1, 1, none⟩ = some (.int .u64 tot)
  o2 : W.cell? ⟨w.heap.size + 1, 2, none⟩ = some v
  f2 : W.frozen? ⟨w.heap.size + 1, 2, none⟩ = false
  r0 : W.cell? ⟨w.heap.size, 0, none⟩ = some (.int .i64 0)
  r1 : W.cell? ⟨w.heap.size, 1, none⟩ = some (.int .u64 0)
  r2 : W.cell? ⟨w.heap.size, 2, none⟩ = some (.slice none 0 0)
  g0 : W.frozen? ⟨w.heap.size, 0, none⟩ = false
  g1 : W.frozen? ⟨w.heap.size, 1, none⟩ = false
  g2 : W.frozen? ⟨w.heap.size, 2, none⟩ = false
theorem M2.cells {w W : World} {K0 tot : Int} {v : Value} (h : M2 w K0 tot v W) : M2C w K0 tot v W :=
  ⟨blk_cell h.ob 0, blk_cell h.ob 1, blk_cell h.ob 2, blk_frozen h.ob 2, blk_cell h.rb 0, blk_cell h.rb 1, blk_cell h.rb 2, blk_frozen h.rb 0, blk_frozen h.rb 1, blk_frozen h.rb 2⟩
theorem M1.m2 {w W : World} {K0 tot : Int} (h : M1 w K0 tot W) : M2 w K0 tot (.slice none 0 0) W := ⟨h.rb, h.ob, h.bel⟩
theorem M2.lt {w W : World} {K0 tot : Int} {v : Value} (h : M2 w K0 tot v W) : w.heap.size + 1 < W.heap.size := (Array.getElem?_eq_some_iff.1 h.ob).1
theorem M2.below {w W W' : World} {K0 tot : Int} {v : Value} (h : M2 w K0 tot v W) (hb : Below W.heap.size W W') : M2 w K0 tot v W' :=
  ⟨(hb.block _ (by have := h.lt; omega)).trans h.rb, (hb.block _ h.lt).trans h.ob, h.bel.trans (hb.mono (by have := h.lt; omega))⟩
theorem M2.kp {w W W' : World} {K0 tot : Int} {v : Value} {g : Nat} (h : M2 w K0 tot v W) (hb : So.Kp g W W') (hg : w.heap.size + 2 ≤ g) : M2 w K0 tot v W' :=
  ⟨(hb.rest _ (by have := h.lt; omega) (by omega)).trans h.rb, (hb.rest _ h.lt (by omega)).trans h.ob, h.bel.trans ⟨hb.os, hb.tape, hb.output, by have := hb.size; have := h.lt; omega, fun k hk => hb.rest k (by have := h.lt; omega) (by omega)⟩⟩
theorem M2.put {w W : World} {K0 tot : Int} {v : Value} (h : M2 w K0 tot v W) (v2 : Value) : M2 w K0 tot v2 (W.setCell ⟨w.heap.size + 1, 2, none⟩ v2) :=
  ⟨(Below.heap_setCell W ⟨w.heap.size + 1, 2, none⟩ _ _ (by show w.heap.size ≠ w.heap.size + 1; omega)).trans h.rb, blk_put (cs := #[.int .i64 K0, .int .u64 tot, v]) h.ob 2 _ rfl, h.bel.setCell (by show w.heap.size ≤ w.heap.size + 1; omega) _⟩
/-- The result box, once it is written. -/
theorem M2.res {w W : World} {K0 tot : Int} {v : Value} (h : M2 w K0 tot v W) : (((W.setCell ⟨w.heap.size, 0, none⟩ (.int .i64 K0)).setCell ⟨w.heap.size, 1, none⟩ (.int .u64 tot)).setCell ⟨w.heap.size, 2, none⟩ v).heap[w.heap.size]? = some (.cells #[.int .i64 K0, .int .u64 tot, v] 33 (0, 0)) ∧ Below w.heap.size w (((W.setCell ⟨w.heap.size, 0, none⟩ (.int .i64 K0)).setCell ⟨w.heap.size, 1, none⟩ (.int .u64 tot)).setCell ⟨w.heap.size, 2, none⟩ v) := by
  have h1 := blk_put h.rb 0 (.int .i64 K0) rfl
  have h2 := blk_put h1 1 (.int .u64 tot) rfl
  have h3 := blk_put h2 2 v rfl
  exact ⟨h3, ((h.bel.setCell (p := ⟨w.heap.size, 0, none⟩) (Nat.le_refl _) _).setCell (p := ⟨w.heap.size, 1, none⟩) (Nat.le_refl _) _).setCell (p := ⟨w.heap.size, 2, none⟩) (Nat.le_refl _) _⟩
theorem info27J : (Try.prog.info? 27).map (fun i => (i.zero, i.size, i.bytes)) = some (some (.int .u64 0), 1, 8) := by kernel_rfl
theorem R_low {w : World} {base : Nat} {v : Value} {l : List S51} (h : Kd.R k51 51 w base (fun _ => True) v l) {p : Addr} (hp : p.block < base) (u : Value) : Kd.R k51 51 (w.setCell p u) base (fun _ => True) v l := Kd.R_mono (Kd.R_far (Kd.R_bound h) (fun k hk => by have := hk.2.1; omega) u) (fun _ _ => trivial)
set_option maxHeartbeats 1000000 in
set_option maxRecDepth 100000 in
theorem merge_calls (Al : Option Addr) (cl : Nat) (ls : List Sm) (K0 : Int) (w : World) (hx : SX w Al ls) (hp : 0 < ls.length) (hlen : ls.length < 1000) (hT : ∀ s ∈ ls, s.K = K0 ∧ 0 ≤ s.T) (hS : sumT ls ≤ 4503599627370496) (hK : 0 ≤ K0)
    (hll : ∀ s ∈ ls, s.l.length < 1000) (hM : Mok (ls.flatMap (·.l))) (hk : (mergeL [] (ls.flatMap (·.l))).length < 50) :
    Calls Try.prog 16 #[.slice Al ls.length cl] w fun e w' => ∃ v, e = .returned (.tuple #[.agg #[.int .i64 K0, .int .u64 (sumT ls), v], .int .i64 0]) ∧ Kd.R k51 51 w' w.heap.size (fun _ => True) v (cutL K0.toNat (mergeL [] (ls.flatMap (·.l)))) ∧ Below w.heap.size w w' := by
  obtain ⟨ad, rfl, A0, c0, h1, h2, h3, h4⟩ := hx 0 hp
  rw [Nat.zero_mul, add0, (hT (ls.getD 0 zSm) (by simp [hp])).1] at h1
  have g1 : (w.alloc (.cells #[.int .i64 0, .int .u64 0, .slice none 0 0] 33)).cell? ad = some (.int .i64 K0) := (World.cell?_alloc_lt _ _ _ (World.block_lt_of_cell? w _ h1)).trans h1
  have hfl : (ls.flatMap (·.l)).length < 1000000 := by
    have : ∀ q : List Sm, (∀ s ∈ q, s.l.length < 1000) → (q.flatMap (·.l)).length ≤ q.length * 999 := fun q => by
      induction q with
      | nil => intro _; simp
      | cons a q ih => intro h; have h1 := h a (by simp); have h2 := ih (fun s hs => h s (by simp [hs])); rw [List.flatMap_cons, List.length_append, List.length_cons]; omega
    have := this ls hll
    omega
  have HSU := Aside0.mk (fun (W : World) (hW : KeepsCells w W) => sums_calls (some ad) cl (ls.map (·.l)) W ((hx.kept hW).sl) (by simpa using hlen) (by intro li hli; obtain ⟨s, hs, rfl⟩ := List.mem_map.1 hli; exact hll s hs) (by rw [← List.flatMap_def]; exact hfl) (by rw [← List.flatMap_def]; exact hM) (by rw [← List.flatMap_def]; exact hk))
  rw [← List.flatMap_def, List.length_map] at HSU
  have HWF := Aside0.mk (wf_rng hM.wf)
  clear hll hM hfl
  generalize mergeL [] (ls.flatMap (·.l)) = m at *
  have HX := Aside0.mk hx
  have HT := Aside0.mk hT
  have HST := Aside0.mk (sumT_take (fun s hs => (hT s hs).2))
  clear h4 hx hT h2 h3 h1
  have hne : ((ls.length : Int) == 0) = false := beq_eq_false_iff_ne.2 (by omega)
  go_enter Try.func16, Try.ntmps16
  go_wp2
  have hM0 : M1 w K0 0 ((w.alloc (.cells #[.int .i64 0, .int .u64 0, .slice none 0 0] 33)).alloc (.cells #[.int .i64 K0, .int .u64 0, .slice none 0 0] 33)) := by
    refine ⟨(Below.heap_alloc _ _ _ (by simp)).trans (World.alloc_heap_new w _), ?_, ((Below.refl _ w).alloc (Nat.le_refl _) _).alloc (by simp) _⟩
    have := World.alloc_heap_new (w.alloc (.cells #[.int .i64 0, .int .u64 0, .slice none 0 0] 33)) (.cells #[.int .i64 K0, .int .u64 0, .slice none 0 0] 33)
    rwa [World.size_alloc] at this
  go_loopw [5, 24] (fun v5 v24 wr => ∃ (i : Nat) (S : Int), v24 = .int .i64 i ∧ i ≤ ls.length ∧ S = sumT (ls.take i) ∧ 0 ≤ S ∧ v5 = .bool false ∧ M1 w K0 S wr) (fun _ v24 _ => ls.length - (intOf v24).toNat)
  case atStart => exact ⟨0, 0, rfl, Nat.zero_le _, rfl, Int.le_refl _, rfl, hM0⟩
  case round =>
    clear hM0 g1
    obtain ⟨i, S, rfl, hi, hSe, hS0, rfl, hM⟩ := hrel
    have hSm : S ≤ 4503599627370496 := by have := HST.out i; omega
    by_cases hlt : i < ls.length
    · obtain ⟨ad', e', A, c, h1, h2, h3, h4⟩ := (HX.out.kept (KeepsCells.of_below hM.bel)) i hlt
      obtain rfl : ad = ad' := by simpa using e'
      have hts := HT.out (ls.getD i zSm) (by simp [hlt])
      have hsn : sumT (ls.take (i + 1)) = S + (ls.getD i zSm).T := by rw [List.take_succ_eq_append_getElem hlt, sumT_snoc, ← hSe]; simp [hlt]
      have hsm : S + (ls.getD i zSm).T ≤ 4503599627370496 := by have := HST.out (i + 1); omega
      have HSn := Aside0.mk hsn
      have HM := Aside0.mk hM
      clear h4 hM hsn hSe
      generalize ls.getD i zSm = s at *
      obtain ⟨sK, sT, sl⟩ := s
      simp only [] at h1 h2 h3 hts HSn hsm
      obtain ⟨rfl, hts⟩ := hts
      obtain ⟨o0, o1, o2, f1, f2, r0, r1, r2, g0, g1, g2⟩ := (HM.out.alloc (.cells #[.int .i64 sK, .int .u64 sT, .slice A sl.length c] 33)).cells
      have hov : decide (4503599627370496 - S < sT) = false := by simp; omega
      have hmn : ¬ 4503599627370496 < S + sT := by omega
      go_wp2
      exact ⟨⟨i + 1, S + sT, by simp, by omega, HSn.out.symm, by omega, rfl, (HM.out.alloc _).tot _⟩, by simp [intOf]; omega⟩
    · obtain rfl : i = ls.length := by omega
      rw [List.take_length] at hSe
      subst hSe
      have HM := Aside0.mk hM.m2
      have HSU2 := Aside0.mk (HSU.out wr (KeepsCells.of_below hM.bel))
      clear hM HSU HX HT HST
      go_wp2_with (go_at_call 20; refine HSU2.out.mono ?_; rintro e w1 ⟨v, rfl, hr, hb⟩; obtain ⟨A, cap, rfl⟩ := Kd.R_slice hr; have HC1 := Aside0.mk (HM.out.below hb); have HR := Aside0.mk hr; have HB := Aside0.mk hb; clear hr hb; obtain ⟨o0, o1, o2, f2, r0, r1, r2, g0, g1, g2⟩ := HC1.out.cells)
      · have hle : (m.length : Int) ≤ K0 := by assumption
        have hres := (HC1.out.put (.slice A m.length cap)).res
        refine bodyPost_ret (results_ct rfl _ _ w.heap.size 33 #[.int .i64 K0, .int .u64 (sumT ls), .slice A m.length cap] (0, 0) _ rfl hres.1 Try.underlying33 rfl (by kernel_rfl)) rfl ?_
        refine ⟨_, rfl, ?_, hres.2⟩
        rw [cutL, if_pos (by omega)]
        have h2 := HM.out.lt
        exact Kd.R_lower (R_low (R_low (R_low (R_low HR.out (by show w.heap.size + 1 < _; omega) _) (by show w.heap.size < _; omega) _) (by show w.heap.size < _; omega) _) (by show w.heap.size < _; omega) _) (by omega)
      · have hgt : K0 < m.length := by omega
        obtain ⟨g, rfl, hg, hlc, hcap, hrw⟩ := rw2_of_R HR.out (by omega)
        have h2 := HM.out.lt
        have hgs : w.heap.size + 2 ≤ g := by omega
        have hM2 := HC1.out.put (.slice (some ⟨g, 0, none⟩) m.length cap)
        have hrw2 : Rw2 g cap m (w1.setCell ⟨w.heap.size + 1, 2, none⟩ (.slice (some ⟨g, 0, none⟩) m.length cap)) := hrw.kept (Below.heap_setCell _ _ _ _ (by show g ≠ w.heap.size + 1; omega))
        have hgl : g < w1.heap.size := hrw.lt
        generalize (w1.setCell ⟨w.heap.size + 1, 2, none⟩ (.slice (some ⟨g, 0, none⟩) m.length cap)) = W2 at *
        clear o0 o1 o2 f2 r0 r1 r2 g0 g1 g2 hrw hgl
        have HM2 := Aside0.mk hM2
        have HRW := Aside0.mk hrw2
        have HGL := Aside0.mk hrw2.lt
        clear HC1 HR HB HM HSU2 hM2 hrw2 h2 hg
        go_loopw [8, 66] (fun v8 v66 wr => ∃ i : Nat, v66 = .int .i64 i ∧ i ≤ m.length ∧ Kd.R (Kd.int .u64) 27 wr W2.heap.size (fun _ => True) v8 ((m.map (·.f1)).take i) ∧ Below W2.heap.size W2 wr) (fun _ v66 _ => m.length - (intOf v66).toNat)
        case atStart => exact ⟨0, rfl, Nat.zero_le _, Kd.R_nil _ _ _ _ _, Below.refl _ _⟩
        case round =>
          obtain ⟨i, rfl, hi, hv, hb⟩ := hrel
          by_cases hlt2 : i < m.length
          · have hrk := HRW.out.kept (hb.block g HGL.out)
            have c0 := hrk.c0 hlt2
            have c1 := hrk.c1 hlt2
            have htk : (m.map (·.f1)).take i ++ [(m.getD i z51).f1] = (m.map (·.f1)).take (i + 1) := by rw [List.take_succ_eq_append_getElem (by simpa using hlt2)]; simp [hlt2]
            have HTK := Aside0.mk htk
            have HN := Aside0.mk hb
            have HV := Aside0.mk hv
            have hs2 := hb.size
            clear hb hv htk hrk
            generalize m.getD i z51 = z at *
            have HNA := Aside0.mk (HN.out.alloc hs2 (.cells #[.int .u64 z.f0, .int .u64 z.f1] 51))
            have HVA := Aside0.mk (Kd.R_alloc HV.out (.cells #[.int .u64 z.f0, .int .u64 z.f1] 51))
            go_wp2_with (first
              | (at_builtin; refine Kd.R_append (Kd.int .u64) (w0 := W2) W2.heap.size rfl (.tmp 70) (.tmp 73) 69 27 (.int .u64 0) 8 rfl Try.underlying69 info27J rfl (by decide) (by omega) u8 ((m.map (·.f1)).take i) z.f1 [.int .u64 z.f1] (fun _ => True) (fun _ => False) (by first | (go_simp; done) | (go_simp; rfl)) (by first | (go_simp; done) | (go_simp; rfl)) rfl (fun _ hk => hk.elim) (fun _ _ => trivial) HVA.out HNA.out (by simp; omega) (by rw [List.length_take]; omega) ?_; intro v1 w3 hv1 hb3 _ _)
              | go_in)
            exact ⟨⟨i + 1, by simp, by omega, by rw [← HTK.out]; exact hv1, hb3⟩, by simp [intOf]; omega⟩
          · obtain rfl : i = m.length := by omega
            rw [List.take_of_length_le (by simp)] at hv
            obtain ⟨A3, cap3, rfl⟩ := Kd.R_slice hv
            have HSO := Aside0.mk (So.sort_calls A3 cap3 (m.map (·.f1)) W2 wr hb hv (by simpa using hk))
            simp only [List.length_map] at HSO
            clear hb hv
            go_wp2_with (first
              | (go_at_call 38; refine HSO.out.mono ?_; rintro e w3 ⟨rfl, r, hpm, hso, hR3, hB3⟩
                 obtain rfl := sorted_is hpm hso
                 have HM3 := Aside0.mk (HM2.out.below hB3)
                 have HRW3 := Aside0.mk (HRW.out.kept (hB3.block g HGL.out))
                 have hC := (Kd.R_reads' hR3).2.2
                 obtain ⟨ad3, hA3, hcx⟩ := Kd.at_int hC ((m.length : Int) - 1 - K0) (by omega) (by rw [hpm.length_eq, List.length_map]; omega)
                 cases hA3
                 have hct : rd (cnts m) ((m.length : Int) - 1 - K0) = cutC K0.toNat m := by unfold rd cutC; rw [show ((m.length : Int) - 1 - K0).toNat = m.length - 1 - K0.toNat by omega]
                 rw [hct] at hcx
                 obtain ⟨cut, hcut⟩ : ∃ cut, cut = cutC K0.toNat m := ⟨_, rfl⟩
                 rw [← hcut] at hcx
                 have HCUT := Aside0.mk hcut
                 have HB4 := Aside0.mk ((Below.refl w3.heap.size w3).alloc (Nat.le_refl _) (.cells #[.int .u64 cut] 27))
                 have HM4 := Aside0.mk (HM3.out.below HB4.out)
                 have HBX4 := Aside0.mk (show So.Bx w3.heap.size 27 (.int .u64 cut) (w3.alloc (.cells #[.int .u64 cut] 27)) from World.alloc_heap_new _ _)
                 have HRW4 := Aside0.mk (HRW3.out.alloc (.cells #[.int .u64 cut] 27))
                 have HD := Aside0.mk (delete_calls g cap cap w3.heap.size cut m _ HRW4.out HBX4.out (by have := HRW3.out.lt; omega) (by omega) hlc)
                 obtain ⟨o0, -, o2, -, -, -, -, -, -, -⟩ := HM3.out.cells
                 have o2' := HM4.out.cells.o2
                 clear hso hpm hR3 hB3 hC hct hcut)
              | (go_at_call 39; refine HD.out.mono ?_; rintro e w5 ⟨rfl, hRW5, hK5⟩
                 have HM5 := Aside0.mk (HM4.out.kp hK5 hgs)
                 have HRW5 := Aside0.mk hRW5
                 have HBX5 := Aside0.mk (show So.Bx w3.heap.size 27 (.int .u64 cut) w5 from (hK5.rest _ (Array.getElem?_eq_some_iff.1 HBX4.out).1 (by have := HRW3.out.lt; omega)).trans HBX4.out)
                 clear hRW5 hK5
                 obtain ⟨-, -, q2, p2, -, -, -, -, -, -⟩ := HM5.out.cells)
              | go_in)
            have hM6 := HM5.out.put (.slice (some ⟨g, 0, none⟩) (keepC cut m).length cap)
            have hRW6 : Rw2 g cap (keepC cut m) (w5.setCell ⟨w.heap.size + 1, 2, none⟩ (.slice (some ⟨g, 0, none⟩) (keepC cut m).length cap)) := HRW5.out.kept (Below.heap_setCell _ _ _ _ (by show g ≠ w.heap.size + 1; omega))
            have hBX6 : So.Bx w3.heap.size 27 (.int .u64 cut) (w5.setCell ⟨w.heap.size + 1, 2, none⟩ (.slice (some ⟨g, 0, none⟩) (keepC cut m).length cap)) := HBX5.out.other (by have := HM3.out.lt; omega)
            generalize (w5.setCell ⟨w.heap.size + 1, 2, none⟩ (.slice (some ⟨g, 0, none⟩) (keepC cut m).length cap)) = W6 at *
            have hgne : g ≠ w3.heap.size := by have := HRW3.out.lt; omega
            have hcb : w3.heap.size < W6.heap.size := (Array.getElem?_eq_some_iff.1 hBX6).1
            have hcut0 : 0 ≤ cut := by rw [HCUT.out]; exact cutC_nonneg (fun s hs => (HWF.out s hs).1)
            have hkw := Aside0.mk (fun x (hx : x ∈ keepC cut m) => (show cut < x.f1 ∧ x.f1 < 18446744073709551616 by
              have h1 := List.mem_filter.1 hx
              exact ⟨by simpa using h1.2, (HWF.out x h1.1).2⟩))
            have hkl : (keepC cut m).length ≤ m.length := List.length_filter_le _ _
            have HE := Aside0.mk (show cutL K0.toNat m = subC cut (keepC cut m) by rw [cutL, if_neg (by omega), HCUT.out])
            have HM6 := Aside0.mk hM6
            have HBX6 := Aside0.mk hBX6
            clear o0 o2 o2' q2 p2 hcx hM6 hBX6 HM5 HRW5 HBX5 HD HRW4 HBX4 HM4 HB4 HCUT HRW3 HM3 HSO HM2 HRW HGL HWF hlc
            generalize keepC cut m = q at *
            go_loopw [95] (fun v95 wr => ∃ (i : Nat) (mm : List S51), v95 = .int .i64 i ∧ i ≤ q.length ∧ mm.length = q.length ∧ mm.take i = (subC cut q).take i ∧ (∀ t, i ≤ t → mm.getD t z51 = q.getD t z51) ∧ Rw2 g cap mm wr ∧ So.Kp g W6 wr) (fun v95 _ => q.length - (intOf v95).toNat)
            case atStart => exact ⟨0, q, rfl, Nat.zero_le _, rfl, by simp, fun _ _ => rfl, hRW6, So.Kp.refl g W6⟩
            case round =>
              obtain ⟨i, mm, rfl, hi, hmm, hta, hts, hrm, hkp⟩ := hrel
              have HTA := Aside0.mk hta
              have HTS := Aside0.mk hts
              have HRM := Aside0.mk hrm
              have HKP := Aside0.mk hkp
              obtain ⟨o0, o1, o2, f2, r0, r1, r2, g0, g1, g2⟩ := (HM6.out.kp hkp hgs).cells
              have cc : wr.cell? ⟨w3.heap.size, 0, none⟩ = some (.int .u64 cut) := So.Bx.cell ((hkp.rest _ hcb (fun e => hgne e.symm)).trans HBX6.out)
              by_cases hlt3 : i < q.length
              · have c1 := hrm.c1 (t := i) (by omega)
                rw [hts i (Nat.le_refl _)] at c1
                have fr := hrm.frozen (i * 2 + 1)
                obtain ⟨hx1, hx2⟩ := hkw.out (q.getD i z51) (by simp [hlt3])
                have hst := Aside0.mk (hrm.set1 (i := i) (by omega) ((mm.getD i z51).f1 - cut))
                rw [hts i (Nat.le_refl _)] at hst
                have HTN := Aside0.mk (subC_take (c := cut) (m := mm) hlt3 hmm hta)
                clear hrm hta hts hkp r0 r1 r2 g0 g1 g2 o0 o1
                generalize q.getD i z51 = z at *
                have hwr : IntKind.u64.wrap (z.f1 - cut) = z.f1 - cut := by rw [IntKind.wrap_u64]; omega
                go_wp2
                go_region
                go_wp2
                exact ⟨⟨i + 1, _, by simp, by omega, by simpa using hmm, HTN.out, fun t h => by rw [← HTS.out t (by omega)]; simp [List.getElem?_set_ne (show i ≠ t by omega)], hst.out.kept rfl, (HKP.out.set (.inl rfl) _ _).drewN 1⟩, by simp [intOf]; omega⟩
              · obtain rfl : i = q.length := by omega
                rw [List.take_of_length_le (by omega), List.take_of_length_le (by simp [subC])] at hta
                have hM := HM6.out.kp hkp hgs
                have hres := hM.res
                have hgw := hM.lt
                clear hts hrm hkp
                go_wp2
                refine bodyPost_ret (results_ct rfl _ _ w.heap.size 33 #[.int .i64 K0, .int .u64 (sumT ls), .slice (some ⟨g, 0, none⟩) q.length cap] (0, 0) _ rfl hres.1 Try.underlying33 rfl (by kernel_rfl)) rfl ?_
                refine ⟨_, rfl, ?_, hres.2⟩
                rw [HE.out, ← hta, ← hmm]
                refine R_of_rw2 (HRM.out.kept ?_) (by omega) hcap
                have hne3 : g ≠ w.heap.size := by omega
                rw [Below.heap_setCell _ _ _ _ hne3, Below.heap_setCell _ _ _ _ hne3, Below.heap_setCell _ _ _ _ hne3]
end Go.Proofs.Ytohginlodlijkaa.PH

/-! join.Merge of summaries with unlike numbers of keys, or that are too much: an error, and nothing else. -/
namespace Go.Proofs.Ytohginlodlijkaa.PH
open Go.RowKit Go.Maps Go.Proofs.YtohginlodlijkaaW.PrintWords Go.Proofs.YtohginlodlijkaaW.PrintLast Go.Proofs.YtohginlodlijkaaW.PrintMore
theorem M1.zero {w W : World} {K0 tot : Int} (h : M1 w K0 tot W) : (((W.setCell ⟨w.heap.size, 0, none⟩ (.int .i64 0)).setCell ⟨w.heap.size, 1, none⟩ (.int .u64 0)).setCell ⟨w.heap.size, 2, none⟩ (.slice none 0 0)).heap[w.heap.size]? = some (.cells #[.int .i64 0, .int .u64 0, .slice none 0 0] 33 (0, 0)) ∧
    Below w.heap.size w (((W.setCell ⟨w.heap.size, 0, none⟩ (.int .i64 0)).setCell ⟨w.heap.size, 1, none⟩ (.int .u64 0)).setCell ⟨w.heap.size, 2, none⟩ (.slice none 0 0)) :=
  ⟨blk_put (cs := #[.int .i64 0, .int .u64 0, .slice none 0 0]) (blk_put (cs := #[.int .i64 0, .int .u64 0, .slice none 0 0]) (blk_put (cs := #[.int .i64 0, .int .u64 0, .slice none 0 0]) h.rb 0 _ rfl) 1 _ rfl) 2 _ rfl,
    ((h.bel.setCell (p := ⟨w.heap.size, 0, none⟩) (Nat.le_refl _) _).setCell (p := ⟨w.heap.size, 1, none⟩) (Nat.le_refl _) _).setCell (p := ⟨w.heap.size, 2, none⟩) (Nat.le_refl _) _⟩
set_option maxHeartbeats 1000000 in
set_option maxRecDepth 100000 in
theorem merge_bad (Al : Option Addr) (cl : Nat) (ls : List Sm) (K0 code : Int) (w : World) (hx : SX w Al ls) (hp : 0 < ls.length) (hlen : ls.length < 1000) (hK0 : (ls.getD 0 zSm).K = K0) (hT : ∀ s ∈ ls, 0 ≤ s.T ∧ s.T ≤ 4503599627370496)
    (hbad : (code = 9 ∧ ∃ s ∈ ls, s.K ≠ K0) ∨ (code = 5 ∧ (∀ s ∈ ls, s.K = K0) ∧ 4503599627370496 < sumT ls)) :
    Calls Try.prog 16 #[.slice Al ls.length cl] w fun e w' => e = .returned (.tuple #[.agg #[.int .i64 0, .int .u64 0, .slice none 0 0], .int .i64 code]) ∧ Below w.heap.size w w' := by
  obtain ⟨ad, rfl, A0, c0, h1, h2, h3, h4⟩ := hx 0 hp
  rw [Nat.zero_mul, add0, hK0] at h1
  have g1 : (w.alloc (.cells #[.int .i64 0, .int .u64 0, .slice none 0 0] 33)).cell? ad = some (.int .i64 K0) := (World.cell?_alloc_lt _ _ _ (World.block_lt_of_cell? w _ h1)).trans h1
  have HX := Aside0.mk hx
  have HT := Aside0.mk hT
  have HBAD := Aside0.mk hbad
  clear h4 hx hT h2 h3 h1 hK0 hbad
  have hne : ((ls.length : Int) == 0) = false := beq_eq_false_iff_ne.2 (by omega)
  go_enter Try.func16, Try.ntmps16
  go_wp2
  have hM0 : M1 w K0 0 ((w.alloc (.cells #[.int .i64 0, .int .u64 0, .slice none 0 0] 33)).alloc (.cells #[.int .i64 K0, .int .u64 0, .slice none 0 0] 33)) := by
    refine ⟨(Below.heap_alloc _ _ _ (by simp)).trans (World.alloc_heap_new w _), ?_, ((Below.refl _ w).alloc (Nat.le_refl _) _).alloc (by simp) _⟩
    have := World.alloc_heap_new (w.alloc (.cells #[.int .i64 0, .int .u64 0, .slice none 0 0] 33)) (.cells #[.int .i64 K0, .int .u64 0, .slice none 0 0] 33)
    rwa [World.size_alloc] at this
  go_loopw [5, 24] (fun v5 v24 wr => ∃ (i : Nat) (S : Int), v24 = .int .i64 i ∧ i ≤ ls.length ∧ (∀ s ∈ ls.take i, s.K = K0) ∧ sumT (ls.take i) = S ∧ 0 ≤ S ∧ ((v5 = .bool false ∧ S ≤ 4503599627370496 ∧ M1 w K0 S wr) ∨ (v5 = .bool true ∧ 4503599627370496 < S ∧ M1 w K0 4503599627370496 wr))) (fun _ v24 _ => ls.length - (intOf v24).toNat)
  case atStart => exact ⟨0, 0, rfl, Nat.zero_le _, by simp, rfl, Int.le_refl _, .inl ⟨rfl, by omega, hM0⟩⟩
  case round =>
    clear hM0 g1
    obtain ⟨i, S, rfl, hi, hKs, hSe, hS0, hst⟩ := hrel
    have hbelow : Below w.heap.size w wr := by rcases hst with h | h <;> exact h.2.2.bel
    by_cases hlt : i < ls.length
    · obtain ⟨ad', e', A, c, h1, h2, h3, h4⟩ := (HX.out.kept (KeepsCells.of_below hbelow)) i hlt
      obtain rfl : ad = ad' := by simpa using e'
      have hmem : ls.getD i zSm ∈ ls := by simp [hlt]
      have hts := HT.out (ls.getD i zSm) hmem
      have htk : ls.take (i + 1) = ls.take i ++ [ls.getD i zSm] := by rw [List.take_succ_eq_append_getElem hlt]; simp [hlt]
      have hsn : sumT (ls.take (i + 1)) = S + (ls.getD i zSm).T := by rw [htk, sumT_snoc, hSe]
      have hKn : (ls.getD i zSm).K = K0 → ∀ s ∈ ls.take (i + 1), s.K = K0 := fun e s hs => by
        rw [htk] at hs
        rcases List.mem_append.1 hs with hs | hs
        · exact hKs s hs
        · simp at hs; rw [hs]; simpa using e
      have HSn := Aside0.mk hsn
      have HKn := Aside0.mk hKn
      have HMem := Aside0.mk hmem
      clear h4 hsn hSe hKs hKn hmem htk
      generalize ls.getD i zSm = s at *
      obtain ⟨sK, sT, sl⟩ := s
      simp only [] at h1 h2 h3 hts HSn HKn HMem
      obtain ⟨ht0, ht1⟩ := hts
      rcases hst with ⟨rfl, hS1, hM⟩ | ⟨rfl, hS1, hM⟩
      · have HM := Aside0.mk hM
        clear hM
        obtain ⟨o0, o1, o2, f1, f2, r0, r1, r2, g0, g1, g2⟩ := (HM.out.alloc (.cells #[.int .i64 sK, .int .u64 sT, .slice A sl.length c] 33)).cells
        by_cases hk : sK = K0
        · subst hk
          by_cases hv : S + sT ≤ 4503599627370496
          · have hov : decide (4503599627370496 - S < sT) = false := by simp; omega
            have hmn : ¬ 4503599627370496 < S + sT := by omega
            go_wp2
            exact ⟨⟨i + 1, S + sT, by simp, by omega, HKn.out rfl, HSn.out, by omega, .inl ⟨rfl, by omega, (HM.out.alloc _).tot _⟩⟩, by simp [intOf]; omega⟩
          · have hov : decide (4503599627370496 - S < sT) = true := by simp; omega
            have hmn : 4503599627370496 < S + sT := by omega
            go_wp2
            exact ⟨⟨i + 1, S + sT, by simp, by omega, HKn.out rfl, HSn.out, by omega, .inr ⟨rfl, by omega, (HM.out.alloc _).tot _⟩⟩, by simp [intOf]; omega⟩
        · have hc : code = 9 := by
            rcases HBAD.out with h | h
            · exact h.1
            · exact absurd (h.2.1 _ HMem.out) hk
          subst hc
          go_wp2
          have hz := (HM.out.alloc (.cells #[.int .i64 sK, .int .u64 sT, .slice A sl.length c] 33)).zero
          refine bodyPost_ret (results_ct rfl _ _ w.heap.size 33 #[.int .i64 0, .int .u64 0, .slice none 0 0] (0, 0) _ rfl hz.1 Try.underlying33 rfl (by kernel_rfl)) rfl ?_
          exact ⟨rfl, hz.2⟩
      · have HM := Aside0.mk hM
        clear hM
        obtain ⟨o0, o1, o2, f1, f2, r0, r1, r2, g0, g1, g2⟩ := (HM.out.alloc (.cells #[.int .i64 sK, .int .u64 sT, .slice A sl.length c] 33)).cells
        by_cases hk : sK = K0
        · subst hk
          rcases Int.lt_or_eq_of_le ht0 with h0 | h0
          · have hmn : 4503599627370496 < 4503599627370496 + sT := by omega
            go_wp2
            exact ⟨⟨i + 1, S + sT, by simp, by omega, HKn.out rfl, HSn.out, by omega, .inr ⟨rfl, by omega, (HM.out.alloc _).tot _⟩⟩, by simp [intOf]; omega⟩
          · subst h0
            go_wp2
            exact ⟨⟨i + 1, S + 0, by simp, by omega, HKn.out rfl, HSn.out, by omega, .inr ⟨rfl, by omega, (HM.out.alloc _).tot _⟩⟩, by simp [intOf]; omega⟩
        · have hc : code = 9 := by
            rcases HBAD.out with h | h
            · exact h.1
            · exact absurd (h.2.1 _ HMem.out) hk
          subst hc
          go_wp2
          have hz := (HM.out.alloc (.cells #[.int .i64 sK, .int .u64 sT, .slice A sl.length c] 33)).zero
          refine bodyPost_ret (results_ct rfl _ _ w.heap.size 33 #[.int .i64 0, .int .u64 0, .slice none 0 0] (0, 0) _ rfl hz.1 Try.underlying33 rfl (by kernel_rfl)) rfl ?_
          exact ⟨rfl, hz.2⟩
    · obtain rfl : i = ls.length := by omega
      rw [List.take_length] at hSe hKs
      rcases hst with ⟨rfl, hS1, hM⟩ | ⟨rfl, hS1, hM⟩
      · exfalso
        rcases HBAD.out with ⟨_, s, hs, hne⟩ | ⟨_, _, h⟩
        · exact hne (hKs s hs)
        · omega
      · have hc : code = 5 := by
          rcases HBAD.out with ⟨_, s, hs, hne⟩ | h
          · exact absurd (hKs s hs) hne
          · exact h.1
        subst hc
        have HM := Aside0.mk hM
        obtain ⟨o0, o1, o2, f1, f2, r0, r1, r2, g0, g1, g2⟩ := hM.cells
        clear hM
        go_wp2
        have hz := HM.out.zero
        refine bodyPost_ret (results_ct rfl _ _ w.heap.size 33 #[.int .i64 0, .int .u64 0, .slice none 0 0] (0, 0) _ rfl hz.1 Try.underlying33 rfl (by kernel_rfl)) rfl ?_
        exact ⟨rfl, hz.2⟩
end Go.Proofs.Ytohginlodlijkaa.PH

/-! The contract of layer 18's awake: it tells true. -/
namespace Go.Proofs.Ytohginlodlijkaa.PH
open Go.RowKit Go.Proofs.YtohginlodlijkaaW.PrintWords Go.Proofs.YtohginlodlijkaaW.PrintLast Go.Proofs.YtohginlodlijkaaW.PrintMore
theorem add_at (g i : Nat) : (⟨g, 0, none⟩ : Addr).add i = ⟨g, i, none⟩ := by unfold Addr.add; simp; omega
theorem cell_at {W : World} {g : Nat} {cs : Array Value} {t : TypeId} (hg : W.heap[g]? = some (.cells cs t (0, 0))) (i : Nat) : W.cell? ⟨g, i, none⟩ = cs[i]? := by simp [World.cell?, hg]
/-- Some summaries in one block, each with items somewhere. -/
theorem SX.of_block {W : World} {g : Nat} {cs : Array Value} {ls : List Sm} (hg : W.heap[g]? = some (.cells cs 33 (0, 0))) (h : ∀ i, i < ls.length → ∃ A c, cs[i * 3]? = some (.int .i64 (ls.getD i zSm).K) ∧ cs[i * 3 + 1]? = some (.int .u64 (ls.getD i zSm).T) ∧ cs[i * 3 + 2]? = some (.slice A (ls.getD i zSm).l.length c) ∧ Kd.C k51 W A (ls.getD i zSm).l.length (ls.getD i zSm).l) : SX W (some ⟨g, 0, none⟩) ls := fun i hi => by
  obtain ⟨A, c, h0, h1, h2, hC⟩ := h i hi
  refine ⟨_, rfl, A, c, by rw [add_at]; exact (cell_at hg _).trans h0, ?_, ?_, fun j hj => ?_⟩
  · rw [add_at]; exact (cell_at hg (i * 3 + 1)).trans h1
  · rw [add_at]; exact (cell_at hg (i * 3 + 2)).trans h2
  · obtain ⟨a2, rfl, k0, k1⟩ := at_T51 hC (j : Int) (by omega) (by omega)
    have e : rd_T51 (ls.getD i zSm).l (j : Int) = (ls.getD i zSm).l.getD j z51 := by unfold rd_T51; rfl
    rw [e, Int.toNat_natCast] at k0 k1
    exact ⟨a2, rfl, k0, k1⟩
theorem C_two {W : World} {g : Nat} {a b c d : Int} (hg : W.heap[g]? = some (.cells #[.int .u64 a, .int .u64 b, .int .u64 c, .int .u64 d] 51 (0, 0))) : Kd.C k51 W (some ⟨g, 0, none⟩) 2 [⟨a, b⟩, ⟨c, d⟩] := by
  have hr : Rw2 g 2 [⟨a, b⟩, ⟨c, d⟩] W := ⟨_, hg, rfl, by simp, fun t ht => by
    simp only [List.length_cons, List.length_nil] at ht
    rcases (show t = 0 ∨ t = 1 by omega) with rfl | rfl
    · exact ⟨rfl, rfl⟩
    · exact ⟨rfl, rfl⟩⟩
  exact (Kd.R_reads' (R_of_rw2 (base := 0) hr (Nat.zero_le _) (by decide))).2.2
def awL : List Sm := [⟨2, 5, [⟨1, 3⟩, ⟨2, 2⟩]⟩, ⟨2, 5, [⟨1, 1⟩, ⟨3, 4⟩]⟩]
theorem aw_merge : mergeL [] (awL.flatMap (·.l)) = [⟨1, 4⟩, ⟨2, 2⟩, ⟨3, 4⟩] := by rfl
theorem aw_cut : cutL 2 (mergeL [] (awL.flatMap (·.l))) = [⟨1, 2⟩, ⟨3, 2⟩] := by
  have hc : cnts [⟨1, 4⟩, ⟨2, 2⟩, ⟨3, 4⟩] = [2, 4, 4] := (sorted_is (r := [2, 4, 4]) (by decide) (by decide)).symm
  have hcut : cutC 2 [⟨1, 4⟩, ⟨2, 2⟩, ⟨3, 4⟩] = 2 := by unfold cutC; rw [hc]; rfl
  rw [aw_merge, cutL, if_neg (by simp), hcut]
  rfl
theorem aw_mok : Mok (awL.flatMap (·.l)) := by
  have e : awL.flatMap (·.l) = [⟨1, 3⟩, ⟨2, 2⟩, ⟨1, 1⟩, ⟨3, 4⟩] := rfl
  rw [e]
  refine ⟨?_, ?_, by decide⟩ <;> (intro x hx; simp at hx; rcases hx with rfl | rfl | rfl | rfl <;> simp)
theorem aw_sx {W : World} {n : Nat} (h0 : W.heap[n]? = some (.cells #[.int .u64 1, .int .u64 3, .int .u64 2, .int .u64 2] 51 (0, 0))) (h2 : W.heap[n + 1 + 1]? = some (.cells #[.int .u64 1, .int .u64 1, .int .u64 3, .int .u64 4] 51 (0, 0))) {g : Nat}
    (h4 : W.heap[g]? = some (.cells #[.int .i64 2, .int .u64 5, .slice (some ⟨n, 0, none⟩) 2 2, .int .i64 2, .int .u64 5, .slice (some ⟨n + 1 + 1, 0, none⟩) 2 2] 33 (0, 0))) : SX W (some ⟨g, 0, none⟩) awL :=
  SX.of_block h4 (fun i hi => by
    have hi2 : i < 2 := hi
    rcases (show i = 0 ∨ i = 1 by omega) with rfl | rfl
    · exact ⟨_, 2, rfl, rfl, rfl, C_two h0⟩
    · exact ⟨_, 2, rfl, rfl, rfl, C_two h2⟩)
theorem aw_call {W : World} {n g : Nat} (h0 : W.heap[n]? = some (.cells #[.int .u64 1, .int .u64 3, .int .u64 2, .int .u64 2] 51 (0, 0))) (h2 : W.heap[n + 1 + 1]? = some (.cells #[.int .u64 1, .int .u64 1, .int .u64 3, .int .u64 4] 51 (0, 0)))
    (h4 : W.heap[g]? = some (.cells #[.int .i64 2, .int .u64 5, .slice (some ⟨n, 0, none⟩) 2 2, .int .i64 2, .int .u64 5, .slice (some ⟨n + 1 + 1, 0, none⟩) 2 2] 33 (0, 0))) :
    Calls Try.prog 16 #[.slice (some ⟨g, 0, none⟩) 2 2] W fun e w' => ∃ v, e = .returned (.tuple #[.agg #[.int .i64 2, .int .u64 10, v], .int .i64 0]) ∧ Kd.R k51 51 w' W.heap.size (fun _ => True) v [⟨1, 2⟩, ⟨3, 2⟩] ∧ Below W.heap.size W w' := by
  have := merge_calls (some ⟨g, 0, none⟩) 2 awL 2 W (aw_sx h0 h2 h4) (by simp [awL]) (by simp [awL]) (by simp [awL]) (by simp [awL, sumT]) (by decide) (by simp [awL]) aw_mok (by rw [aw_merge]; simp)
  rw [show (2 : Int).toNat = 2 from rfl, aw_cut] at this
  exact this
theorem aw_sums {W : World} {n g : Nat} (h0 : W.heap[n]? = some (.cells #[.int .u64 1, .int .u64 3, .int .u64 2, .int .u64 2] 51 (0, 0))) (h2 : W.heap[n + 1 + 1]? = some (.cells #[.int .u64 1, .int .u64 1, .int .u64 3, .int .u64 4] 51 (0, 0)))
    (h4 : W.heap[g]? = some (.cells #[.int .i64 2, .int .u64 5, .slice (some ⟨n, 0, none⟩) 2 2, .int .i64 2, .int .u64 5, .slice (some ⟨n + 1 + 1, 0, none⟩) 2 2] 33 (0, 0))) :
    Calls Try.prog 20 #[.slice (some ⟨g, 0, none⟩) 2 2] W fun e w' => ∃ v, e = .returned v ∧ (∃ A c, v = .slice A 3 c) ∧ Below W.heap.size W w' := by
  have := sums_calls (some ⟨g, 0, none⟩) 2 (awL.map (·.l)) W (aw_sx h0 h2 h4).sl (by simp [awL]) (by simp [awL]) (by simp [awL]) (by rw [← List.flatMap_def]; exact aw_mok) (by rw [← List.flatMap_def, aw_merge]; simp)
  refine this.mono ?_
  rintro e w' ⟨v, rfl, hR, hB⟩
  rw [← List.flatMap_def, aw_merge] at hR
  exact ⟨v, rfl, Kd.R_slice hR, hB⟩
/-- The five blocks that stand when Merge is called. -/
structure AwH (n : Nat) (W : World) : Prop where
  h0 : W.heap[n]? = some (.cells #[.int .u64 1, .int .u64 3, .int .u64 2, .int .u64 2] 51 (0, 0))
  h1 : W.heap[n + 1]? = some (.cells #[.int .i64 2, .int .u64 5, .slice (some ⟨n, 0, none⟩) 2 2] 33 (0, 0))
  h2 : W.heap[n + 1 + 1]? = some (.cells #[.int .u64 1, .int .u64 1, .int .u64 3, .int .u64 4] 51 (0, 0))
  h3 : W.heap[n + 1 + 1 + 1]? = some (.cells #[.int .i64 2, .int .u64 5, .slice (some ⟨n + 1 + 1, 0, none⟩) 2 2] 33 (0, 0))
theorem AwH.kept {n : Nat} {W W' : World} (h : AwH n W) (hs : n + 3 < W.heap.size) (hb : Below W.heap.size W W') : AwH n W' :=
  ⟨(hb.block _ (by omega)).trans h.h0, (hb.block _ (by omega)).trans h.h1, (hb.block _ (by omega)).trans h.h2, (hb.block _ (by omega)).trans h.h3⟩
theorem new_at {W : World} {o : Obj} {k : Nat} (h : k = W.heap.size) : (W.alloc o).heap[k]? = some o := h ▸ World.alloc_heap_new W o
theorem aw_five (w : World) : let W := ((((w.alloc (.cells #[.int .u64 1, .int .u64 3, .int .u64 2, .int .u64 2] 51)).alloc (.cells #[.int .i64 2, .int .u64 5, .slice (some ⟨w.heap.size, 0, none⟩) 2 2] 33)).alloc (.cells #[.int .u64 1, .int .u64 1, .int .u64 3, .int .u64 4] 51)).alloc (.cells #[.int .i64 2, .int .u64 5, .slice (some ⟨w.heap.size + 1 + 1, 0, none⟩) 2 2] 33)).alloc (.cells #[.int .i64 2, .int .u64 5, .slice (some ⟨w.heap.size, 0, none⟩) 2 2, .int .i64 2, .int .u64 5, .slice (some ⟨w.heap.size + 1 + 1, 0, none⟩) 2 2] 33)
    AwH w.heap.size W ∧ W.heap[w.heap.size + 1 + 1 + 1 + 1]? = some (.cells #[.int .i64 2, .int .u64 5, .slice (some ⟨w.heap.size, 0, none⟩) 2 2, .int .i64 2, .int .u64 5, .slice (some ⟨w.heap.size + 1 + 1, 0, none⟩) 2 2] 33 (0, 0)) ∧ Below w.heap.size w W ∧ W.heap.size = w.heap.size + 5 := by
  intro W
  have hz : W.heap.size = w.heap.size + 5 := by simp [W]
  refine ⟨⟨?_, ?_, ?_, ?_⟩, ?_, ?_, hz⟩
  · simp only [W]
    rw [Below.heap_alloc _ _ _ (by simp; try omega), Below.heap_alloc _ _ _ (by simp; try omega), Below.heap_alloc _ _ _ (by simp; try omega), Below.heap_alloc _ _ _ (by simp; try omega)]
    exact new_at rfl
  · simp only [W]
    rw [Below.heap_alloc _ _ _ (by simp; try omega), Below.heap_alloc _ _ _ (by simp; try omega), Below.heap_alloc _ _ _ (by simp; try omega)]
    exact new_at (by simp)
  · simp only [W]
    rw [Below.heap_alloc _ _ _ (by simp; try omega), Below.heap_alloc _ _ _ (by simp; try omega)]
    exact new_at (by simp)
  · simp only [W]
    rw [Below.heap_alloc _ _ _ (by simp; try omega)]
    exact new_at (by simp)
  · exact new_at (by simp)
  · exact (((((Below.refl _ w).alloc (by simp) _).alloc (by simp; try omega) _).alloc (by simp; try omega) _).alloc (by simp; try omega) _).alloc (by simp; try omega) _
theorem aw_after {n : Nat} {W w1 w2 : World} {A : Option Addr} {c : Nat} {l : List S51} {b3 o5 : Obj} (hH : AwH n W) (hz : n + 5 = W.heap.size) (hR : Kd.R k51 51 w1 W.heap.size (fun _ => True) (.slice A l.length c) l) (hb1 : Below W.heap.size W w1) (hb2 : Below (w1.alloc b3).heap.size (w1.alloc b3) w2) :
    AwH n (w2.alloc o5) ∧ (w2.alloc o5).heap[w1.heap.size]? = some b3 ∧ Kd.C k51 (w2.alloc o5) A l.length l ∧ Below W.heap.size W (w2.alloc o5) ∧ w1.heap.size < (w2.alloc o5).heap.size := by
  have k1 : Below w1.heap.size w1 (w1.alloc b3) := (Below.refl _ w1).alloc (Nat.le_refl _) _
  have hs2 := hb2.size
  rw [World.size_alloc] at hs2
  have k2 : Below (w1.alloc b3).heap.size (w1.alloc b3) (w2.alloc o5) := hb2.alloc hb2.size _
  have k3 : Below w1.heap.size w1 (w2.alloc o5) := k1.trans (k2.mono (by simp))
  have hs1 := hb1.size
  have k4 : Below W.heap.size W (w2.alloc o5) := hb1.trans (k3.mono hs1)
  refine ⟨hH.kept (by omega) k4, (k2.block _ (by simp)).trans (new_at rfl), Kd.C_below (Kd.R_reads' hR).2.2 k3, k4, by simp; omega⟩
set_option maxHeartbeats 4000000 in
set_option maxRecDepth 100000 in
theorem awake18_true (w : World) : Calls Try.prog 13 #[] w fun e w' => e = .returned (.bool true) ∧ Below w.heap.size w w' := by
  obtain ⟨hH, hA, hB, hz⟩ := aw_five w
  have HH := Aside0.mk hH
  have HA := Aside0.mk hA
  have HB := Aside0.mk hB
  have HZ := Aside0.mk hz.symm
  clear hH hA hB hz
  go_enter Try.func13, Try.ntmps13
  go_wp2_with (first
    | (go_at_call_of 16 (Value.slice none 0 0); refine (merge_none _).mono ?_; rintro e w2 ⟨rfl, hb2⟩
       obtain ⟨hH3, hX, hC, hB3, hs3⟩ := aw_after (o5 := .cells #[.int .i64 0, .int .u64 0, .slice none 0 0] 33) HH.out HZ.out HR.out HB1.out hb2
       have x0 := cell_at hX 0
       have x1 := cell_at hX 1
       have x2 := cell_at hX 2
       obtain ⟨ad, hA0, c00, c01⟩ := at_T51 hC 0 (by omega) (by decide)
       obtain ⟨ad', hA1, c10, c11⟩ := at_T51 hC 1 (by omega) (by decide)
       cases hA0
       cases hA1
       have hz2 : w.heap.size + 3 < (w2.alloc (.cells #[.int .i64 0, .int .u64 0, .slice none 0 0] 33)).heap.size := by have h1 := hB3.size; have h2 := HZ.out; omega
       have hal := (Below.refl _ (w2.alloc (.cells #[.int .i64 0, .int .u64 0, .slice none 0 0] 33))).alloc (Nat.le_refl _) (.cells #[.int .i64 2, .int .u64 5, .slice (some ⟨w.heap.size, 0, none⟩) 2 2, .int .i64 2, .int .u64 5, .slice (some ⟨w.heap.size + 1 + 1, 0, none⟩) 2 2] 33)
       have HS := Aside0.mk (aw_sums (hH3.kept hz2 hal).h0 (hH3.kept hz2 hal).h2 (new_at (k := w2.heap.size + 1) (by simp)))
       have HB3 := Aside0.mk (hB3.trans (hal.mono hB3.size))
       have a0 := cell_at hH3.h1 0
       have a1 := cell_at hH3.h1 1
       have a2 := cell_at hH3.h1 2
       have b0 := cell_at hH3.h3 0
       have b1 := cell_at hH3.h3 1
       have b2 := cell_at hH3.h3 2
       simp only [List.getElem?_toArray, List.getElem?_cons_zero, List.getElem?_cons_succ] at x0 x1 x2 a0 a1 a2 b0 b1 b2
       simp only [rd_T51, List.getD_cons_zero, List.getD_cons_succ, Int.toNat_zero, Int.toNat_one, Nat.zero_mul, Nat.one_mul, add0] at c00 c01 c10 c11
       rw [show ad.add 2 = ⟨ad.block, ad.off + 2, none⟩ from rfl] at c10 c11
       clear hX hC hB3 hH3 hb2 HB1 HR hal hz2)
    | (go_at_call 16; refine (aw_call HH.out.h0 HH.out.h2 HA.out).mono ?_; rintro e w1 ⟨v, rfl, hR, hb1⟩
       obtain ⟨A, c, rfl⟩ := Kd.R_slice hR
       have HR := Aside0.mk hR
       have HB1 := Aside0.mk hb1
       clear hR hb1)
    | (go_at_call 20; refine HS.out.mono ?_; rintro e w4 ⟨v, rfl, ⟨A4, c4, rfl⟩, hb4⟩; have HB4 := Aside0.mk hb4; clear hb4)
    | go_in)
  go_ret
  exact ⟨rfl, (HB.out.trans (HB3.out.mono HB.out.size)).trans (HB4.out.mono (HB.out.trans (HB3.out.mono HB.out.size)).size)⟩
end Go.Proofs.Ytohginlodlijkaa.PH
