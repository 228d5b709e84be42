/- The document: merged; whether two are the same (printed). -/
import Derived.Test.YtohginlodlijkaaPHg0
import Derived.Test.YtohginlodlijkaaPHx1
import Derived.Test.YtohginlodlijkaaPHx2
import Derived.Test.YtohginlodlijkaaPHg5
import Derived.Test.YtohginlodlijkaaPHg6
namespace Go.Proofs.Ytohginlodlijkaa.PH
open Go.RowKit Go.Proofs.YtohginlodlijkaaW.PrintWords Go.Proofs.YtohginlodlijkaaW.PrintLast Go.Proofs.YtohginlodlijkaaW.PrintMore
attribute [local go_sem] max2_int min2_int max_two min_two max_three min_three max_four min_four   -- for this text's walks alone
set_option linter.unusedVariables false
set_option linter.unusedSimpArgs false

attribute [local go_sem high] eqA51
/-! ### skylightref18_Merge: function 17 -/
def skylightref18_Merge.l0 : Nat → List (S30) → Int → Int → Int → Option (Int × Int × (List (S51)) × Int)
  | 0, _, _, _, _ => none
  | k + 1, x0, x5, x240000, x240001 => if x5 < (x0.length : Int) then (if 0 ≤ x5 then (if 0 < (x0.length : Int) then (if ((rd_T30 x0 x5).f0) = ((rd_T30 x0 0).f0) then (skylightref18_Merge.l0 k x0 (wrap64 (x5 + 1)) x240000 (mn (IntKind.u64.wrap (x240001 + ((rd_T30 x0 x5).f1))) 4503599627370497)) else (some (0, 0, ([] : List (S51)), 9))) else (none)) else (none)) else (if x240001 > 4503599627370496 then (some (0, 0, ([] : List (S51)), 5)) else ((skylightref18_Sums.f k x0).bind fun t243 => ((skylightref18_cut.f k t243 x240000).bind fun t246 => ((skylightref17_Less.f k t243 t246).bind fun t247 => (some (x240000, x240001, t247, 0))))))
def skylightref18_Merge.f (k : Nat) (l0 : List (S30)) : Option (Int × Int × (List (S51)) × Int) := if (l0.length : Int) = 0 then (some (0, 0, ([] : List (S51)), 1)) else (if 0 < (l0.length : Int) then (skylightref18_Merge.l0 k l0 0 ((rd_T30 l0 0).f0) 0) else (none))
theorem skylightref18_Merge.mono_l : ∀ k, (∀ y0 y1 y2 y3, LeO (skylightref18_Merge.l0 k y0 y1 y2 y3) (skylightref18_Merge.l0 (k + 1) y0 y1 y2 y3))
  | 0 => fun _ _ _ _ r h => by simp [skylightref18_Merge.l0] at h
  | k + 1 => by
    have ih0 := skylightref18_Merge.mono_l k
    · intro y0 y1 y2 y3
      unfold skylightref18_Merge.l0
      repeat' first
      | (with_reducible exact ih0 _ _ _ _)
      | (with_reducible exact skylightref17_Less.mono _ _ _)
      | (with_reducible exact skylightref18_Sums.mono _ _)
      | (with_reducible exact skylightref18_cut.mono _ _ _)
      | (with_reducible exact LeO.refl _)
      | (with_reducible exact LeO.none _)
      | (with_reducible refine LeO.ite ?_ ?_)
      | (with_reducible refine LeO.bind ?_ (fun _ => ?_))
      | exact ih0 _ _ _ _
      | exact skylightref17_Less.mono _ _ _
      | exact skylightref18_Sums.mono _ _
      | exact skylightref18_cut.mono _ _ _
      | exact LeO.none _
      | refine LeO.ite ?_ ?_
      | refine LeO.bind ?_ (fun _ => ?_)
theorem skylightref18_Merge.mono : ∀ a0 k, LeO (skylightref18_Merge.f k a0) (skylightref18_Merge.f (k + 1) a0) := by
  intro a0 k
  have ih0 := skylightref18_Merge.mono_l k
  unfold skylightref18_Merge.f
  repeat' first
      | (with_reducible exact ih0 _ _ _ _)
      | (with_reducible exact skylightref17_Less.mono _ _ _)
      | (with_reducible exact skylightref18_Sums.mono _ _)
      | (with_reducible exact skylightref18_cut.mono _ _ _)
      | (with_reducible exact LeO.refl _)
      | (with_reducible exact LeO.none _)
      | (with_reducible refine LeO.ite ?_ ?_)
      | (with_reducible refine LeO.bind ?_ (fun _ => ?_))
      | exact ih0 _ _ _ _
      | exact skylightref17_Less.mono _ _ _
      | exact skylightref18_Sums.mono _ _
      | exact skylightref18_cut.mono _ _ _
      | exact LeO.none _
      | refine LeO.ite ?_ ?_
      | refine LeO.bind ?_ (fun _ => ?_)
def skylightref18_Merge.T7 : Bool × List (List Nat × List Nat) := (true, [([], []), ([], []), ([0, 1], [0, 1]), ([2], [2]), ([3], [3]), ([], []), ([5], [5]), ([6], [6]), ([7], [7]), ([4, 8], [4, 8])])
def skylightref18_Merge.B7 : List Nat := [0, 0, 3, 7, 15, 0, 32, 96, 224, 511]
theorem skylightref18_Merge.tab7 : rtab .any (opsOf Try.f17 7) = skylightref18_Merge.T7 := by kernel_rfl
theorem skylightref18_Merge.bits7 : waitsOk skylightref18_Merge.T7.2 skylightref18_Merge.B7 = true := by kernel_rfl
def skylightref18_Merge.T9 : Bool × List (List Nat × List Nat) := (true, [([], []), ([0], [0]), ([], []), ([], []), ([2, 3], [2, 3]), ([4], [4]), ([5], [5]), ([1, 6], [1, 6]), ([7], [7]), ([0, 1, 2, 3, 4, 5, 6, 7, 8], []), ([9, 8, 0, 1, 2, 3, 4, 5, 6, 7, 8], [8, 9])])
def skylightref18_Merge.B9 : List Nat := [0, 1, 0, 0, 12, 28, 60, 127, 255, 511, 1023]
theorem skylightref18_Merge.tab9 : rtab .any (opsOf Try.f17 9) = skylightref18_Merge.T9 := by kernel_rfl
theorem skylightref18_Merge.bits9 : waitsOk skylightref18_Merge.T9.2 skylightref18_Merge.B9 = true := by kernel_rfl
set_option maxHeartbeats 8000000 in
set_option maxRecDepth 100000 in
theorem skylightref18_Merge.calls (k : Nat) (A0 : Option Addr) (c0 : Nat) (l0 : List (S30)) (r1 : Int) (r2 : Int) (r3 : List (S51)) (r4 : Int) (w : World) (hr0 : Kd.C k30 w A0 l0.length l0) (hc0 : l0.length ≤ c0) (h : skylightref18_Merge.f k l0 = some (r1, r2, r3, r4)) :
    Calls Try.prog 17 #[.slice A0 l0.length c0] w fun e w' => ∃ v2_ : Value, e = .returned (.tuple #[.agg #[.int .i64 r1, .int .u64 r2, v2_], .int .i64 r4]) ∧ Kd.R k51 51 w' w.heap.size (fun _ => True) v2_ r3 ∧ Below w.heap.size w w' := by
  have hu30 := Try.underlying30
  have HR0 := Aside0.mk hr0
  have HC0 := Aside0.mk hc0
  clear hr0 hc0
  have HB := Aside0.mk (Below.refl w.heap.size w)
  have H : (if (l0.length : Int) = 0 then (some (0, 0, ([] : List (S51)), 1)) else (if 0 < (l0.length : Int) then (skylightref18_Merge.l0 k l0 0 ((rd_T30 l0 0).f0) 0) else (none))) = some (r1, r2, r3, r4) := h
  clear h
  by_cases c2 : (l0.length : Int) = 0
  · rw [if_pos c2] at H
    have c2b0 : ((l0.length : Int) == 0) = true := beq_iff_eq.mpr c2
    have c2b1 : ((l0.length : Int) != 0) = false := bne_eq_false_iff_eq.mpr c2
    clear c2
    simp only [Option.some.injEq, Prod.mk.injEq] at H
    obtain ⟨rfl, rfl, rfl, rfl⟩ := H
    go_enter Try.func17, Try.ntmps17
    go_wp2_with (first | ((with_reducible refine gate_dst (N := 2) rfl ?_); refine box_event ?hg (N := 2) ?hd (cs := #[.int .i64 0, .int .u64 0, .slice none 0 0]) (t := 30) ?hr ?_; (case hd => rfl); (case hg => rfl); (case hr => first | (go_simp; done) | (go_simp; rfl)); intro gb237 hg w3 hbox hb; have n0_ := Aside0.mk (below_step (by repeat (first | (with_reducible first | exact HB.out | apply below_alloc | apply pw_below_drewN | apply below_drew1) | exact HB.out)) hb); have n1_ := Aside0.mk (hbox); have n2_ := Aside0.mk ((by rw [hg]; exact (below_size (by repeat (first | (with_reducible first | exact HB.out | apply below_alloc | apply pw_below_drewN | apply below_drew1) | exact HB.out))) : w.heap.size ≤ gb237)); have n3_ := Aside0.mk ((by rw [hg]; exact (below_size (by repeat (first | (with_reducible first | exact HB.out | apply below_alloc | apply pw_below_drewN | apply below_drew1) | exact HB.out))) : w.heap.size ≤ gb237)); clear HB; have HB := n0_; have BK237 := n1_; have GW237 := n2_; have GE237 := n3_; clear n0_ n1_ n2_ n3_; clear hb hbox hg; have hcz4_0 : w3.cell? ⟨gb237, 0, none⟩ = some (.int .i64 0) := (blk_cell BK237.out 0).trans rfl; have hcz4_1 : w3.cell? ⟨gb237, 1, none⟩ = some (.int .u64 0) := (blk_cell BK237.out 1).trans rfl; have hcz4_2 : w3.cell? ⟨gb237, 2, none⟩ = some (.slice none 0 0) := (blk_cell BK237.out 2).trans rfl; have hfz4_0 := blk_frozen BK237.out 0; have hfz4_1 := blk_frozen BK237.out 1; have hfz4_2 := blk_frozen BK237.out 2))
    refine bodyPost_ret (results_ct rfl _ _ gb237 30 #[.int .i64 0, .int .u64 0, .slice none 0 0] (0, 0) _ rfl (by (with_reducible repeat (first | refine blk_drewN ?_ _ | refine blk_drew ?_ | refine blk_alloc ?_ _)); refine blk_put (cs := #[.int .i64 0, .int .u64 0, .slice none 0 0]) ?_ 2 _ rfl; (with_reducible repeat (first | refine blk_drewN ?_ _ | refine blk_drew ?_ | refine blk_alloc ?_ _)); refine blk_put (cs := #[.int .i64 0, .int .u64 0, .slice none 0 0]) ?_ 1 _ rfl; (with_reducible repeat (first | refine blk_drewN ?_ _ | refine blk_drew ?_ | refine blk_alloc ?_ _)); refine blk_put (cs := #[.int .i64 0, .int .u64 0, .slice none 0 0]) ?_ 0 _ rfl; (with_reducible repeat (first | refine blk_drewN ?_ _ | refine blk_drew ?_ | refine blk_alloc ?_ _)); exact BK237.out) Try.underlying30 rfl (by kernel_rfl)) rfl ?_
    exact ⟨_, by first | rfl | (simp [errW_none, errW_some] <;> rfl) | (simp [*, errW_none, errW_some] <;> rfl), by first | exact Kd.R_nil _ _ _ _ _ | exact Kd.N_nil _ _ _ _ _ | exact Kd.V_nil _ _ _ _ _ | exact Kd.Q_nil _ _ _ _ _ | exact Kd.S_nil _ _ _ _ _, by repeat (first | (with_reducible first | exact HB.out | apply below_alloc | apply pw_below_drewN | apply below_drew1 | refine below_set ?_ GE237.out) | exact HB.out)⟩
  · rw [if_neg c2] at H
    have c2b0 : ((l0.length : Int) == 0) = false := beq_eq_false_iff_ne.mpr c2
    have c2b1 : ((l0.length : Int) != 0) = true := bne_iff_ne.mpr c2
    have c2b2 : ¬ (l0 = []) := fun h_ => c2 (by rw [h_]; rfl)
    by_cases c5 : 0 < (l0.length : Int)
    · rw [if_pos c5] at H
      have c5b0 : decide (0 < (l0.length : Int)) = true := decide_eq_true c5
      have c5b1 : decide (0 < l0.length) = true := decide_eq_true (by omega)
      clear c5
      have H' := Aside0.mk H
      clear H
      go_enter Try.func17, Try.ntmps17
      go_wp2_with (first | ((with_reducible refine gate_dst (N := 2) rfl ?_); refine box_event ?hg (N := 2) ?hd (cs := #[.int .i64 0, .int .u64 0, .slice none 0 0]) (t := 30) ?hr ?_; (case hd => rfl); (case hg => rfl); (case hr => first | (go_simp; done) | (go_simp; rfl)); intro gb237 hg w6 hbox hb; have n0_ := Aside0.mk (below_step (by repeat (first | (with_reducible first | exact HB.out | apply below_alloc | apply pw_below_drewN | apply below_drew1) | exact HB.out)) hb); have n1_ := Aside0.mk (hbox); have n2_ := Aside0.mk ((by rw [hg]; exact (below_size (by repeat (first | (with_reducible first | exact HB.out | apply below_alloc | apply pw_below_drewN | apply below_drew1) | exact HB.out))) : w.heap.size ≤ gb237)); have n3_ := Aside0.mk ((by rw [hg]; exact (below_size (by repeat (first | (with_reducible first | exact HB.out | apply below_alloc | apply pw_below_drewN | apply below_drew1) | exact HB.out))) : w.heap.size ≤ gb237)); clear HB; have HB := n0_; have BK237 := n1_; have GW237 := n2_; have GE237 := n3_; clear n0_ n1_ n2_ n3_; clear hb hbox hg; have p238 : 0 ≤ (0 : Int) := (by omega); have q238 : 0 < (l0.length : Int) := of_decide_eq_true (by first | (with_reducible assumption) | assumption); obtain ⟨ad238, A238_2, c238_2, e238, hx238_0, hx238_1, hx238_2, hl238_2, hi238_2⟩ := at_T30 HR0.out 0 p238 q238; cases e238; have qi238 : (0 < l0.length) = True := eq_true (by omega); (try rw [show ((0 : Int)).toNat = 0 from rfl] at hx238_0); (try rw [show 0 * 3 = 0 from rfl] at hx238_0); (try rw [Addr.add_zero'] at hx238_0); (try rw [show ((0 : Int)).toNat = 0 from rfl] at hx238_1); (try rw [show 0 * 3 = 0 from rfl] at hx238_1); (try rw [Addr.add_zero'] at hx238_1); (try rw [show ((0 : Int)).toNat = 0 from rfl] at hx238_2); (try rw [show 0 * 3 = 0 from rfl] at hx238_2); (try rw [Addr.add_zero'] at hx238_2); replace hx238_0 := (HB.out.cell (World.block_lt_of_cell? w _ hx238_0)).trans hx238_0; replace hx238_1 := (HB.out.cell (World.block_lt_of_cell? w _ hx238_1)).trans hx238_1; replace hx238_2 := (HB.out.cell (World.block_lt_of_cell? w _ hx238_2)).trans hx238_2; have HR238_2 := Aside0.mk hi238_2; have HC238_2 := Aside0.mk hl238_2; clear hi238_2 hl238_2; replace p238 := eq_true p238; replace q238 := eq_true q238) | ((with_reducible refine gate_dst (N := 4) rfl ?_); refine box_event ?hg (N := 4) ?hd (cs := #[.int .i64 0, .int .u64 0, .slice none 0 0]) (t := 30) ?hr ?_; (case hd => rfl); (case hg => rfl); (case hr => first | (go_simp; done) | (go_simp; rfl)); intro gb239 hg w7 hbox hb; have n0_ := Aside0.mk (blk_below (g := gb237) (o := .cells #[.int .i64 0, .int .u64 0, .slice none 0 0] 30 (0, 0)) (by (with_reducible repeat (first | refine blk_drewN ?_ _ | refine blk_drew ?_ | refine blk_alloc ?_ _)); exact BK237.out) hb); have n1_ := Aside0.mk (below_step (by repeat (first | (with_reducible first | exact HB.out | apply below_alloc | apply pw_below_drewN | apply below_drew1 | refine below_set ?_ GE237.out) | exact HB.out)) hb); have n2_ := Aside0.mk (hbox); have n3_ := Aside0.mk ((by rw [hg]; exact (below_size (by repeat (first | (with_reducible first | exact HB.out | apply below_alloc | apply pw_below_drewN | apply below_drew1 | refine below_set ?_ GE237.out) | exact HB.out))) : w.heap.size ≤ gb239)); have n4_ := Aside0.mk ((by rw [hg]; exact (below_size (by repeat (first | (with_reducible first | exact HB.out | apply below_alloc | apply pw_below_drewN | apply below_drew1 | refine below_set ?_ GE237.out) | exact HB.out))) : w.heap.size ≤ gb239)); have n5_ := Aside0.mk ((by rw [hg]; exact Nat.ne_of_lt (blk_lt (g := gb237) (o := .cells #[.int .i64 0, .int .u64 0, .slice none 0 0] 30 (0, 0)) (by (with_reducible repeat (first | refine blk_drewN ?_ _ | refine blk_drew ?_ | refine blk_alloc ?_ _)); exact BK237.out)) : gb237 ≠ gb239)); have n6_ := Aside0.mk ((by rw [hg]; exact Nat.ne_of_gt (blk_lt (g := gb237) (o := .cells #[.int .i64 0, .int .u64 0, .slice none 0 0] 30 (0, 0)) (by (with_reducible repeat (first | refine blk_drewN ?_ _ | refine blk_drew ?_ | refine blk_alloc ?_ _)); exact BK237.out)) : gb239 ≠ gb237)); clear BK237; clear HB; have BK237 := n0_; have HB := n1_; have BK239 := n2_; have GW239 := n3_; have GE239 := n4_; have NB237_239 := n5_; have NB239_237 := n6_; clear n0_ n1_ n2_ n3_ n4_ n5_ n6_; clear hb hbox hg; have hnb8 := NB239_237.out; have hnc8 := NB237_239.out; have hcz9_0 : w7.cell? ⟨gb239, 0, none⟩ = some (.int .i64 0) := (blk_cell BK239.out 0).trans rfl; have hcz9_1 : w7.cell? ⟨gb239, 1, none⟩ = some (.int .u64 0) := (blk_cell BK239.out 1).trans rfl; have hcz9_2 : w7.cell? ⟨gb239, 2, none⟩ = some (.slice none 0 0) := (blk_cell BK239.out 2).trans rfl; have hfz9_0 := blk_frozen BK239.out 0; have hfz9_1 := blk_frozen BK239.out 1; have hfz9_2 := blk_frozen BK239.out 2))
      go_loopg [5] k (fun kq v5 w' => ∃ (x5_1 : Int) (x238000_1 : Int) (x238001_1 : Int) (x240001_1 : Int), v5 = .int .i64 x5_1 ∧ Aside0 (skylightref18_Merge.l0 kq l0 x5_1 ((rd_T30 l0 0).f0) x240001_1 = some (r1, r2, r3, r4)) ∧ Aside0 (kq ≤ k) ∧ Aside0 (w'.heap[gb237]? = some (.cells #[.int .i64 x238000_1, .int .u64 x238001_1, (.slice none 0 0)] 30 (0, 0))) ∧ Aside0 (w'.heap[gb239]? = some (.cells #[.int .i64 ((rd_T30 l0 0).f0), .int .u64 x240001_1, (.slice none 0 0)] 30 (0, 0))) ∧ Aside0 (Below w.heap.size w w'))
      case atStart => exact ⟨(0), (0), (0), (0), (by first | rfl | (simp; done) | (simp [*]; done)), H', ⟨Nat.le_refl _⟩, ⟨by (with_reducible repeat (first | refine blk_drewN ?_ _ | refine blk_drew ?_ | refine blk_alloc ?_ _)); refine blk_far ?_ NB237_239.out _; (with_reducible repeat (first | refine blk_drewN ?_ _ | refine blk_drew ?_ | refine blk_alloc ?_ _)); refine blk_far ?_ NB237_239.out _; (with_reducible repeat (first | refine blk_drewN ?_ _ | refine blk_drew ?_ | refine blk_alloc ?_ _)); refine blk_far ?_ NB237_239.out _; (with_reducible repeat (first | refine blk_drewN ?_ _ | refine blk_drew ?_ | refine blk_alloc ?_ _)); exact BK237.out⟩, ⟨by (with_reducible repeat (first | refine blk_drewN ?_ _ | refine blk_drew ?_ | refine blk_alloc ?_ _)); refine blk_put (cs := #[.int .i64 ((rd_T30 l0 0).f0), .int .u64 0, .slice none 0 0]) ?_ 2 _ rfl; (with_reducible repeat (first | refine blk_drewN ?_ _ | refine blk_drew ?_ | refine blk_alloc ?_ _)); refine blk_put (cs := #[.int .i64 ((rd_T30 l0 0).f0), .int .u64 0, .slice none 0 0]) ?_ 1 _ rfl; (with_reducible repeat (first | refine blk_drewN ?_ _ | refine blk_drew ?_ | refine blk_alloc ?_ _)); refine blk_put (cs := #[.int .i64 0, .int .u64 0, .slice none 0 0]) ?_ 0 _ rfl; (with_reducible repeat (first | refine blk_drewN ?_ _ | refine blk_drew ?_ | refine blk_alloc ?_ _)); exact BK239.out⟩, ⟨by repeat (first | (with_reducible first | exact HB.out | apply below_alloc | apply pw_below_drewN | apply below_drew1 | refine below_set ?_ GE237.out | refine below_set ?_ GE239.out) | exact HB.out)⟩⟩
      case round =>
        clear H'
        try clear c1
        try clear c2
        try clear c2b0
        try clear c2b1
        try clear c2b2
        try clear p2
        try clear q2
        try clear hx2
        try clear qi2
        try clear c5
        try clear c5b0
        try clear c5b1
        try clear c8
        try clear hcz4_0
        try clear hcz4_1
        try clear hcz4_2
        try clear hcz9_0
        try clear hcz9_1
        try clear hcz9_2
        try clear hfz4_0
        try clear hfz4_1
        try clear hfz4_2
        try clear hfz9_0
        try clear hfz9_1
        try clear hfz9_2
        try clear hx238_0
        try clear hx238_1
        try clear hx238_2
        try clear p238
        try clear q238
        obtain ⟨x5_1, x238000_1, x238001_1, x240001_1, rfl, HA, HK1, BK237, BK239, HB⟩ := hrel
        cases gk with
        | zero => exact absurd HA.out (by simp [skylightref18_Merge.l0])
        | succ k1 =>
          have H := HA.out
          clear HA
          simp only [skylightref18_Merge.l0] at H
          by_cases c10 : x5_1 < (l0.length : Int)
          · rw [if_pos c10] at H
            have c10b0 : decide (x5_1 < (l0.length : Int)) = true := decide_eq_true c10
            clear c10
            by_cases c11 : 0 ≤ x5_1
            · rw [if_pos c11] at H
              have c11b0 : decide (0 ≤ x5_1) = true := decide_eq_true c11
              clear c11
              by_cases c12 : 0 < (l0.length : Int)
              · rw [if_pos c12] at H
                have c12b0 : decide (0 < (l0.length : Int)) = true := decide_eq_true c12
                have c12b1 : decide (0 < l0.length) = true := decide_eq_true (by omega)
                clear c12
                by_cases c13 : ((rd_T30 l0 x5_1).f0) = ((rd_T30 l0 0).f0)
                · rw [if_pos c13] at H
                  have c13b0 : (((rd_T30 l0 x5_1).f0) == ((rd_T30 l0 0).f0)) = true := beq_iff_eq.mpr c13
                  have c13b1 : (((rd_T30 l0 x5_1).f0) != ((rd_T30 l0 0).f0)) = false := bne_eq_false_iff_eq.mpr c13
                  clear c13
                  obtain ⟨ji14, hji14⟩ : ∃ j_ : Int, (mn (IntKind.u64.wrap (x240001_1 + ((rd_T30 l0 x5_1).f1))) 4503599627370497) = j_ := ⟨_, rfl⟩
                  replace H : (skylightref18_Merge.l0 k1 l0 (wrap64 (x5_1 + 1)) ((rd_T30 l0 0).f0) ji14) = some (r1, r2, r3, r4) := by first | (rw [hji14] at H; exact H) | (simp only [hji14] at H ⊢; exact H)
                  have hji14_ : (if 4503599627370497 < (IntKind.u64.wrap (x240001_1 + ((rd_T30 l0 x5_1).f1))) then 4503599627370497 else (IntKind.u64.wrap (x240001_1 + ((rd_T30 l0 x5_1).f1)))) = ji14 := hji14
                  have H' := Aside0.mk H
                  clear H
                  try go_wp2
                  have n0_ := Aside0.mk (blk_drew BK237.out)
                  have n1_ := Aside0.mk (blk_drew BK239.out)
                  have n2_ := Aside0.mk (below_drew1 HB.out)
                  clear BK237
                  clear BK239
                  clear HB
                  have BK237 := n0_
                  have BK239 := n1_
                  have HB := n2_
                  clear n0_ n1_ n2_
                  have p240 : 0 ≤ (x5_1 : Int) := of_decide_eq_true (by first | (with_reducible assumption) | assumption)
                  have q240 : x5_1 < (l0.length : Int) := of_decide_eq_true (by first | (with_reducible assumption) | assumption)
                  obtain ⟨ad240, A240_2, c240_2, e240, hx240_0, hx240_1, hx240_2, hl240_2, hi240_2⟩ := at_T30 HR0.out x5_1 p240 q240
                  have hw240_2 := hx240_2
                  have hw240_1 := hx240_1
                  have hw240_0 := hx240_0
                  obtain rfl : ad238 = ad240 := (by injection e240)
                  replace hx240_0 := (HB.out.cell (World.block_lt_of_cell? w _ hx240_0)).trans hx240_0
                  replace hx240_1 := (HB.out.cell (World.block_lt_of_cell? w _ hx240_1)).trans hx240_1
                  replace hx240_2 := (HB.out.cell (World.block_lt_of_cell? w _ hx240_2)).trans hx240_2
                  have HR240_2 := Aside0.mk hi240_2
                  have HC240_2 := Aside0.mk hl240_2
                  clear hi240_2 hl240_2
                  replace p240 := eq_true p240
                  replace q240 := eq_true q240
                  have p241 : 0 ≤ (0 : Int) := (by omega)
                  have q241 : 0 < (l0.length : Int) := of_decide_eq_true (by first | (with_reducible assumption) | assumption)
                  obtain ⟨ad241, A241_2, c241_2, e241, hx241_0, hx241_1, hx241_2, hl241_2, hi241_2⟩ := at_T30 HR0.out 0 p241 q241
                  have hw241_2 := hx241_2
                  (try rw [show ((0 : Int)).toNat = 0 from rfl] at hw241_2)
                  (try rw [show 0 * 3 = 0 from rfl] at hw241_2)
                  (try rw [Addr.add_zero'] at hw241_2)
                  have hw241_1 := hx241_1
                  (try rw [show ((0 : Int)).toNat = 0 from rfl] at hw241_1)
                  (try rw [show 0 * 3 = 0 from rfl] at hw241_1)
                  (try rw [Addr.add_zero'] at hw241_1)
                  have hw241_0 := hx241_0
                  (try rw [show ((0 : Int)).toNat = 0 from rfl] at hw241_0)
                  (try rw [show 0 * 3 = 0 from rfl] at hw241_0)
                  (try rw [Addr.add_zero'] at hw241_0)
                  obtain rfl : ad238 = ad241 := (by injection e241)
                  have qi241 : (0 < l0.length) = True := eq_true (by omega)
                  (try rw [show ((0 : Int)).toNat = 0 from rfl] at hx241_0)
                  (try rw [show 0 * 3 = 0 from rfl] at hx241_0)
                  (try rw [Addr.add_zero'] at hx241_0)
                  (try rw [show ((0 : Int)).toNat = 0 from rfl] at hx241_1)
                  (try rw [show 0 * 3 = 0 from rfl] at hx241_1)
                  (try rw [Addr.add_zero'] at hx241_1)
                  (try rw [show ((0 : Int)).toNat = 0 from rfl] at hx241_2)
                  (try rw [show 0 * 3 = 0 from rfl] at hx241_2)
                  (try rw [Addr.add_zero'] at hx241_2)
                  replace hx241_0 := (HB.out.cell (World.block_lt_of_cell? w _ hx241_0)).trans hx241_0
                  replace hx241_1 := (HB.out.cell (World.block_lt_of_cell? w _ hx241_1)).trans hx241_1
                  replace hx241_2 := (HB.out.cell (World.block_lt_of_cell? w _ hx241_2)).trans hx241_2
                  have HR241_2 := Aside0.mk hi241_2
                  have HC241_2 := Aside0.mk hl241_2
                  clear hi241_2 hl241_2
                  replace p241 := eq_true p241
                  replace q241 := eq_true q241
                  refine start_ (n := 10) (S := fun w' => w'.cell? (ad238.add ((x5_1).toNat * 3)) = some (.int .i64 ((rd_T30 l0 x5_1).f0)) ∧ w'.cell? ⟨(ad238.add ((x5_1).toNat * 3)).block, (ad238.add ((x5_1).toNat * 3)).off + 1, none⟩ = some (.int .u64 ((rd_T30 l0 x5_1).f1)) ∧ w'.cell? ⟨(ad238.add ((x5_1).toNat * 3)).block, (ad238.add ((x5_1).toNat * 3)).off + 2, none⟩ = some (.slice A240_2 ((rd_T30 l0 x5_1).f2).length c240_2) ∧ w'.cell? ad238 = some (.int .i64 ((rd_T30 l0 0).f0)) ∧ w'.cell? ⟨ad238.block, ad238.off + 1, none⟩ = some (.int .u64 ((rd_T30 l0 0).f1)) ∧ w'.cell? ⟨ad238.block, ad238.off + 2, none⟩ = some (.slice A241_2 ((rd_T30 l0 0).f2).length c241_2)) (ds := []) #[false, false, false, false, false, false, false, false, false, false] (by kernel_rfl) rfl rfl ⟨((HB.out.cell (World.block_lt_of_cell? w _ hw240_0)).trans hw240_0), ((HB.out.cell (World.block_lt_of_cell? w _ hw240_1)).trans hw240_1), ((HB.out.cell (World.block_lt_of_cell? w _ hw240_2)).trans hw240_2), ((HB.out.cell (World.block_lt_of_cell? w _ hw241_0)).trans hw241_0), ((HB.out.cell (World.block_lt_of_cell? w _ hw241_1)).trans hw241_1), ((HB.out.cell (World.block_lt_of_cell? w _ hw241_2)).trans hw241_2)⟩ (fun hHeld => ?_); refine with_tabW skylightref18_Merge.tab7 skylightref18_Merge.bits7 (fun HT_ HW_ => ?_)
                  generalize wr.drew = w15 at BK237 BK239 HB HR240_2 HR241_2 hx240_0 hx240_1 hx240_2 hx241_0 hx241_1 hx241_2 hHeld ⊢
                  refine pure_ (i := 0) (N := some 22) (v := ?_) (a' := ?_) #[true, false, false, false, false, false, false, false, false, false] rfl rfl (any_of HT_.out (by kernel_rfl)) (fun _ _ _ h => h) (Or.inl ⟨by rfl, ?_⟩) ?_ ?_
                  rotate_left
                  · intro w'
                    go_simp
                    with_reducible rfl
                  rotate_left
                  · simp only [Act.put, List.setIfInBounds_toArray, List.set_cons_zero, List.set_cons_succ, i64_w, i32_w]
                    rfl
                  refine pure_ (i := 1) (N := some 23) (v := ?_) (a' := ?_) #[true, true, false, false, false, false, false, false, false, false] rfl rfl (any_of HT_.out (by kernel_rfl)) (fun _ _ _ h => h) (Or.inl ⟨by rfl, ?_⟩) ?_ ?_
                  rotate_left
                  · intro w'
                    go_simp
                    with_reducible rfl
                  rotate_left
                  · simp only [Act.put, List.setIfInBounds_toArray, List.set_cons_zero, List.set_cons_succ, i64_w, i32_w]
                    rfl
                  refine pure_ (i := 2) (N := some 24) (v := ?_) (a' := ?_) #[true, true, true, false, false, false, false, false, false, false] rfl rfl (any_of HT_.out (by kernel_rfl)) (fun _ _ _ h => h) (Or.inl ⟨by rfl, ?_⟩) ?_ ?_
                  rotate_left
                  · intro w'
                    go_simp
                    with_reducible rfl
                  rotate_left
                  · simp only [Act.put, List.setIfInBounds_toArray, List.set_cons_zero, List.set_cons_succ, i64_w, i32_w]
                    rfl
                  refine pure_ (i := 3) (N := some 25) (v := ?_) (a' := ?_) #[true, true, true, true, false, false, false, false, false, false] rfl rfl (any_of HT_.out (by kernel_rfl)) (fun _ _ _ h => h) (Or.inl ⟨by rfl, ?_⟩) ?_ ?_
                  rotate_left
                  · intro w'
                    go_simp
                    with_reducible rfl
                  rotate_left
                  · simp only [Act.put, List.setIfInBounds_toArray, List.set_cons_zero, List.set_cons_succ, i64_w, i32_w]
                    rfl
                  refine pure_ (i := 5) (N := some 27) (v := ?_) (a' := ?_) #[true, true, true, true, false, true, false, false, false, false] rfl rfl (any_of HT_.out (by kernel_rfl)) (fun _ _ _ h => h) (Or.inl ⟨by rfl, ?_⟩) ?_ ?_
                  rotate_left
                  · intro w'
                    go_simp
                    with_reducible rfl
                  rotate_left
                  · simp only [Act.put, List.setIfInBounds_toArray, List.set_cons_zero, List.set_cons_succ, i64_w, i32_w]
                    rfl
                  refine pure_ (i := 6) (N := some 28) (v := ?_) (a' := ?_) #[true, true, true, true, false, true, true, false, false, false] rfl rfl (any_of HT_.out (by kernel_rfl)) (fun _ _ _ h => h) (Or.inl ⟨by rfl, ?_⟩) ?_ ?_
                  rotate_left
                  · intro w'
                    go_simp
                    with_reducible rfl
                  rotate_left
                  · simp only [Act.put, List.setIfInBounds_toArray, List.set_cons_zero, List.set_cons_succ, i64_w, i32_w]
                    rfl
                  refine pure_ (i := 7) (N := some 29) (v := ?_) (a' := ?_) #[true, true, true, true, false, true, true, true, false, false] rfl rfl (any_of HT_.out (by kernel_rfl)) (fun _ _ _ h => h) (Or.inl ⟨by rfl, ?_⟩) ?_ ?_
                  rotate_left
                  · intro w'
                    go_simp
                    with_reducible rfl
                  rotate_left
                  · simp only [Act.put, List.setIfInBounds_toArray, List.set_cons_zero, List.set_cons_succ, i64_w, i32_w]
                    rfl
                  refine take_ (i := 4) (N := some 26) (v := ?_) (a' := ?_) #[true, true, true, true, true, true, true, true, false, false] rfl rfl (take_ofW HT_.out HW_.out (by kernel_rfl)) (fun _ _ _ h => h) (Or.inl ⟨by rfl, ?_⟩) hHeld ?_ ?_
                  rotate_left
                  · rintro w' ⟨s0, s1, s2, s3, s4, s5⟩
                    go_simp
                    with_reducible rfl
                  rotate_left
                  · simp only [Act.put, List.setIfInBounds_toArray, List.set_cons_zero, List.set_cons_succ, i64_w, i32_w]
                    rfl
                  refine take_ (i := 8) (N := some 30) (v := ?_) (a' := ?_) #[true, true, true, true, true, true, true, true, true, false] rfl rfl (take_ofW HT_.out HW_.out (by kernel_rfl)) (fun _ _ _ h => h) (Or.inl ⟨by rfl, ?_⟩) hHeld ?_ ?_
                  rotate_left
                  · rintro w' ⟨s0, s1, s2, s3, s4, s5⟩
                    go_simp
                    with_reducible rfl
                  rotate_left
                  · simp only [Act.put, List.setIfInBounds_toArray, List.set_cons_zero, List.set_cons_succ, i64_w, i32_w]
                    rfl
                  refine pure_ (i := 9) (N := some 31) (v := ?_) (a' := ?_) #[true, true, true, true, true, true, true, true, true, true] rfl rfl (any_of HT_.out (by kernel_rfl)) (fun _ _ _ h => h) (Or.inl ⟨by rfl, ?_⟩) ?_ ?_
                  rotate_left
                  · intro w'
                    go_simp
                    with_reducible rfl
                  rotate_left
                  · simp only [Act.put, List.setIfInBounds_toArray, List.set_cons_zero, List.set_cons_succ, i64_w, i32_w]
                    rfl
                  refine done_ (done_of HT_.out (by kernel_rfl)) ?_
                  try go_wp2
                  have n0_ := Aside0.mk (blk_drew BK237.out)
                  have n1_ := Aside0.mk (blk_drew BK239.out)
                  have n2_ := Aside0.mk (below_drew1 HB.out)
                  clear BK237
                  clear BK239
                  clear HB
                  have BK237 := n0_
                  have BK239 := n1_
                  have HB := n2_
                  clear n0_ n1_ n2_
                  have p242 : 0 ≤ (x5_1 : Int) := of_decide_eq_true (by first | (with_reducible assumption) | assumption)
                  have q242 : x5_1 < (l0.length : Int) := of_decide_eq_true (by first | (with_reducible assumption) | assumption)
                  obtain ⟨ad242, A242_2, c242_2, e242, hx242_0, hx242_1, hx242_2, hl242_2, hi242_2⟩ := at_T30 HR0.out x5_1 p242 q242
                  have hw242_2 := hx242_2
                  have hw242_1 := hx242_1
                  have hw242_0 := hx242_0
                  obtain rfl : ad238 = ad242 := (by injection e242)
                  replace hx242_0 := (HB.out.cell (World.block_lt_of_cell? w _ hx242_0)).trans hx242_0
                  replace hx242_1 := (HB.out.cell (World.block_lt_of_cell? w _ hx242_1)).trans hx242_1
                  replace hx242_2 := (HB.out.cell (World.block_lt_of_cell? w _ hx242_2)).trans hx242_2
                  have HR242_2 := Aside0.mk hi242_2
                  have HC242_2 := Aside0.mk hl242_2
                  clear hi242_2 hl242_2
                  replace p242 := eq_true p242
                  replace q242 := eq_true q242
                  refine start_ (n := 11) (S := fun w' => w'.cell? ⟨gb239, 0, none⟩ = some (.int .i64 ((rd_T30 l0 0).f0)) ∧ w'.cell? ⟨gb239, 1, none⟩ = some (.int .u64 x240001_1) ∧ w'.cell? ⟨gb239, 2, none⟩ = some (.slice none 0 0) ∧ w'.cell? (ad238.add ((x5_1).toNat * 3)) = some (.int .i64 ((rd_T30 l0 x5_1).f0)) ∧ w'.cell? ⟨(ad238.add ((x5_1).toNat * 3)).block, (ad238.add ((x5_1).toNat * 3)).off + 1, none⟩ = some (.int .u64 ((rd_T30 l0 x5_1).f1)) ∧ w'.cell? ⟨(ad238.add ((x5_1).toNat * 3)).block, (ad238.add ((x5_1).toNat * 3)).off + 2, none⟩ = some (.slice A242_2 ((rd_T30 l0 x5_1).f2).length c242_2)) (ds := [10]) #[false, false, false, false, false, false, false, false, false, false, false] (by kernel_rfl) rfl rfl ⟨(blk_cell BK239.out 0).trans rfl, (blk_cell BK239.out 1).trans rfl, (blk_cell BK239.out 2).trans rfl, ((HB.out.cell (World.block_lt_of_cell? w _ hw242_0)).trans hw242_0), ((HB.out.cell (World.block_lt_of_cell? w _ hw242_1)).trans hw242_1), ((HB.out.cell (World.block_lt_of_cell? w _ hw242_2)).trans hw242_2)⟩ (fun hHeld => ?_); refine with_tabW skylightref18_Merge.tab9 skylightref18_Merge.bits9 (fun HT_ HW_ => ?_)
                  generalize w15.drew = w16 at BK237 BK239 HB HR242_2 hx242_0 hx242_1 hx242_2 hHeld ⊢
                  refine pure_ (i := 0) (N := some 33) (v := ?_) (a' := ?_) #[true, false, false, false, false, false, false, false, false, false, false] rfl rfl (any_of HT_.out (by kernel_rfl)) (fun _ _ _ h => h) (Or.inl ⟨by rfl, ?_⟩) ?_ ?_
                  rotate_left
                  · intro w'
                    go_simp
                    with_reducible rfl
                  rotate_left
                  · simp only [Act.put, List.setIfInBounds_toArray, List.set_cons_zero, List.set_cons_succ, i64_w, i32_w]
                    rfl
                  refine pure_ (i := 2) (N := some 35) (v := ?_) (a' := ?_) #[true, false, true, false, false, false, false, false, false, false, false] rfl rfl (any_of HT_.out (by kernel_rfl)) (fun _ _ _ h => h) (Or.inl ⟨by rfl, ?_⟩) ?_ ?_
                  rotate_left
                  · intro w'
                    go_simp
                    with_reducible rfl
                  rotate_left
                  · simp only [Act.put, List.setIfInBounds_toArray, List.set_cons_zero, List.set_cons_succ, i64_w, i32_w]
                    rfl
                  refine pure_ (i := 3) (N := some 36) (v := ?_) (a' := ?_) #[true, false, true, true, false, false, false, false, false, false, false] rfl rfl (any_of HT_.out (by kernel_rfl)) (fun _ _ _ h => h) (Or.inl ⟨by rfl, ?_⟩) ?_ ?_
                  rotate_left
                  · intro w'
                    go_simp
                    with_reducible rfl
                  rotate_left
                  · simp only [Act.put, List.setIfInBounds_toArray, List.set_cons_zero, List.set_cons_succ, i64_w, i32_w]
                    rfl
                  refine pure_ (i := 4) (N := some 37) (v := ?_) (a' := ?_) #[true, false, true, true, true, false, false, false, false, false, false] rfl rfl (any_of HT_.out (by kernel_rfl)) (fun _ _ _ h => h) (Or.inl ⟨by rfl, ?_⟩) ?_ ?_
                  rotate_left
                  · intro w'
                    go_simp
                    with_reducible rfl
                  rotate_left
                  · simp only [Act.put, List.setIfInBounds_toArray, List.set_cons_zero, List.set_cons_succ, i64_w, i32_w]
                    rfl
                  refine pure_ (i := 5) (N := some 38) (v := ?_) (a' := ?_) #[true, false, true, true, true, true, false, false, false, false, false] rfl rfl (any_of HT_.out (by kernel_rfl)) (fun _ _ _ h => h) (Or.inl ⟨by rfl, ?_⟩) ?_ ?_
                  rotate_left
                  · intro w'
                    go_simp
                    with_reducible rfl
                  rotate_left
                  · simp only [Act.put, List.setIfInBounds_toArray, List.set_cons_zero, List.set_cons_succ, i64_w, i32_w]
                    rfl
                  refine take_ (i := 1) (N := some 34) (v := ?_) (a' := ?_) #[true, true, true, true, true, true, false, false, false, false, false] rfl rfl (take_ofW HT_.out HW_.out (by kernel_rfl)) (fun _ _ _ h => h) (Or.inl ⟨by rfl, ?_⟩) hHeld ?_ ?_
                  rotate_left
                  · rintro w' ⟨s0, s1, s2, s3, s4, s5⟩
                    go_simp
                    with_reducible rfl
                  rotate_left
                  · simp only [Act.put, List.setIfInBounds_toArray, List.set_cons_zero, List.set_cons_succ, i64_w, i32_w]
                    rfl
                  refine take_ (i := 6) (N := some 39) (v := ?_) (a' := ?_) #[true, true, true, true, true, true, true, false, false, false, false] rfl rfl (take_ofW HT_.out HW_.out (by kernel_rfl)) (fun _ _ _ h => h) (Or.inl ⟨by rfl, ?_⟩) hHeld ?_ ?_
                  rotate_left
                  · rintro w' ⟨s0, s1, s2, s3, s4, s5⟩
                    go_simp
                    with_reducible rfl
                  rotate_left
                  · simp only [Act.put, List.setIfInBounds_toArray, List.set_cons_zero, List.set_cons_succ, i64_w, i32_w]
                    rfl
                  refine pure_ (i := 7) (N := some 40) (v := ?_) (a' := ?_) #[true, true, true, true, true, true, true, true, false, false, false] rfl rfl (any_of HT_.out (by kernel_rfl)) (fun _ _ _ h => h) (Or.inl ⟨by rfl, ?_⟩) ?_ ?_
                  rotate_left
                  · intro w'
                    go_simp
                    with_reducible rfl
                  rotate_left
                  · simp only [Act.put, List.setIfInBounds_toArray, List.set_cons_zero, List.set_cons_succ, i64_w, i32_w]
                    rfl
                  refine pure_ (i := 8) (N := some 41) (v := ?_) (a' := ?_) #[true, true, true, true, true, true, true, true, true, false, false] rfl rfl (any_of HT_.out (by kernel_rfl)) (fun _ _ _ h => h) (Or.inl ⟨by rfl, ?_⟩) ?_ ?_
                  rotate_left
                  · intro w'
                    go_simp
                    with_reducible rfl
                  rotate_left
                  · simp only [Act.put, List.setIfInBounds_toArray, List.set_cons_zero, List.set_cons_succ, i64_w, i32_w]
                    rfl
                  refine pure_ (i := 9) (N := some 42) (v := ?_) (a' := ?_) #[true, true, true, true, true, true, true, true, true, true, false] rfl rfl (any_of HT_.out (by kernel_rfl)) (fun _ _ _ h => h) (Or.inl ⟨by rfl, ?_⟩) ?_ ?_
                  rotate_left
                  · intro w'
                    go_simp
                    with_reducible rfl
                  rotate_left
                  · simp only [Act.put, List.setIfInBounds_toArray, List.set_cons_zero, List.set_cons_succ, i64_w, i32_w]
                    rfl
                  refine last_ (i := 10) (N := none) #[true, true, true, true, true, true, true, true, true, true, true] rfl rfl (one_of HT_.out (by kernel_rfl)) (by decide) (fun K hK => ?_)
                  have hs17 : w16.cell? ⟨gb239, 1, none⟩ = some (.int .u64 x240001_1) := (blk_cell BK239.out 1).trans rfl
                  have hfs17 := blk_frozen BK239.out 1
                  have hns17_0 := NB237_239.out
                  have hms17_0 := NB239_237.out
                  refine skip_ (w1 := ?_) (by rfl) rfl ?_ ?_
                  rotate_left
                  · go_simp
                    rfl
                  refine hK.out _ _ ?_
                  clear hK K
                  refine done_ (done_of HT_.out (by kernel_rfl)) ?_
                  try go_wp2
                  go_roundg k1
                  case measure => have := HK1.out; omega
                  case rel => exact ⟨(wrap64 (x5_1 + 1)), (x238000_1), (x238001_1), (ji14), (by first | rfl | (simp; done) | (simp [*]; done)), H', ⟨by have := HK1.out; omega⟩, ⟨by (with_reducible repeat (first | refine blk_drewN ?_ _ | refine blk_drew ?_ | refine blk_alloc ?_ _)); refine blk_far ?_ NB237_239.out _; (with_reducible repeat (first | refine blk_drewN ?_ _ | refine blk_drew ?_ | refine blk_alloc ?_ _)); exact BK237.out⟩, ⟨by (with_reducible repeat (first | refine blk_drewN ?_ _ | refine blk_drew ?_ | refine blk_alloc ?_ _)); refine blk_put (cs := #[.int .i64 ((rd_T30 l0 0).f0), .int .u64 x240001_1, .slice none 0 0]) ?_ 1 _ rfl; (with_reducible repeat (first | refine blk_drewN ?_ _ | refine blk_drew ?_ | refine blk_alloc ?_ _)); exact BK239.out⟩, ⟨by repeat (first | (with_reducible first | exact HB.out | apply below_alloc | apply pw_below_drewN | apply below_drew1 | refine below_set ?_ GE237.out | refine below_set ?_ GE239.out) | exact HB.out)⟩⟩
                · rw [if_neg c13] at H
                  have c13b0 : (((rd_T30 l0 x5_1).f0) == ((rd_T30 l0 0).f0)) = false := beq_eq_false_iff_ne.mpr c13
                  have c13b1 : (((rd_T30 l0 x5_1).f0) != ((rd_T30 l0 0).f0)) = true := bne_iff_ne.mpr c13
                  simp only [Option.some.injEq, Prod.mk.injEq] at H
                  obtain ⟨rfl, rfl, rfl, rfl⟩ := H
                  try go_wp2
                  have n0_ := Aside0.mk (blk_drew BK237.out)
                  have n1_ := Aside0.mk (blk_drew BK239.out)
                  have n2_ := Aside0.mk (below_drew1 HB.out)
                  clear BK237
                  clear BK239
                  clear HB
                  have BK237 := n0_
                  have BK239 := n1_
                  have HB := n2_
                  clear n0_ n1_ n2_
                  have p240 : 0 ≤ (x5_1 : Int) := of_decide_eq_true (by first | (with_reducible assumption) | assumption)
                  have q240 : x5_1 < (l0.length : Int) := of_decide_eq_true (by first | (with_reducible assumption) | assumption)
                  obtain ⟨ad240, A240_2, c240_2, e240, hx240_0, hx240_1, hx240_2, hl240_2, hi240_2⟩ := at_T30 HR0.out x5_1 p240 q240
                  have hw240_2 := hx240_2
                  have hw240_1 := hx240_1
                  have hw240_0 := hx240_0
                  obtain rfl : ad238 = ad240 := (by injection e240)
                  replace hx240_0 := (HB.out.cell (World.block_lt_of_cell? w _ hx240_0)).trans hx240_0
                  replace hx240_1 := (HB.out.cell (World.block_lt_of_cell? w _ hx240_1)).trans hx240_1
                  replace hx240_2 := (HB.out.cell (World.block_lt_of_cell? w _ hx240_2)).trans hx240_2
                  have HR240_2 := Aside0.mk hi240_2
                  have HC240_2 := Aside0.mk hl240_2
                  clear hi240_2 hl240_2
                  replace p240 := eq_true p240
                  replace q240 := eq_true q240
                  have p241 : 0 ≤ (0 : Int) := (by omega)
                  have q241 : 0 < (l0.length : Int) := of_decide_eq_true (by first | (with_reducible assumption) | assumption)
                  obtain ⟨ad241, A241_2, c241_2, e241, hx241_0, hx241_1, hx241_2, hl241_2, hi241_2⟩ := at_T30 HR0.out 0 p241 q241
                  have hw241_2 := hx241_2
                  (try rw [show ((0 : Int)).toNat = 0 from rfl] at hw241_2)
                  (try rw [show 0 * 3 = 0 from rfl] at hw241_2)
                  (try rw [Addr.add_zero'] at hw241_2)
                  have hw241_1 := hx241_1
                  (try rw [show ((0 : Int)).toNat = 0 from rfl] at hw241_1)
                  (try rw [show 0 * 3 = 0 from rfl] at hw241_1)
                  (try rw [Addr.add_zero'] at hw241_1)
                  have hw241_0 := hx241_0
                  (try rw [show ((0 : Int)).toNat = 0 from rfl] at hw241_0)
                  (try rw [show 0 * 3 = 0 from rfl] at hw241_0)
                  (try rw [Addr.add_zero'] at hw241_0)
                  obtain rfl : ad238 = ad241 := (by injection e241)
                  have qi241 : (0 < l0.length) = True := eq_true (by omega)
                  (try rw [show ((0 : Int)).toNat = 0 from rfl] at hx241_0)
                  (try rw [show 0 * 3 = 0 from rfl] at hx241_0)
                  (try rw [Addr.add_zero'] at hx241_0)
                  (try rw [show ((0 : Int)).toNat = 0 from rfl] at hx241_1)
                  (try rw [show 0 * 3 = 0 from rfl] at hx241_1)
                  (try rw [Addr.add_zero'] at hx241_1)
                  (try rw [show ((0 : Int)).toNat = 0 from rfl] at hx241_2)
                  (try rw [show 0 * 3 = 0 from rfl] at hx241_2)
                  (try rw [Addr.add_zero'] at hx241_2)
                  replace hx241_0 := (HB.out.cell (World.block_lt_of_cell? w _ hx241_0)).trans hx241_0
                  replace hx241_1 := (HB.out.cell (World.block_lt_of_cell? w _ hx241_1)).trans hx241_1
                  replace hx241_2 := (HB.out.cell (World.block_lt_of_cell? w _ hx241_2)).trans hx241_2
                  have HR241_2 := Aside0.mk hi241_2
                  have HC241_2 := Aside0.mk hl241_2
                  clear hi241_2 hl241_2
                  replace p241 := eq_true p241
                  replace q241 := eq_true q241
                  refine start_ (n := 10) (S := fun w' => w'.cell? (ad238.add ((x5_1).toNat * 3)) = some (.int .i64 ((rd_T30 l0 x5_1).f0)) ∧ w'.cell? ⟨(ad238.add ((x5_1).toNat * 3)).block, (ad238.add ((x5_1).toNat * 3)).off + 1, none⟩ = some (.int .u64 ((rd_T30 l0 x5_1).f1)) ∧ w'.cell? ⟨(ad238.add ((x5_1).toNat * 3)).block, (ad238.add ((x5_1).toNat * 3)).off + 2, none⟩ = some (.slice A240_2 ((rd_T30 l0 x5_1).f2).length c240_2) ∧ w'.cell? ad238 = some (.int .i64 ((rd_T30 l0 0).f0)) ∧ w'.cell? ⟨ad238.block, ad238.off + 1, none⟩ = some (.int .u64 ((rd_T30 l0 0).f1)) ∧ w'.cell? ⟨ad238.block, ad238.off + 2, none⟩ = some (.slice A241_2 ((rd_T30 l0 0).f2).length c241_2)) (ds := []) #[false, false, false, false, false, false, false, false, false, false] (by kernel_rfl) rfl rfl ⟨((HB.out.cell (World.block_lt_of_cell? w _ hw240_0)).trans hw240_0), ((HB.out.cell (World.block_lt_of_cell? w _ hw240_1)).trans hw240_1), ((HB.out.cell (World.block_lt_of_cell? w _ hw240_2)).trans hw240_2), ((HB.out.cell (World.block_lt_of_cell? w _ hw241_0)).trans hw241_0), ((HB.out.cell (World.block_lt_of_cell? w _ hw241_1)).trans hw241_1), ((HB.out.cell (World.block_lt_of_cell? w _ hw241_2)).trans hw241_2)⟩ (fun hHeld => ?_); refine with_tabW skylightref18_Merge.tab7 skylightref18_Merge.bits7 (fun HT_ HW_ => ?_)
                  generalize wr.drew = w18 at BK237 BK239 HB HR240_2 HR241_2 hx240_0 hx240_1 hx240_2 hx241_0 hx241_1 hx241_2 hHeld ⊢
                  refine pure_ (i := 0) (N := some 22) (v := ?_) (a' := ?_) #[true, false, false, false, false, false, false, false, false, false] rfl rfl (any_of HT_.out (by kernel_rfl)) (fun _ _ _ h => h) (Or.inl ⟨by rfl, ?_⟩) ?_ ?_
                  rotate_left
                  · intro w'
                    go_simp
                    with_reducible rfl
                  rotate_left
                  · simp only [Act.put, List.setIfInBounds_toArray, List.set_cons_zero, List.set_cons_succ, i64_w, i32_w]
                    rfl
                  refine pure_ (i := 1) (N := some 23) (v := ?_) (a' := ?_) #[true, true, false, false, false, false, false, false, false, false] rfl rfl (any_of HT_.out (by kernel_rfl)) (fun _ _ _ h => h) (Or.inl ⟨by rfl, ?_⟩) ?_ ?_
                  rotate_left
                  · intro w'
                    go_simp
                    with_reducible rfl
                  rotate_left
                  · simp only [Act.put, List.setIfInBounds_toArray, List.set_cons_zero, List.set_cons_succ, i64_w, i32_w]
                    rfl
                  refine pure_ (i := 2) (N := some 24) (v := ?_) (a' := ?_) #[true, true, true, false, false, false, false, false, false, false] rfl rfl (any_of HT_.out (by kernel_rfl)) (fun _ _ _ h => h) (Or.inl ⟨by rfl, ?_⟩) ?_ ?_
                  rotate_left
                  · intro w'
                    go_simp
                    with_reducible rfl
                  rotate_left
                  · simp only [Act.put, List.setIfInBounds_toArray, List.set_cons_zero, List.set_cons_succ, i64_w, i32_w]
                    rfl
                  refine pure_ (i := 3) (N := some 25) (v := ?_) (a' := ?_) #[true, true, true, true, false, false, false, false, false, false] rfl rfl (any_of HT_.out (by kernel_rfl)) (fun _ _ _ h => h) (Or.inl ⟨by rfl, ?_⟩) ?_ ?_
                  rotate_left
                  · intro w'
                    go_simp
                    with_reducible rfl
                  rotate_left
                  · simp only [Act.put, List.setIfInBounds_toArray, List.set_cons_zero, List.set_cons_succ, i64_w, i32_w]
                    rfl
                  refine pure_ (i := 5) (N := some 27) (v := ?_) (a' := ?_) #[true, true, true, true, false, true, false, false, false, false] rfl rfl (any_of HT_.out (by kernel_rfl)) (fun _ _ _ h => h) (Or.inl ⟨by rfl, ?_⟩) ?_ ?_
                  rotate_left
                  · intro w'
                    go_simp
                    with_reducible rfl
                  rotate_left
                  · simp only [Act.put, List.setIfInBounds_toArray, List.set_cons_zero, List.set_cons_succ, i64_w, i32_w]
                    rfl
                  refine pure_ (i := 6) (N := some 28) (v := ?_) (a' := ?_) #[true, true, true, true, false, true, true, false, false, false] rfl rfl (any_of HT_.out (by kernel_rfl)) (fun _ _ _ h => h) (Or.inl ⟨by rfl, ?_⟩) ?_ ?_
                  rotate_left
                  · intro w'
                    go_simp
                    with_reducible rfl
                  rotate_left
                  · simp only [Act.put, List.setIfInBounds_toArray, List.set_cons_zero, List.set_cons_succ, i64_w, i32_w]
                    rfl
                  refine pure_ (i := 7) (N := some 29) (v := ?_) (a' := ?_) #[true, true, true, true, false, true, true, true, false, false] rfl rfl (any_of HT_.out (by kernel_rfl)) (fun _ _ _ h => h) (Or.inl ⟨by rfl, ?_⟩) ?_ ?_
                  rotate_left
                  · intro w'
                    go_simp
                    with_reducible rfl
                  rotate_left
                  · simp only [Act.put, List.setIfInBounds_toArray, List.set_cons_zero, List.set_cons_succ, i64_w, i32_w]
                    rfl
                  refine take_ (i := 4) (N := some 26) (v := ?_) (a' := ?_) #[true, true, true, true, true, true, true, true, false, false] rfl rfl (take_ofW HT_.out HW_.out (by kernel_rfl)) (fun _ _ _ h => h) (Or.inl ⟨by rfl, ?_⟩) hHeld ?_ ?_
                  rotate_left
                  · rintro w' ⟨s0, s1, s2, s3, s4, s5⟩
                    go_simp
                    with_reducible rfl
                  rotate_left
                  · simp only [Act.put, List.setIfInBounds_toArray, List.set_cons_zero, List.set_cons_succ, i64_w, i32_w]
                    rfl
                  refine take_ (i := 8) (N := some 30) (v := ?_) (a' := ?_) #[true, true, true, true, true, true, true, true, true, false] rfl rfl (take_ofW HT_.out HW_.out (by kernel_rfl)) (fun _ _ _ h => h) (Or.inl ⟨by rfl, ?_⟩) hHeld ?_ ?_
                  rotate_left
                  · rintro w' ⟨s0, s1, s2, s3, s4, s5⟩
                    go_simp
                    with_reducible rfl
                  rotate_left
                  · simp only [Act.put, List.setIfInBounds_toArray, List.set_cons_zero, List.set_cons_succ, i64_w, i32_w]
                    rfl
                  refine pure_ (i := 9) (N := some 31) (v := ?_) (a' := ?_) #[true, true, true, true, true, true, true, true, true, true] rfl rfl (any_of HT_.out (by kernel_rfl)) (fun _ _ _ h => h) (Or.inl ⟨by rfl, ?_⟩) ?_ ?_
                  rotate_left
                  · intro w'
                    go_simp
                    with_reducible rfl
                  rotate_left
                  · simp only [Act.put, List.setIfInBounds_toArray, List.set_cons_zero, List.set_cons_succ, i64_w, i32_w]
                    rfl
                  refine done_ (done_of HT_.out (by kernel_rfl)) ?_
                  have hnb19 := NB237_239.out
                  have hnc19 := NB239_237.out
                  have hcz20_0 : w18.cell? ⟨gb237, 0, none⟩ = some (.int .i64 x238000_1) := (blk_cell BK237.out 0).trans rfl
                  have hcz20_1 : w18.cell? ⟨gb237, 1, none⟩ = some (.int .u64 x238001_1) := (blk_cell BK237.out 1).trans rfl
                  have hcz20_2 : w18.cell? ⟨gb237, 2, none⟩ = some (.slice none 0 0) := (blk_cell BK237.out 2).trans rfl
                  have hfz20_0 := blk_frozen BK237.out 0
                  have hfz20_1 := blk_frozen BK237.out 1
                  have hfz20_2 := blk_frozen BK237.out 2
                  try go_wp2
                  refine bodyPost_ret (results_ct rfl _ _ gb237 30 #[.int .i64 0, .int .u64 0, .slice none 0 0] (0, 0) _ rfl (by (with_reducible repeat (first | refine blk_drewN ?_ _ | refine blk_drew ?_ | refine blk_alloc ?_ _)); refine blk_put (cs := #[.int .i64 0, .int .u64 0, .slice none 0 0]) ?_ 2 _ rfl; (with_reducible repeat (first | refine blk_drewN ?_ _ | refine blk_drew ?_ | refine blk_alloc ?_ _)); refine blk_put (cs := #[.int .i64 0, .int .u64 x238001_1, .slice none 0 0]) ?_ 1 _ rfl; (with_reducible repeat (first | refine blk_drewN ?_ _ | refine blk_drew ?_ | refine blk_alloc ?_ _)); refine blk_put (cs := #[.int .i64 x238000_1, .int .u64 x238001_1, .slice none 0 0]) ?_ 0 _ rfl; (with_reducible repeat (first | refine blk_drewN ?_ _ | refine blk_drew ?_ | refine blk_alloc ?_ _)); exact BK237.out) Try.underlying30 rfl (by kernel_rfl)) rfl ?_
                  exact ⟨_, by first | rfl | (simp [errW_none, errW_some] <;> rfl) | (simp [*, errW_none, errW_some] <;> rfl), by first | exact Kd.R_nil _ _ _ _ _ | exact Kd.N_nil _ _ _ _ _ | exact Kd.V_nil _ _ _ _ _ | exact Kd.Q_nil _ _ _ _ _ | exact Kd.S_nil _ _ _ _ _, by repeat (first | (with_reducible first | exact HB.out | apply below_alloc | apply pw_below_drewN | apply below_drew1 | refine below_set ?_ GE237.out | refine below_set ?_ GE239.out) | exact HB.out)⟩
              · rw [if_neg c12] at H
                exact absurd H (by simp)
            · rw [if_neg c11] at H
              exact absurd H (by simp)
          · rw [if_neg c10] at H
            have c10b0 : decide (x5_1 < (l0.length : Int)) = false := decide_eq_false c10
            clear c10
            by_cases c21 : x240001_1 > 4503599627370496
            · rw [if_pos c21] at H
              have c21b0 : decide (4503599627370496 < x240001_1) = true := decide_eq_true c21
              clear c21
              simp only [Option.some.injEq, Prod.mk.injEq] at H
              obtain ⟨rfl, rfl, rfl, rfl⟩ := H
              have hnb22 := NB239_237.out
              have hnc22 := NB237_239.out
              have hcz23_0 : wr.cell? ⟨gb239, 0, none⟩ = some (.int .i64 ((rd_T30 l0 0).f0)) := (blk_cell BK239.out 0).trans rfl
              have hcz23_1 : wr.cell? ⟨gb239, 1, none⟩ = some (.int .u64 x240001_1) := (blk_cell BK239.out 1).trans rfl
              have hcz23_2 : wr.cell? ⟨gb239, 2, none⟩ = some (.slice none 0 0) := (blk_cell BK239.out 2).trans rfl
              have hfz23_0 := blk_frozen BK239.out 0
              have hfz23_1 := blk_frozen BK239.out 1
              have hfz23_2 := blk_frozen BK239.out 2
              have hcz24_0 : wr.cell? ⟨gb237, 0, none⟩ = some (.int .i64 x238000_1) := (blk_cell BK237.out 0).trans rfl
              have hcz24_1 : wr.cell? ⟨gb237, 1, none⟩ = some (.int .u64 x238001_1) := (blk_cell BK237.out 1).trans rfl
              have hcz24_2 : wr.cell? ⟨gb237, 2, none⟩ = some (.slice none 0 0) := (blk_cell BK237.out 2).trans rfl
              have hfz24_0 := blk_frozen BK237.out 0
              have hfz24_1 := blk_frozen BK237.out 1
              have hfz24_2 := blk_frozen BK237.out 2
              go_wp2
              refine bodyPost_ret (results_ct rfl _ _ gb237 30 #[.int .i64 0, .int .u64 0, .slice none 0 0] (0, 0) _ rfl (by (with_reducible repeat (first | refine blk_drewN ?_ _ | refine blk_drew ?_ | refine blk_alloc ?_ _)); refine blk_put (cs := #[.int .i64 0, .int .u64 0, .slice none 0 0]) ?_ 2 _ rfl; (with_reducible repeat (first | refine blk_drewN ?_ _ | refine blk_drew ?_ | refine blk_alloc ?_ _)); refine blk_put (cs := #[.int .i64 0, .int .u64 x238001_1, .slice none 0 0]) ?_ 1 _ rfl; (with_reducible repeat (first | refine blk_drewN ?_ _ | refine blk_drew ?_ | refine blk_alloc ?_ _)); refine blk_put (cs := #[.int .i64 x238000_1, .int .u64 x238001_1, .slice none 0 0]) ?_ 0 _ rfl; (with_reducible repeat (first | refine blk_drewN ?_ _ | refine blk_drew ?_ | refine blk_alloc ?_ _)); exact BK237.out) Try.underlying30 rfl (by kernel_rfl)) rfl ?_
              exact ⟨_, by first | rfl | (simp [errW_none, errW_some] <;> rfl) | (simp [*, errW_none, errW_some] <;> rfl), by first | exact Kd.R_nil _ _ _ _ _ | exact Kd.N_nil _ _ _ _ _ | exact Kd.V_nil _ _ _ _ _ | exact Kd.Q_nil _ _ _ _ _ | exact Kd.S_nil _ _ _ _ _, by repeat (first | (with_reducible first | exact HB.out | apply below_alloc | apply pw_below_drewN | apply below_drew1 | refine below_set ?_ GE237.out | refine below_set ?_ GE239.out) | exact HB.out)⟩
            · rw [if_neg c21] at H
              have c21b0 : decide (4503599627370496 < x240001_1) = false := decide_eq_false c21
              clear c21
              replace H := Option.bind_eq_some_iff.mp H
              obtain ⟨t243, A250, H⟩ := H
              replace H : ((skylightref18_cut.f k1 t243 ((rd_T30 l0 0).f0)).bind fun t246 => ((skylightref17_Less.f k1 t243 t246).bind fun t247 => (some (((rd_T30 l0 0).f0), x240001_1, t247, 0)))) = some (r1, r2, r3, r4) := H
              have A25 := Aside0.mk A250
              clear A250
              replace H := Option.bind_eq_some_iff.mp H
              obtain ⟨t246, A260, H⟩ := H
              replace H : ((skylightref17_Less.f k1 t243 t246).bind fun t247 => (some (((rd_T30 l0 0).f0), x240001_1, t247, 0))) = some (r1, r2, r3, r4) := H
              have A26 := Aside0.mk A260
              clear A260
              replace H := Option.bind_eq_some_iff.mp H
              obtain ⟨t247, A270, H⟩ := H
              replace H : (some (((rd_T30 l0 0).f0), x240001_1, t247, 0)) = some (r1, r2, r3, r4) := H
              have A27 := Aside0.mk A270
              clear A270
              simp only [Option.some.injEq, Prod.mk.injEq] at H
              obtain ⟨rfl, rfl, rfl, rfl⟩ := H
              have hnb28 := NB239_237.out
              have hnc28 := NB237_239.out
              have hcz29_0 : wr.cell? ⟨gb239, 0, none⟩ = some (.int .i64 ((rd_T30 l0 0).f0)) := (blk_cell BK239.out 0).trans rfl
              have hcz29_1 : wr.cell? ⟨gb239, 1, none⟩ = some (.int .u64 x240001_1) := (blk_cell BK239.out 1).trans rfl
              have hcz29_2 : wr.cell? ⟨gb239, 2, none⟩ = some (.slice none 0 0) := (blk_cell BK239.out 2).trans rfl
              have hfz29_0 := blk_frozen BK239.out 0
              have hfz29_1 := blk_frozen BK239.out 1
              have hfz29_2 := blk_frozen BK239.out 2
              go_wp2_with (first | ((with_reducible refine gate_callee (f := 21) rfl ?_); refine goesL_ (some 48) rfl rfl Try.func21 (by kernel_rfl) rfl #[.slice (some ad238) l0.length c0] rfl (by (try simp only [List.map_toArray, List.map_cons, List.map_nil]); first | done | rfl | (simp only [List.length_drop, List.length_take]; rfl)) ?_; (with_reducible refine (skylightref18_Sums.calls k1 _ _ l0 t243 _ ?side1 ?side2 A25.out).mono ?_); (case side1 => repeat (first | exact (Kd.C_below HR0.out HB.out) | (with_reducible refine Kd.C_alloc ?_ _) | (with_reducible refine Kd.C_drewN ?_ _) | (with_reducible refine Kd.C_drew ?_))); (case side2 => exact HC0.out); rintro e w30 ⟨v244, rfl, ho0, hb⟩; refine ⟨_, rfl, ?_⟩; have n0_ := Aside0.mk (Kd.R_lower ho0 (below_size (by repeat (first | (with_reducible first | exact HB.out | apply below_alloc | apply pw_below_drewN | apply below_drew1 | refine below_set ?_ GE237.out | refine below_set ?_ GE239.out) | exact HB.out)))); have n1_ := Aside0.mk (blk_below (g := gb237) (o := .cells #[.int .i64 x238000_1, .int .u64 x238001_1, .slice none 0 0] 30 (0, 0)) (by (with_reducible repeat (first | refine blk_drewN ?_ _ | refine blk_drew ?_ | refine blk_alloc ?_ _)); exact BK237.out) hb); have n2_ := Aside0.mk (blk_below (g := gb239) (o := .cells #[.int .i64 ((rd_T30 l0 0).f0), .int .u64 x240001_1, .slice none 0 0] 30 (0, 0)) (by (with_reducible repeat (first | refine blk_drewN ?_ _ | refine blk_drew ?_ | refine blk_alloc ?_ _)); exact BK239.out) hb); have n3_ := Aside0.mk (below_step (by repeat (first | (with_reducible first | exact HB.out | apply below_alloc | apply pw_below_drewN | apply below_drew1 | refine below_set ?_ GE237.out | refine below_set ?_ GE239.out) | exact HB.out)) hb); clear BK237; clear BK239; clear HB; have HO245 := n0_; have BK237 := n1_; have BK239 := n2_; have HB := n3_; clear n0_ n1_ n2_ n3_; (try clear hb); (try clear hb2); (try clear hk); (try clear hi); (try clear ho0); have hcz31_0 : w30.cell? ⟨gb239, 0, none⟩ = some (.int .i64 ((rd_T30 l0 0).f0)) := (blk_cell BK239.out 0).trans rfl; have hcz31_1 : w30.cell? ⟨gb239, 1, none⟩ = some (.int .u64 x240001_1) := (blk_cell BK239.out 1).trans rfl; have hcz31_2 : w30.cell? ⟨gb239, 2, none⟩ = some (.slice none 0 0) := (blk_cell BK239.out 2).trans rfl; have hfz31_0 := blk_frozen BK239.out 0; have hfz31_1 := blk_frozen BK239.out 1; have hfz31_2 := blk_frozen BK239.out 2; obtain ⟨Ao32, co32, eo32⟩ := Kd.R_slice HO245.out; subst eo32) | ((with_reducible refine gate_callee (f := 42) rfl ?_); refine goesL_ (some 53) rfl rfl Try.func42 (by kernel_rfl) rfl #[.slice Ao32 t243.length co32, .int .i64 ((rd_T30 l0 0).f0)] rfl (by (try simp only [List.map_toArray, List.map_cons, List.map_nil]); first | done | rfl | (simp only [List.length_drop, List.length_take]; rfl)) ?_; (with_reducible refine (skylightref18_cut.calls k1 _ _ t243 ((rd_T30 l0 0).f0) t246 _ ?side1 ?side2 A26.out).mono ?_); (case side1 => repeat (first | exact (Kd.R_reads' HO245.out).2.2 | (with_reducible refine Kd.C_alloc ?_ _) | (with_reducible refine Kd.C_drewN ?_ _) | (with_reducible refine Kd.C_drew ?_))); (case side2 => exact (Kd.R_reads' HO245.out).2.1); rintro e w' ⟨rfl, ⟨nd, rfl⟩⟩; refine ⟨_, rfl, ?_⟩; (try (rw [drewN_self w30]; generalize hq_ : World.drewN w30 _ = w30; have n0_ : Aside0 (Kd.R k51 51 w30 w.heap.size (fun _ => True) (.slice Ao32 t243.length co32) t243) := ⟨by rw [← hq_]; exact (by (with_reducible repeat (first | apply Kd.R_alloc | apply Kd.R_drewN | apply Kd.R_drew)); exact HO245.out)⟩; have n1_ : Aside0 (w30.heap[gb237]? = some (.cells #[.int .i64 x238000_1, .int .u64 x238001_1, .slice none 0 0] 30 (0, 0))) := ⟨by rw [← hq_]; exact (by (with_reducible repeat (first | refine blk_drewN ?_ _ | refine blk_drew ?_ | refine blk_alloc ?_ _)); exact BK237.out)⟩; have n2_ : Aside0 (w30.heap[gb239]? = some (.cells #[.int .i64 ((rd_T30 l0 0).f0), .int .u64 x240001_1, .slice none 0 0] 30 (0, 0))) := ⟨by rw [← hq_]; exact (by (with_reducible repeat (first | refine blk_drewN ?_ _ | refine blk_drew ?_ | refine blk_alloc ?_ _)); exact BK239.out)⟩; have n3_ : Aside0 (Below w.heap.size w w30) := ⟨by rw [← hq_]; exact (by repeat (first | (with_reducible first | exact HB.out | apply below_alloc | apply pw_below_drewN | apply below_drew1 | refine below_set ?_ GE237.out | refine below_set ?_ GE239.out) | exact HB.out))⟩; clear HO245 BK237 BK239 HB hq_; have HO245 := n0_; have BK237 := n1_; have BK239 := n2_; have HB := n3_; clear n0_ n1_ n2_ n3_))) | ((with_reducible refine gate_callee (f := 41) rfl ?_); refine goesL_ (some 54) rfl rfl Try.func41 (by kernel_rfl) rfl #[.slice Ao32 t243.length co32, .int .u64 t246] rfl (by (try simp only [List.map_toArray, List.map_cons, List.map_nil]); first | done | rfl | (simp only [List.length_drop, List.length_take]; rfl)) ?_; (with_reducible refine (skylightref17_Less.calls k1 _ _ t243 t246 t247 _ ?side1 ?side2 A27.out).mono ?_); (case side1 => repeat (first | exact (Kd.R_reads' HO245.out).2.2 | (with_reducible refine Kd.C_alloc ?_ _) | (with_reducible refine Kd.C_drewN ?_ _) | (with_reducible refine Kd.C_drew ?_))); (case side2 => exact (Kd.R_reads' HO245.out).2.1); rintro e w33 ⟨v248, rfl, ho0, hb⟩; refine ⟨_, rfl, ?_⟩; have n0_ := Aside0.mk (Kd.R_elder' (by (with_reducible repeat (first | apply Kd.R_alloc | apply Kd.R_drewN | apply Kd.R_drew)); exact HO245.out) (Kd.R_base ho0) hb); have n1_ := Aside0.mk (Kd.R_lower (Kd.R_new' ho0 (Kd.R_lt (by (with_reducible repeat (first | apply Kd.R_alloc | apply Kd.R_drewN | apply Kd.R_drew)); exact HO245.out))) (below_size (by repeat (first | (with_reducible first | exact HB.out | apply below_alloc | apply pw_below_drewN | apply below_drew1 | refine below_set ?_ GE237.out | refine below_set ?_ GE239.out) | exact HB.out)))); have n2_ := Aside0.mk (blk_below (g := gb237) (o := .cells #[.int .i64 x238000_1, .int .u64 x238001_1, .slice none 0 0] 30 (0, 0)) (by (with_reducible repeat (first | refine blk_drewN ?_ _ | refine blk_drew ?_ | refine blk_alloc ?_ _)); exact BK237.out) hb); have n3_ := Aside0.mk (blk_below (g := gb239) (o := .cells #[.int .i64 ((rd_T30 l0 0).f0), .int .u64 x240001_1, .slice none 0 0] 30 (0, 0)) (by (with_reducible repeat (first | refine blk_drewN ?_ _ | refine blk_drew ?_ | refine blk_alloc ?_ _)); exact BK239.out) hb); have n4_ := Aside0.mk (below_step (by repeat (first | (with_reducible first | exact HB.out | apply below_alloc | apply pw_below_drewN | apply below_drew1 | refine below_set ?_ GE237.out | refine below_set ?_ GE239.out) | exact HB.out)) hb); clear HO245; clear BK237; clear BK239; clear HB; have HO245 := n0_; have HO249 := n1_; have BK237 := n2_; have BK239 := n3_; have HB := n4_; clear n0_ n1_ n2_ n3_ n4_; (try clear hb); (try clear hb2); (try clear hk); (try clear hi); (try clear ho0); obtain ⟨Ao34, co34, eo34⟩ := Kd.R_slice HO249.out; subst eo34; have hcz35_0 : w33.cell? ⟨gb239, 0, none⟩ = some (.int .i64 ((rd_T30 l0 0).f0)) := (blk_cell BK239.out 0).trans rfl; have hcz35_1 : w33.cell? ⟨gb239, 1, none⟩ = some (.int .u64 x240001_1) := (blk_cell BK239.out 1).trans rfl; have hcz35_2 : w33.cell? ⟨gb239, 2, none⟩ = some (.slice none 0 0) := (blk_cell BK239.out 2).trans rfl; have hfz35_0 := blk_frozen BK239.out 0; have hfz35_1 := blk_frozen BK239.out 1; have hfz35_2 := blk_frozen BK239.out 2; have hcz36_0 : w33.cell? ⟨gb237, 0, none⟩ = some (.int .i64 x238000_1) := (blk_cell BK237.out 0).trans rfl; have hcz36_1 : w33.cell? ⟨gb237, 1, none⟩ = some (.int .u64 x238001_1) := (blk_cell BK237.out 1).trans rfl; have hcz36_2 : w33.cell? ⟨gb237, 2, none⟩ = some (.slice none 0 0) := (blk_cell BK237.out 2).trans rfl; have hfz36_0 := blk_frozen BK237.out 0; have hfz36_1 := blk_frozen BK237.out 1; have hfz36_2 := blk_frozen BK237.out 2))
              refine bodyPost_ret (results_ct rfl _ _ gb237 30 #[.int .i64 ((rd_T30 l0 0).f0), .int .u64 x240001_1, .slice Ao34 t247.length co34] (0, 0) _ rfl (by (with_reducible repeat (first | refine blk_drewN ?_ _ | refine blk_drew ?_ | refine blk_alloc ?_ _)); refine blk_put (cs := #[.int .i64 ((rd_T30 l0 0).f0), .int .u64 x240001_1, .slice none 0 0]) ?_ 2 _ rfl; (with_reducible repeat (first | refine blk_drewN ?_ _ | refine blk_drew ?_ | refine blk_alloc ?_ _)); refine blk_put (cs := #[.int .i64 ((rd_T30 l0 0).f0), .int .u64 x238001_1, .slice none 0 0]) ?_ 1 _ rfl; (with_reducible repeat (first | refine blk_drewN ?_ _ | refine blk_drew ?_ | refine blk_alloc ?_ _)); refine blk_put (cs := #[.int .i64 x238000_1, .int .u64 x238001_1, .slice none 0 0]) ?_ 0 _ rfl; (with_reducible repeat (first | refine blk_drewN ?_ _ | refine blk_drew ?_ | refine blk_alloc ?_ _)); refine blk_far ?_ NB237_239.out _; (with_reducible repeat (first | refine blk_drewN ?_ _ | refine blk_drew ?_ | refine blk_alloc ?_ _)); exact BK237.out) Try.underlying30 rfl (by kernel_rfl)) rfl ?_
              exact ⟨_, by first | rfl | (simp [errW_none, errW_some] <;> rfl) | (simp [*, errW_none, errW_some] <;> rfl), by (with_reducible repeat (first | apply Kd.R_alloc | apply Kd.R_drewN | apply Kd.R_drew)); exact Kd.R_mono (Kd.R_far (p := ⟨gb237, 2, none⟩) (Kd.R_far (p := ⟨gb237, 1, none⟩) (Kd.R_far (p := ⟨gb237, 0, none⟩) (Kd.R_far (p := ⟨gb239, 2, none⟩) (Kd.R_types (Kd.R_types HO249.out BK239.out (by decide)) BK237.out (by decide)) (fun _ hk => hk.1.2) (.slice Ao34 t247.length co34)) (fun _ hk => hk.2) (.int .i64 ((rd_T30 l0 0).f0))) (fun _ hk => hk.2) (.int .u64 x240001_1)) (fun _ hk => hk.2) (.slice Ao34 t247.length co34)) (fun _ hk => trivial), by repeat (first | (with_reducible first | exact HB.out | apply below_alloc | apply pw_below_drewN | apply below_drew1 | refine below_set ?_ GE237.out | refine below_set ?_ GE239.out) | exact HB.out)⟩
    · rw [if_neg c5] at H
      exact absurd H (by simp)

/-! ### skylightref17_Items: function 63 -/
def skylightref17_Items.l0 : Nat → List (S51) → List (S51) → Int → Option (Bool)
  | 0, _, _, _ => none
  | k + 1, x0, x1, x5 => if x5 < (x0.length : Int) then (if 0 ≤ x5 then (if x5 < (x1.length : Int) then (if (!(((rd_T51 x0 x5).f0) == ((rd_T51 x1 x5).f0)) || (!(((rd_T51 x0 x5).f1) == ((rd_T51 x1 x5).f1)))) = true then (some false) else (skylightref17_Items.l0 k x0 x1 (wrap64 (x5 + 1)))) else (none)) else (none)) else (some true)
def skylightref17_Items.f (k : Nat) (l0 : List (S51)) (l1 : List (S51)) : Option (Bool) := if (l0.length : Int) = (l1.length : Int) then (skylightref17_Items.l0 k l0 l1 0) else (some false)
theorem skylightref17_Items.mono_l : ∀ k, (∀ y0 y1 y2, LeO (skylightref17_Items.l0 k y0 y1 y2) (skylightref17_Items.l0 (k + 1) y0 y1 y2))
  | 0 => fun _ _ _ r h => by simp [skylightref17_Items.l0] at h
  | k + 1 => by
    have ih0 := skylightref17_Items.mono_l k
    · intro y0 y1 y2
      unfold skylightref17_Items.l0
      repeat' first
      | (with_reducible exact ih0 _ _ _)
      | (with_reducible exact LeO.refl _)
      | (with_reducible exact LeO.none _)
      | (with_reducible refine LeO.ite ?_ ?_)
      | (with_reducible refine LeO.bind ?_ (fun _ => ?_))
      | exact ih0 _ _ _
      | exact LeO.none _
      | refine LeO.ite ?_ ?_
      | refine LeO.bind ?_ (fun _ => ?_)
theorem skylightref17_Items.mono : ∀ a0 a1 k, LeO (skylightref17_Items.f k a0 a1) (skylightref17_Items.f (k + 1) a0 a1) := by
  intro a0 a1 k
  have ih0 := skylightref17_Items.mono_l k
  unfold skylightref17_Items.f
  repeat' first
      | (with_reducible exact ih0 _ _ _)
      | (with_reducible exact LeO.refl _)
      | (with_reducible exact LeO.none _)
      | (with_reducible refine LeO.ite ?_ ?_)
      | (with_reducible refine LeO.bind ?_ (fun _ => ?_))
      | exact ih0 _ _ _
      | exact LeO.none _
      | refine LeO.ite ?_ ?_
      | refine LeO.bind ?_ (fun _ => ?_)
set_option maxHeartbeats 8000000 in
set_option maxRecDepth 100000 in
theorem skylightref17_Items.calls (k : Nat) (A0 : Option Addr) (c0 : Nat) (l0 : List (S51)) (A1 : Option Addr) (c1 : Nat) (l1 : List (S51)) (r : Bool) (w : World) (hr0 : Kd.C k51 w A0 l0.length l0) (hc0 : l0.length ≤ c0) (hr1 : Kd.C k51 w A1 l1.length l1) (hc1 : l1.length ≤ c1) (h : skylightref17_Items.f k l0 l1 = some r) :
    Calls Try.prog 63 #[.slice A0 l0.length c0, .slice A1 l1.length c1] w fun e w' => e = .returned (.bool r) ∧ Drawn0 w w' := by
  have hu51 := Try.underlying51
  have HR0 := Aside0.mk hr0
  have HC0 := Aside0.mk hc0
  clear hr0 hc0
  have HR1 := Aside0.mk hr1
  have HC1 := Aside0.mk hc1
  clear hr1 hc1
  have H : (if (l0.length : Int) = (l1.length : Int) then (skylightref17_Items.l0 k l0 l1 0) else (some false)) = some r := h
  clear h
  by_cases c3 : (l0.length : Int) = (l1.length : Int)
  · rw [if_pos c3] at H
    have c3b0 : ((l0.length : Int) == (l1.length : Int)) = true := beq_iff_eq.mpr c3
    have c3b1 : ((l0.length : Int) != (l1.length : Int)) = false := bne_eq_false_iff_eq.mpr c3
    have c3b2 : (l0.length == l1.length) = true := by first | simpa using c3 | (simp at c3 ⊢; omega)
    clear c3
    have H' := Aside0.mk H
    clear H
    go_enter Try.func63, Try.ntmps63
    go_wp2
    repeat (go_quiet (fail); try go_wp2)
    go_loopg [5] k (fun kq v5 w' => ∃ (x5_1 : Int), v5 = .int .i64 x5_1 ∧ Aside0 (skylightref17_Items.l0 kq l0 l1 x5_1 = some r) ∧ Aside0 (kq ≤ k) ∧ Drawn0 w w')
    case atStart => exact ⟨(0), (by first | rfl | (simp; done) | (simp [*]; done)), H', ⟨Nat.le_refl _⟩, by repeat (first | exact Drawn0.refl _ | apply Drawn0.step)⟩
    case round =>
      clear H'
      try clear c1
      try clear p2
      try clear c3
      try clear c3b0
      try clear c3b1
      try clear c3b2
      obtain ⟨x5_1, rfl, HA, HK1, ⟨m1, rfl⟩⟩ := hrel
      cases gk with
      | zero => exact absurd HA.out (by simp [skylightref17_Items.l0])
      | succ k1 =>
        have H := HA.out
        clear HA
        simp only [skylightref17_Items.l0] at H
        by_cases c4 : x5_1 < (l0.length : Int)
        · rw [if_pos c4] at H
          have c4b0 : decide (x5_1 < (l0.length : Int)) = true := decide_eq_true c4
          clear c4
          by_cases c5 : 0 ≤ x5_1
          · rw [if_pos c5] at H
            have c5b0 : decide (0 ≤ x5_1) = true := decide_eq_true c5
            clear c5
            by_cases c6 : x5_1 < (l1.length : Int)
            · rw [if_pos c6] at H
              have c6b0 : decide (x5_1 < (l1.length : Int)) = true := decide_eq_true c6
              clear c6
              by_cases c7 : (!(((rd_T51 l0 x5_1).f0) == ((rd_T51 l1 x5_1).f0)) || (!(((rd_T51 l0 x5_1).f1) == ((rd_T51 l1 x5_1).f1)))) = true
              · rw [if_pos c7] at H
                have c7b0 : (!(((rd_T51 l0 x5_1).f0) == ((rd_T51 l1 x5_1).f0)) || (!(((rd_T51 l0 x5_1).f1) == ((rd_T51 l1 x5_1).f1)))) = true := c7
                clear c7
                obtain rfl := Option.some.inj H
                have p250 : 0 ≤ (x5_1 : Int) := of_decide_eq_true (by first | (with_reducible assumption) | assumption)
                have q250 : x5_1 < (l0.length : Int) := of_decide_eq_true (by first | (with_reducible assumption) | assumption)
                obtain ⟨ad250, e250, hx250_0, hx250_1⟩ := at_T51 HR0.out x5_1 p250 q250
                cases e250
                replace p250 := eq_true p250
                replace q250 := eq_true q250
                have p251 : 0 ≤ (x5_1 : Int) := of_decide_eq_true (by first | (with_reducible assumption) | assumption)
                have q251 : x5_1 < (l1.length : Int) := of_decide_eq_true (by first | (with_reducible assumption) | assumption)
                obtain ⟨ad251, e251, hx251_0, hx251_1⟩ := at_T51 HR1.out x5_1 p251 q251
                cases e251
                replace p251 := eq_true p251
                replace q251 := eq_true q251
                go_wp2
                repeat (go_quiet (fail); try go_wp2)
                go_ret
                exact ⟨by first | rfl | (simp; done) | (simp [*]; done), by repeat (first | exact Drawn0.refl _ | apply Drawn0.step)⟩
              · rw [if_neg c7] at H
                have c7b0 : (!(((rd_T51 l0 x5_1).f0) == ((rd_T51 l1 x5_1).f0)) || (!(((rd_T51 l0 x5_1).f1) == ((rd_T51 l1 x5_1).f1)))) = false := by simpa using c7
                clear c7
                have H' := Aside0.mk H
                clear H
                have p250 : 0 ≤ (x5_1 : Int) := of_decide_eq_true (by first | (with_reducible assumption) | assumption)
                have q250 : x5_1 < (l0.length : Int) := of_decide_eq_true (by first | (with_reducible assumption) | assumption)
                obtain ⟨ad250, e250, hx250_0, hx250_1⟩ := at_T51 HR0.out x5_1 p250 q250
                cases e250
                replace p250 := eq_true p250
                replace q250 := eq_true q250
                have p251 : 0 ≤ (x5_1 : Int) := of_decide_eq_true (by first | (with_reducible assumption) | assumption)
                have q251 : x5_1 < (l1.length : Int) := of_decide_eq_true (by first | (with_reducible assumption) | assumption)
                obtain ⟨ad251, e251, hx251_0, hx251_1⟩ := at_T51 HR1.out x5_1 p251 q251
                cases e251
                replace p251 := eq_true p251
                replace q251 := eq_true q251
                go_wp2
                repeat (go_quiet (fail); try go_wp2)
                go_roundg k1
                case measure => have := HK1.out; omega
                case rel => exact ⟨(wrap64 (x5_1 + 1)), (by first | rfl | (simp; done) | (simp [*]; done)), H', ⟨by have := HK1.out; omega⟩, by repeat (first | exact Drawn0.refl _ | apply Drawn0.step)⟩
            · rw [if_neg c6] at H
              exact absurd H (by simp)
          · rw [if_neg c5] at H
            exact absurd H (by simp)
        · rw [if_neg c4] at H
          have c4b0 : decide (x5_1 < (l0.length : Int)) = false := decide_eq_false c4
          clear c4
          obtain rfl := Option.some.inj H
          go_wp2
          repeat (go_quiet (fail); try go_wp2)
          go_ret
          exact ⟨by first | rfl | (simp; done) | (simp [*]; done), by repeat (first | exact Drawn0.refl _ | apply Drawn0.step)⟩
  · rw [if_neg c3] at H
    have c3b0 : ((l0.length : Int) == (l1.length : Int)) = false := beq_eq_false_iff_ne.mpr c3
    have c3b1 : ((l0.length : Int) != (l1.length : Int)) = true := bne_iff_ne.mpr c3
    have c3b2 : (l0.length == l1.length) = false := by first | simpa using c3 | (simp at c3 ⊢; omega)
    obtain rfl := Option.some.inj H
    go_enter Try.func63, Try.ntmps63
    go_wp2
    repeat (go_quiet (fail); try go_wp2)
    go_ret
    exact ⟨by first | rfl | (simp; done) | (simp [*]; done), by repeat (first | exact Drawn0.refl _ | apply Drawn0.step)⟩

/-! ### skylightref17_Same: function 37 -/
def skylightref17_Same.f (k : Nat) (a0_0 : Int) (a0_1 : Int) (l0_2 : List (S51)) (a1_0 : Int) (a1_1 : Int) (l1_2 : List (S51)) : Option (Bool) := if a0_0 = a1_0 then (if a0_1 = a1_1 then ((skylightref17_Items.f k l0_2 l1_2).bind fun t254 => (some t254)) else (some false)) else (some false)
theorem skylightref17_Same.mono : ∀ a0 a1 a2 a3 a4 a5 k, LeO (skylightref17_Same.f k a0 a1 a2 a3 a4 a5) (skylightref17_Same.f (k + 1) a0 a1 a2 a3 a4 a5) := by
  intro a0 a1 a2 a3 a4 a5 k
  unfold skylightref17_Same.f
  repeat' first
      | (with_reducible exact skylightref17_Items.mono _ _ _)
      | (with_reducible exact LeO.refl _)
      | (with_reducible exact LeO.none _)
      | (with_reducible refine LeO.ite ?_ ?_)
      | (with_reducible refine LeO.bind ?_ (fun _ => ?_))
      | exact skylightref17_Items.mono _ _ _
      | exact LeO.none _
      | refine LeO.ite ?_ ?_
      | refine LeO.bind ?_ (fun _ => ?_)
set_option maxHeartbeats 8000000 in
set_option maxRecDepth 100000 in
theorem skylightref17_Same.calls (k : Nat) (a0_0 : Int) (a0_1 : Int) (A0_2 : Option Addr) (c0_2 : Nat) (l0_2 : List (S51)) (a1_0 : Int) (a1_1 : Int) (A1_2 : Option Addr) (c1_2 : Nat) (l1_2 : List (S51)) (r : Bool) (w : World) (hr0_2 : Kd.C k51 w A0_2 l0_2.length l0_2) (hc0_2 : l0_2.length ≤ c0_2) (hr1_2 : Kd.C k51 w A1_2 l1_2.length l1_2) (hc1_2 : l1_2.length ≤ c1_2) (h : skylightref17_Same.f k a0_0 a0_1 l0_2 a1_0 a1_1 l1_2 = some r) :
    Calls Try.prog 37 #[.agg #[.int .i64 a0_0, .int .u64 a0_1, .slice A0_2 l0_2.length c0_2], .agg #[.int .i64 a1_0, .int .u64 a1_1, .slice A1_2 l1_2.length c1_2]] w fun e w' => e = .returned (.bool r) ∧ Below w.heap.size w w' := by
  have hu30 := Try.underlying30
  have HR0_2 := Aside0.mk hr0_2
  have HC0_2 := Aside0.mk hc0_2
  clear hr0_2 hc0_2
  have HR1_2 := Aside0.mk hr1_2
  have HC1_2 := Aside0.mk hc1_2
  clear hr1_2 hc1_2
  have HB := Aside0.mk (Below.refl w.heap.size w)
  have H : (if a0_0 = a1_0 then (if a0_1 = a1_1 then ((skylightref17_Items.f k l0_2 l1_2).bind fun t254 => (some t254)) else (some false)) else (some false)) = some r := h
  clear h
  by_cases c3 : a0_0 = a1_0
  · rw [if_pos c3] at H
    have c3b0 : (a0_0 == a1_0) = true := beq_iff_eq.mpr c3
    have c3b1 : (a0_0 != a1_0) = false := bne_eq_false_iff_eq.mpr c3
    clear c3
    by_cases c4 : a0_1 = a1_1
    · rw [if_pos c4] at H
      have c4b0 : (a0_1 == a1_1) = true := beq_iff_eq.mpr c4
      have c4b1 : (a0_1 != a1_1) = false := bne_eq_false_iff_eq.mpr c4
      clear c4
      replace H := Option.bind_eq_some_iff.mp H
      obtain ⟨t254, A50, H⟩ := H
      replace H : (some t254) = some r := H
      have A5 := Aside0.mk A50
      clear A50
      obtain rfl := Option.some.inj H
      go_enter Try.func37, Try.ntmps37
      go_wp2_with (first | ((with_reducible refine gate_dst (N := 2) rfl ?_); refine box_event ?hg (N := 2) ?hd (cs := #[.int .i64 a0_0, .int .u64 a0_1, .slice A0_2 l0_2.length c0_2]) (t := 30) ?hr ?_; (case hd => rfl); (case hg => rfl); (case hr => first | (go_simp; done) | (go_simp; rfl)); intro gb252 hg w6 hbox hb; have n0_ := Aside0.mk (below_step (by repeat (first | (with_reducible first | exact HB.out | apply below_alloc | apply pw_below_drewN | apply below_drew1) | exact HB.out)) hb); have n1_ := Aside0.mk (hbox); have n2_ := Aside0.mk ((by rw [hg]; exact (below_size (by repeat (first | (with_reducible first | exact HB.out | apply below_alloc | apply pw_below_drewN | apply below_drew1) | exact HB.out))) : w.heap.size ≤ gb252)); have n3_ := Aside0.mk ((by rw [hg]; exact (below_size (by repeat (first | (with_reducible first | exact HB.out | apply below_alloc | apply pw_below_drewN | apply below_drew1) | exact HB.out))) : w.heap.size ≤ gb252)); clear HB; have HB := n0_; have BK252 := n1_; have GW252 := n2_; have GE252 := n3_; clear n0_ n1_ n2_ n3_; clear hb hbox hg) | ((with_reducible refine gate_dst (N := 3) rfl ?_); refine box_event ?hg (N := 3) ?hd (cs := #[.int .i64 a1_0, .int .u64 a1_1, .slice A1_2 l1_2.length c1_2]) (t := 30) ?hr ?_; (case hd => rfl); (case hg => rfl); (case hr => first | (go_simp; done) | (go_simp; rfl)); intro gb253 hg w7 hbox hb; have n0_ := Aside0.mk (blk_below (g := gb252) (o := .cells #[.int .i64 a0_0, .int .u64 a0_1, .slice A0_2 l0_2.length c0_2] 30 (0, 0)) (by (with_reducible repeat (first | refine blk_drewN ?_ _ | refine blk_drew ?_ | refine blk_alloc ?_ _)); exact BK252.out) hb); have n1_ := Aside0.mk (below_step (by repeat (first | (with_reducible first | exact HB.out | apply below_alloc | apply pw_below_drewN | apply below_drew1 | refine below_set ?_ GE252.out) | exact HB.out)) hb); have n2_ := Aside0.mk (hbox); have n3_ := Aside0.mk ((by rw [hg]; exact (below_size (by repeat (first | (with_reducible first | exact HB.out | apply below_alloc | apply pw_below_drewN | apply below_drew1 | refine below_set ?_ GE252.out) | exact HB.out))) : w.heap.size ≤ gb253)); have n4_ := Aside0.mk ((by rw [hg]; exact (below_size (by repeat (first | (with_reducible first | exact HB.out | apply below_alloc | apply pw_below_drewN | apply below_drew1 | refine below_set ?_ GE252.out) | exact HB.out))) : w.heap.size ≤ gb253)); have n5_ := Aside0.mk ((by rw [hg]; exact Nat.ne_of_lt (blk_lt (g := gb252) (o := .cells #[.int .i64 a0_0, .int .u64 a0_1, .slice A0_2 l0_2.length c0_2] 30 (0, 0)) (by (with_reducible repeat (first | refine blk_drewN ?_ _ | refine blk_drew ?_ | refine blk_alloc ?_ _)); exact BK252.out)) : gb252 ≠ gb253)); have n6_ := Aside0.mk ((by rw [hg]; exact Nat.ne_of_gt (blk_lt (g := gb252) (o := .cells #[.int .i64 a0_0, .int .u64 a0_1, .slice A0_2 l0_2.length c0_2] 30 (0, 0)) (by (with_reducible repeat (first | refine blk_drewN ?_ _ | refine blk_drew ?_ | refine blk_alloc ?_ _)); exact BK252.out)) : gb253 ≠ gb252)); clear BK252; clear HB; have BK252 := n0_; have HB := n1_; have BK253 := n2_; have GW253 := n3_; have GE253 := n4_; have NB252_253 := n5_; have NB253_252 := n6_; clear n0_ n1_ n2_ n3_ n4_ n5_ n6_; clear hb hbox hg; have hnb8 := NB252_253.out; have hnc8 := NB253_252.out; have hcz9_0 : w7.cell? ⟨gb252, 0, none⟩ = some (.int .i64 a0_0) := (blk_cell BK252.out 0).trans rfl; have hcz9_1 : w7.cell? ⟨gb252, 1, none⟩ = some (.int .u64 a0_1) := (blk_cell BK252.out 1).trans rfl; have hcz9_2 : w7.cell? ⟨gb252, 2, none⟩ = some (.slice A0_2 l0_2.length c0_2) := (blk_cell BK252.out 2).trans rfl; have hfz9_0 := blk_frozen BK252.out 0; have hfz9_1 := blk_frozen BK252.out 1; have hfz9_2 := blk_frozen BK252.out 2; have hcz10_0 : w7.cell? ⟨gb253, 0, none⟩ = some (.int .i64 a1_0) := (blk_cell BK253.out 0).trans rfl; have hcz10_1 : w7.cell? ⟨gb253, 1, none⟩ = some (.int .u64 a1_1) := (blk_cell BK253.out 1).trans rfl; have hcz10_2 : w7.cell? ⟨gb253, 2, none⟩ = some (.slice A1_2 l1_2.length c1_2) := (blk_cell BK253.out 2).trans rfl; have hfz10_0 := blk_frozen BK253.out 0; have hfz10_1 := blk_frozen BK253.out 1; have hfz10_2 := blk_frozen BK253.out 2) | (go_at_call 63; (with_reducible refine (skylightref17_Items.calls k _ _ l0_2 _ _ l1_2 t254 _ ?side1 ?side2 ?side3 ?side4 A5.out).mono ?_); (case side1 => repeat (first | exact (Kd.C_below HR0_2.out HB.out) | (with_reducible refine Kd.C_alloc ?_ _) | (with_reducible refine Kd.C_drewN ?_ _) | (with_reducible refine Kd.C_drew ?_))); (case side2 => exact HC0_2.out); (case side3 => repeat (first | exact (Kd.C_below HR1_2.out HB.out) | (with_reducible refine Kd.C_alloc ?_ _) | (with_reducible refine Kd.C_drewN ?_ _) | (with_reducible refine Kd.C_drew ?_))); (case side4 => exact HC1_2.out); rintro e w' ⟨rfl, ⟨nd, rfl⟩⟩))
      go_ret
      exact ⟨by first | rfl | (simp [errW_none, errW_some] <;> rfl) | (simp [*, errW_none, errW_some] <;> rfl), by repeat (first | (with_reducible first | exact HB.out | apply below_alloc | apply pw_below_drewN | apply below_drew1 | refine below_set ?_ GE252.out | refine below_set ?_ GE253.out) | exact HB.out)⟩
    · rw [if_neg c4] at H
      have c4b0 : (a0_1 == a1_1) = false := beq_eq_false_iff_ne.mpr c4
      have c4b1 : (a0_1 != a1_1) = true := bne_iff_ne.mpr c4
      obtain rfl := Option.some.inj H
      go_enter Try.func37, Try.ntmps37
      go_wp2_with (first | ((with_reducible refine gate_dst (N := 2) rfl ?_); refine box_event ?hg (N := 2) ?hd (cs := #[.int .i64 a0_0, .int .u64 a0_1, .slice A0_2 l0_2.length c0_2]) (t := 30) ?hr ?_; (case hd => rfl); (case hg => rfl); (case hr => first | (go_simp; done) | (go_simp; rfl)); intro gb252 hg w11 hbox hb; have n0_ := Aside0.mk (below_step (by repeat (first | (with_reducible first | exact HB.out | apply below_alloc | apply pw_below_drewN | apply below_drew1) | exact HB.out)) hb); have n1_ := Aside0.mk (hbox); have n2_ := Aside0.mk ((by rw [hg]; exact (below_size (by repeat (first | (with_reducible first | exact HB.out | apply below_alloc | apply pw_below_drewN | apply below_drew1) | exact HB.out))) : w.heap.size ≤ gb252)); have n3_ := Aside0.mk ((by rw [hg]; exact (below_size (by repeat (first | (with_reducible first | exact HB.out | apply below_alloc | apply pw_below_drewN | apply below_drew1) | exact HB.out))) : w.heap.size ≤ gb252)); clear HB; have HB := n0_; have BK252 := n1_; have GW252 := n2_; have GE252 := n3_; clear n0_ n1_ n2_ n3_; clear hb hbox hg) | ((with_reducible refine gate_dst (N := 3) rfl ?_); refine box_event ?hg (N := 3) ?hd (cs := #[.int .i64 a1_0, .int .u64 a1_1, .slice A1_2 l1_2.length c1_2]) (t := 30) ?hr ?_; (case hd => rfl); (case hg => rfl); (case hr => first | (go_simp; done) | (go_simp; rfl)); intro gb253 hg w12 hbox hb; have n0_ := Aside0.mk (blk_below (g := gb252) (o := .cells #[.int .i64 a0_0, .int .u64 a0_1, .slice A0_2 l0_2.length c0_2] 30 (0, 0)) (by (with_reducible repeat (first | refine blk_drewN ?_ _ | refine blk_drew ?_ | refine blk_alloc ?_ _)); exact BK252.out) hb); have n1_ := Aside0.mk (below_step (by repeat (first | (with_reducible first | exact HB.out | apply below_alloc | apply pw_below_drewN | apply below_drew1 | refine below_set ?_ GE252.out) | exact HB.out)) hb); have n2_ := Aside0.mk (hbox); have n3_ := Aside0.mk ((by rw [hg]; exact (below_size (by repeat (first | (with_reducible first | exact HB.out | apply below_alloc | apply pw_below_drewN | apply below_drew1 | refine below_set ?_ GE252.out) | exact HB.out))) : w.heap.size ≤ gb253)); have n4_ := Aside0.mk ((by rw [hg]; exact (below_size (by repeat (first | (with_reducible first | exact HB.out | apply below_alloc | apply pw_below_drewN | apply below_drew1 | refine below_set ?_ GE252.out) | exact HB.out))) : w.heap.size ≤ gb253)); have n5_ := Aside0.mk ((by rw [hg]; exact Nat.ne_of_lt (blk_lt (g := gb252) (o := .cells #[.int .i64 a0_0, .int .u64 a0_1, .slice A0_2 l0_2.length c0_2] 30 (0, 0)) (by (with_reducible repeat (first | refine blk_drewN ?_ _ | refine blk_drew ?_ | refine blk_alloc ?_ _)); exact BK252.out)) : gb252 ≠ gb253)); have n6_ := Aside0.mk ((by rw [hg]; exact Nat.ne_of_gt (blk_lt (g := gb252) (o := .cells #[.int .i64 a0_0, .int .u64 a0_1, .slice A0_2 l0_2.length c0_2] 30 (0, 0)) (by (with_reducible repeat (first | refine blk_drewN ?_ _ | refine blk_drew ?_ | refine blk_alloc ?_ _)); exact BK252.out)) : gb253 ≠ gb252)); clear BK252; clear HB; have BK252 := n0_; have HB := n1_; have BK253 := n2_; have GW253 := n3_; have GE253 := n4_; have NB252_253 := n5_; have NB253_252 := n6_; clear n0_ n1_ n2_ n3_ n4_ n5_ n6_; clear hb hbox hg; have hnb13 := NB252_253.out; have hnc13 := NB253_252.out; have hcz14_0 : w12.cell? ⟨gb252, 0, none⟩ = some (.int .i64 a0_0) := (blk_cell BK252.out 0).trans rfl; have hcz14_1 : w12.cell? ⟨gb252, 1, none⟩ = some (.int .u64 a0_1) := (blk_cell BK252.out 1).trans rfl; have hcz14_2 : w12.cell? ⟨gb252, 2, none⟩ = some (.slice A0_2 l0_2.length c0_2) := (blk_cell BK252.out 2).trans rfl; have hfz14_0 := blk_frozen BK252.out 0; have hfz14_1 := blk_frozen BK252.out 1; have hfz14_2 := blk_frozen BK252.out 2; have hcz15_0 : w12.cell? ⟨gb253, 0, none⟩ = some (.int .i64 a1_0) := (blk_cell BK253.out 0).trans rfl; have hcz15_1 : w12.cell? ⟨gb253, 1, none⟩ = some (.int .u64 a1_1) := (blk_cell BK253.out 1).trans rfl; have hcz15_2 : w12.cell? ⟨gb253, 2, none⟩ = some (.slice A1_2 l1_2.length c1_2) := (blk_cell BK253.out 2).trans rfl; have hfz15_0 := blk_frozen BK253.out 0; have hfz15_1 := blk_frozen BK253.out 1; have hfz15_2 := blk_frozen BK253.out 2))
      go_ret
      exact ⟨by first | rfl | (simp [errW_none, errW_some] <;> rfl) | (simp [*, errW_none, errW_some] <;> rfl), by repeat (first | (with_reducible first | exact HB.out | apply below_alloc | apply pw_below_drewN | apply below_drew1 | refine below_set ?_ GE252.out | refine below_set ?_ GE253.out) | exact HB.out)⟩
  · rw [if_neg c3] at H
    have c3b0 : (a0_0 == a1_0) = false := beq_eq_false_iff_ne.mpr c3
    have c3b1 : (a0_0 != a1_0) = true := bne_iff_ne.mpr c3
    obtain rfl := Option.some.inj H
    go_enter Try.func37, Try.ntmps37
    go_wp2_with (first | ((with_reducible refine gate_dst (N := 2) rfl ?_); refine box_event ?hg (N := 2) ?hd (cs := #[.int .i64 a0_0, .int .u64 a0_1, .slice A0_2 l0_2.length c0_2]) (t := 30) ?hr ?_; (case hd => rfl); (case hg => rfl); (case hr => first | (go_simp; done) | (go_simp; rfl)); intro gb252 hg w16 hbox hb; have n0_ := Aside0.mk (below_step (by repeat (first | (with_reducible first | exact HB.out | apply below_alloc | apply pw_below_drewN | apply below_drew1) | exact HB.out)) hb); have n1_ := Aside0.mk (hbox); have n2_ := Aside0.mk ((by rw [hg]; exact (below_size (by repeat (first | (with_reducible first | exact HB.out | apply below_alloc | apply pw_below_drewN | apply below_drew1) | exact HB.out))) : w.heap.size ≤ gb252)); have n3_ := Aside0.mk ((by rw [hg]; exact (below_size (by repeat (first | (with_reducible first | exact HB.out | apply below_alloc | apply pw_below_drewN | apply below_drew1) | exact HB.out))) : w.heap.size ≤ gb252)); clear HB; have HB := n0_; have BK252 := n1_; have GW252 := n2_; have GE252 := n3_; clear n0_ n1_ n2_ n3_; clear hb hbox hg) | ((with_reducible refine gate_dst (N := 3) rfl ?_); refine box_event ?hg (N := 3) ?hd (cs := #[.int .i64 a1_0, .int .u64 a1_1, .slice A1_2 l1_2.length c1_2]) (t := 30) ?hr ?_; (case hd => rfl); (case hg => rfl); (case hr => first | (go_simp; done) | (go_simp; rfl)); intro gb253 hg w17 hbox hb; have n0_ := Aside0.mk (blk_below (g := gb252) (o := .cells #[.int .i64 a0_0, .int .u64 a0_1, .slice A0_2 l0_2.length c0_2] 30 (0, 0)) (by (with_reducible repeat (first | refine blk_drewN ?_ _ | refine blk_drew ?_ | refine blk_alloc ?_ _)); exact BK252.out) hb); have n1_ := Aside0.mk (below_step (by repeat (first | (with_reducible first | exact HB.out | apply below_alloc | apply pw_below_drewN | apply below_drew1 | refine below_set ?_ GE252.out) | exact HB.out)) hb); have n2_ := Aside0.mk (hbox); have n3_ := Aside0.mk ((by rw [hg]; exact (below_size (by repeat (first | (with_reducible first | exact HB.out | apply below_alloc | apply pw_below_drewN | apply below_drew1 | refine below_set ?_ GE252.out) | exact HB.out))) : w.heap.size ≤ gb253)); have n4_ := Aside0.mk ((by rw [hg]; exact (below_size (by repeat (first | (with_reducible first | exact HB.out | apply below_alloc | apply pw_below_drewN | apply below_drew1 | refine below_set ?_ GE252.out) | exact HB.out))) : w.heap.size ≤ gb253)); have n5_ := Aside0.mk ((by rw [hg]; exact Nat.ne_of_lt (blk_lt (g := gb252) (o := .cells #[.int .i64 a0_0, .int .u64 a0_1, .slice A0_2 l0_2.length c0_2] 30 (0, 0)) (by (with_reducible repeat (first | refine blk_drewN ?_ _ | refine blk_drew ?_ | refine blk_alloc ?_ _)); exact BK252.out)) : gb252 ≠ gb253)); have n6_ := Aside0.mk ((by rw [hg]; exact Nat.ne_of_gt (blk_lt (g := gb252) (o := .cells #[.int .i64 a0_0, .int .u64 a0_1, .slice A0_2 l0_2.length c0_2] 30 (0, 0)) (by (with_reducible repeat (first | refine blk_drewN ?_ _ | refine blk_drew ?_ | refine blk_alloc ?_ _)); exact BK252.out)) : gb253 ≠ gb252)); clear BK252; clear HB; have BK252 := n0_; have HB := n1_; have BK253 := n2_; have GW253 := n3_; have GE253 := n4_; have NB252_253 := n5_; have NB253_252 := n6_; clear n0_ n1_ n2_ n3_ n4_ n5_ n6_; clear hb hbox hg; have hnb18 := NB252_253.out; have hnc18 := NB253_252.out; have hcz19_0 : w17.cell? ⟨gb252, 0, none⟩ = some (.int .i64 a0_0) := (blk_cell BK252.out 0).trans rfl; have hcz19_1 : w17.cell? ⟨gb252, 1, none⟩ = some (.int .u64 a0_1) := (blk_cell BK252.out 1).trans rfl; have hcz19_2 : w17.cell? ⟨gb252, 2, none⟩ = some (.slice A0_2 l0_2.length c0_2) := (blk_cell BK252.out 2).trans rfl; have hfz19_0 := blk_frozen BK252.out 0; have hfz19_1 := blk_frozen BK252.out 1; have hfz19_2 := blk_frozen BK252.out 2; have hcz20_0 : w17.cell? ⟨gb253, 0, none⟩ = some (.int .i64 a1_0) := (blk_cell BK253.out 0).trans rfl; have hcz20_1 : w17.cell? ⟨gb253, 1, none⟩ = some (.int .u64 a1_1) := (blk_cell BK253.out 1).trans rfl; have hcz20_2 : w17.cell? ⟨gb253, 2, none⟩ = some (.slice A1_2 l1_2.length c1_2) := (blk_cell BK253.out 2).trans rfl; have hfz20_0 := blk_frozen BK253.out 0; have hfz20_1 := blk_frozen BK253.out 1; have hfz20_2 := blk_frozen BK253.out 2))
    go_ret
    exact ⟨by first | rfl | (simp [errW_none, errW_some] <;> rfl) | (simp [*, errW_none, errW_some] <;> rfl), by repeat (first | (with_reducible first | exact HB.out | apply below_alloc | apply pw_below_drewN | apply below_drew1 | refine below_set ?_ GE252.out | refine below_set ?_ GE253.out) | exact HB.out)⟩

end Go.Proofs.Ytohginlodlijkaa.PH
