-- PRINTED by print.py (a twelfth state) out of the translation. Not trusted: Lean checks it.
import Derived.Test.YtohginlodlijkaaPHx0
import Derived.Test.YtohginlodlijkaaPHx3
namespace Go.Proofs.Ytohginlodlijkaa.PH
open Go.RowKit Go.Proofs.YtohginlodlijkaaW.PrintWords Go.Proofs.YtohginlodlijkaaW.PrintLast Go.Proofs.YtohginlodlijkaaW.PrintMore
attribute [local go_sem] max2_int min2_int max_two min_two max_three min_three max_four min_four   -- for this text's walks alone
set_option linter.unusedVariables false
set_option linter.unusedSimpArgs false

/-! ### skylightref17_Made: function 14 -/
mutual
def skylightref17_Made.l0 : Nat → List (S51) → List (S51) → Int → Int → Int → List (S51) → Option (Int × Int × (List (S51)) × (List (S51)))
  | 0, _, _, _, _, _, _ => none
  | k + 1, x1, x7, x8, x164000, x164001, x164002 => if x8 < (x1.length : Int) then (skylightref17_Made.j1 k x1 x7 x8 (decide (x8 < 40)) x164000 x164001 x164002) else (skylightref17_Made.j1 k x1 x7 x8 false x164000 x164001 x164002)
def skylightref17_Made.j1 : Nat → List (S51) → List (S51) → Int → Bool → Int → Int → List (S51) → Option (Int × Int × (List (S51)) × (List (S51)))
  | 0, _, _, _, _, _, _, _ => none
  | k + 1, x1, x7, x8, x23, x164000, x164001, x164002 => if x23 = true then (if 0 ≤ x8 then (if x8 < (x1.length : Int) then ((skylightref17_Add.f k x164000 x164001 x164002 ((rd_T51 x1 x8).f0) ((rd_T51 x1 x8).f1)).bind fun bt166 => (if bt166.2.2.2 = 0 then (if x7.length < 8796093022208 then (skylightref17_Made.l0 k x1 (x7 ++ [(⟨(rd_T51 x1 x8).f0, (rd_T51 x1 x8).f1⟩ : S51)]) (wrap64 (x8 + 1)) bt166.1 bt166.2.1 bt166.2.2.1) else (none)) else (skylightref17_Made.l0 k x1 x7 (wrap64 (x8 + 1)) x164000 x164001 x164002))) else (none)) else (none)) else (some (x164000, x164001, x164002, x7))
end
def skylightref17_Made.f (k : Nat) (a0 : Int) (l1 : List (S51)) : Option (Int × Int × (List (S51)) × (List (S51))) := skylightref17_Made.l0 k l1 ([] : List (S51)) 0 (1 + ((mx a0 0) % 8)) 0 ([] : List (S51))
theorem skylightref17_Made.mono_l : ∀ k, (∀ y0 y1 y2 y3 y4 y5, LeO (skylightref17_Made.l0 k y0 y1 y2 y3 y4 y5) (skylightref17_Made.l0 (k + 1) y0 y1 y2 y3 y4 y5)) ∧ (∀ y0 y1 y2 y3 y4 y5 y6, LeO (skylightref17_Made.j1 k y0 y1 y2 y3 y4 y5 y6) (skylightref17_Made.j1 (k + 1) y0 y1 y2 y3 y4 y5 y6))
  | 0 => ⟨fun _ _ _ _ _ _ r h => by simp [skylightref17_Made.l0] at h, fun _ _ _ _ _ _ _ r h => by simp [skylightref17_Made.j1] at h⟩
  | k + 1 => by
    obtain ⟨ih0, ih1⟩ := skylightref17_Made.mono_l k
    refine ⟨?_, ?_⟩
    · intro y0 y1 y2 y3 y4 y5
      unfold skylightref17_Made.l0
      repeat' first
      | (with_reducible exact ih0 _ _ _ _ _ _)
      | (with_reducible exact ih1 _ _ _ _ _ _ _)
      | (with_reducible exact skylightref17_Add.mono _ _ _ _ _ _)
      | (with_reducible exact LeO.refl _)
      | (with_reducible exact LeO.none _)
      | (with_reducible refine LeO.ite ?_ ?_)
      | (with_reducible refine LeO.bind ?_ (fun _ => ?_))
      | exact ih0 _ _ _ _ _ _
      | exact ih1 _ _ _ _ _ _ _
      | exact skylightref17_Add.mono _ _ _ _ _ _
      | exact LeO.none _
      | refine LeO.ite ?_ ?_
      | refine LeO.bind ?_ (fun _ => ?_)
    · intro y0 y1 y2 y3 y4 y5 y6
      unfold skylightref17_Made.j1
      repeat' first
      | (with_reducible exact ih0 _ _ _ _ _ _)
      | (with_reducible exact ih1 _ _ _ _ _ _ _)
      | (with_reducible exact skylightref17_Add.mono _ _ _ _ _ _)
      | (with_reducible exact LeO.refl _)
      | (with_reducible exact LeO.none _)
      | (with_reducible refine LeO.ite ?_ ?_)
      | (with_reducible refine LeO.bind ?_ (fun _ => ?_))
      | exact ih0 _ _ _ _ _ _
      | exact ih1 _ _ _ _ _ _ _
      | exact skylightref17_Add.mono _ _ _ _ _ _
      | exact LeO.none _
      | refine LeO.ite ?_ ?_
      | refine LeO.bind ?_ (fun _ => ?_)
theorem skylightref17_Made.mono : ∀ a0 a1 k, LeO (skylightref17_Made.f k a0 a1) (skylightref17_Made.f (k + 1) a0 a1) := by
  intro a0 a1 k
  obtain ⟨ih0, ih1⟩ := skylightref17_Made.mono_l k
  unfold skylightref17_Made.f
  repeat' first
      | (with_reducible exact ih0 _ _ _ _ _ _)
      | (with_reducible exact ih1 _ _ _ _ _ _ _)
      | (with_reducible exact skylightref17_Add.mono _ _ _ _ _ _)
      | (with_reducible exact LeO.refl _)
      | (with_reducible exact LeO.none _)
      | (with_reducible refine LeO.ite ?_ ?_)
      | (with_reducible refine LeO.bind ?_ (fun _ => ?_))
      | exact ih0 _ _ _ _ _ _
      | exact ih1 _ _ _ _ _ _ _
      | exact skylightref17_Add.mono _ _ _ _ _ _
      | exact LeO.none _
      | refine LeO.ite ?_ ?_
      | refine LeO.bind ?_ (fun _ => ?_)
def skylightref17_Made.T6 : Bool × List (List Nat × List Nat) := (true, [([], []), ([], []), ([], []), ([1, 2], [1, 2]), ([3], [3]), ([4], [4]), ([], []), ([], []), ([6, 7], [6, 7]), ([8], [8]), ([9], [9]), ([0, 5, 10], [0, 5, 10]), ([11], [11]), ([12], [12]), ([12], [12]), ([], []), ([15, 13, 11, 0, 1, 2, 3, 4, 5, 6, 7, 8, 9, 10, 11, 12, 13, 15], [13, 15]), ([14, 16, 0, 1, 2, 3, 4, 5, 6, 7, 8, 9, 10, 11, 12, 13, 14, 15, 16], [14])])
def skylightref17_Made.B6 : List Nat := [0, 0, 0, 6, 14, 30, 0, 0, 192, 448, 960, 2047, 4095, 8191, 8191, 0, 49151, 131071]
theorem skylightref17_Made.tab6 : rtab .any (opsOf Try.f14 6) = skylightref17_Made.T6 := by kernel_rfl
theorem skylightref17_Made.bits6 : waitsOk skylightref17_Made.T6.2 skylightref17_Made.B6 = true := by kernel_rfl
set_option maxHeartbeats 8000000 in
set_option maxRecDepth 100000 in
theorem skylightref17_Made.calls (k : Nat) (a0 : Int) (A1 : Option Addr) (c1 : Nat) (l1 : List (S51)) (r1 : Int) (r2 : Int) (r3 : List (S51)) (r4 : List (S51)) (w : World) (hr1 : Kd.C k51 w A1 l1.length l1) (hc1 : l1.length ≤ c1) (h : skylightref17_Made.f k a0 l1 = some (r1, r2, r3, r4)) :
    Calls Try.prog 14 #[.int .i64 a0, .slice A1 l1.length c1] w fun e w' => ∃ v2_ v3_ : Value, e = .returned (.tuple #[.agg #[.int .i64 r1, .int .u64 r2, v2_], v3_]) ∧ Kd.R k51 51 w' w.heap.size (fun k_ => some k_ ≠ (v3_ : Value).ownBlock) v2_ r3 ∧ Kd.R k51 51 w' w.heap.size (fun k_ => some k_ ≠ (v2_ : Value).ownBlock) v3_ r4 ∧ Below w.heap.size w w' := by
  have hu30 := Try.underlying30
  have hu51 := Try.underlying51
  have HR1 := Aside0.mk hr1
  have HC1 := Aside0.mk hc1
  clear hr1 hc1
  have HB := Aside0.mk (Below.refl w.heap.size w)
  have H : (skylightref17_Made.l0 k l1 ([] : List (S51)) 0 (1 + ((mx a0 0) % 8)) 0 ([] : List (S51))) = some (r1, r2, r3, r4) := h
  clear h
  obtain ⟨ji3, hji3⟩ : ∃ j_ : Int, (mx a0 0) = j_ := ⟨_, rfl⟩
  replace H : (skylightref17_Made.l0 k l1 ([] : List (S51)) 0 (1 + ((ji3) % 8)) 0 ([] : List (S51))) = some (r1, r2, r3, r4) := by first | (rw [hji3] at H; exact H) | (simp only [hji3] at H ⊢; exact H)
  (try (have hji3l : 0 ≤ ji3 := by (rw [← hji3]; unfold mx; (repeat' split) <;> omega)))
  (try (have hji3m : 0 ≤ ji3 := by omega))
  have hji3_ : (if a0 < 0 then 0 else a0) = ji3 := hji3
  have H' := Aside0.mk H
  clear H
  go_enter Try.func14, Try.ntmps14
  go_wp2_with (first | ((with_reducible refine gate_dst (N := 4) rfl ?_); refine box_event ?hg (N := 4) ?hd (cs := #[.int .i64 0, .int .u64 0, .slice none 0 0]) (t := 30) ?hr ?_; (case hd => rfl); (case hg => rfl); (case hr => first | (go_simp; done) | (go_simp; rfl)); intro gb162 hg w4 hbox hb; have n0_ := Aside0.mk (below_step (by repeat (first | (with_reducible first | exact HB.out | apply below_alloc | apply pw_below_drewN | apply below_drew1) | exact HB.out)) hb); have n1_ := Aside0.mk (hbox); have n2_ := Aside0.mk ((by rw [hg]; exact (below_size (by repeat (first | (with_reducible first | exact HB.out | apply below_alloc | apply pw_below_drewN | apply below_drew1) | exact HB.out))) : w.heap.size ≤ gb162)); have n3_ := Aside0.mk ((by rw [hg]; exact (below_size (by repeat (first | (with_reducible first | exact HB.out | apply below_alloc | apply pw_below_drewN | apply below_drew1) | exact HB.out))) : w.heap.size ≤ gb162)); clear HB; have HB := n0_; have BK162 := n1_; have GW162 := n2_; have GE162 := n3_; clear n0_ n1_ n2_ n3_; clear hb hbox hg) | ((with_reducible refine gate_dst (N := 6) rfl ?_); refine box_event ?hg (N := 6) ?hd (cs := #[.int .i64 0, .int .u64 0, .slice none 0 0]) (t := 30) ?hr ?_; (case hd => rfl); (case hg => rfl); (case hr => first | (go_simp; done) | (go_simp; rfl)); intro gb163 hg w5 hbox hb; have n0_ := Aside0.mk (blk_below (g := gb162) (o := .cells #[.int .i64 0, .int .u64 0, .slice none 0 0] 30 (0, 0)) (by (with_reducible repeat (first | refine blk_drewN ?_ _ | refine blk_drew ?_ | refine blk_alloc ?_ _)); exact BK162.out) hb); have n1_ := Aside0.mk (below_step (by repeat (first | (with_reducible first | exact HB.out | apply below_alloc | apply pw_below_drewN | apply below_drew1 | refine below_set ?_ GE162.out) | exact HB.out)) hb); have n2_ := Aside0.mk (hbox); have n3_ := Aside0.mk ((by rw [hg]; exact (below_size (by repeat (first | (with_reducible first | exact HB.out | apply below_alloc | apply pw_below_drewN | apply below_drew1 | refine below_set ?_ GE162.out) | exact HB.out))) : w.heap.size ≤ gb163)); have n4_ := Aside0.mk ((by rw [hg]; exact (below_size (by repeat (first | (with_reducible first | exact HB.out | apply below_alloc | apply pw_below_drewN | apply below_drew1 | refine below_set ?_ GE162.out) | exact HB.out))) : w.heap.size ≤ gb163)); have n5_ := Aside0.mk ((by rw [hg]; exact Nat.ne_of_lt (blk_lt (g := gb162) (o := .cells #[.int .i64 0, .int .u64 0, .slice none 0 0] 30 (0, 0)) (by (with_reducible repeat (first | refine blk_drewN ?_ _ | refine blk_drew ?_ | refine blk_alloc ?_ _)); exact BK162.out)) : gb162 ≠ gb163)); have n6_ := Aside0.mk ((by rw [hg]; exact Nat.ne_of_gt (blk_lt (g := gb162) (o := .cells #[.int .i64 0, .int .u64 0, .slice none 0 0] 30 (0, 0)) (by (with_reducible repeat (first | refine blk_drewN ?_ _ | refine blk_drew ?_ | refine blk_alloc ?_ _)); exact BK162.out)) : gb163 ≠ gb162)); clear BK162; clear HB; have BK162 := n0_; have HB := n1_; have BK163 := n2_; have GW163 := n3_; have GE163 := n4_; have NB162_163 := n5_; have NB163_162 := n6_; clear n0_ n1_ n2_ n3_ n4_ n5_ n6_; clear hb hbox hg; have hnb6 := NB163_162.out; have hnc6 := NB162_163.out; have hcz7_0 : w5.cell? ⟨gb163, 0, none⟩ = some (.int .i64 0) := (blk_cell BK163.out 0).trans rfl; have hcz7_1 : w5.cell? ⟨gb163, 1, none⟩ = some (.int .u64 0) := (blk_cell BK163.out 1).trans rfl; have hcz7_2 : w5.cell? ⟨gb163, 2, none⟩ = some (.slice none 0 0) := (blk_cell BK163.out 2).trans rfl; have hfz7_0 := blk_frozen BK163.out 0; have hfz7_1 := blk_frozen BK163.out 1; have hfz7_2 := blk_frozen BK163.out 2))
  go_loopg [7, 8] k (fun kq v7 v8 w' => ∃ (x7_1 : List (S51)) (x8_1 : Int) (x164000_1 : Int) (x164001_1 : Int) (x164002_1 : List (S51)) (u164002 : Value), v8 = .int .i64 x8_1 ∧ Aside0 (skylightref17_Made.l0 kq l1 x7_1 x8_1 x164000_1 x164001_1 x164002_1 = some (r1, r2, r3, r4)) ∧ Aside0 (kq ≤ k) ∧ Aside0 (Kd.R k51 51 w' w.heap.size (fun k_ => some k_ ≠ (u164002 : Value).ownBlock) v7 x7_1) ∧ Aside0 (Kd.R k51 51 w' w.heap.size (fun k_ => some k_ ≠ (v7 : Value).ownBlock) u164002 x164002_1) ∧ Aside0 (w'.heap[gb162]? = some (.cells #[.int .i64 0, .int .u64 0, (.slice none 0 0)] 30 (0, 0))) ∧ Aside0 (w'.heap[gb163]? = some (.cells #[.int .i64 x164000_1, .int .u64 x164001_1, u164002] 30 (0, 0))) ∧ Aside0 (Below w.heap.size w w'))
  case atStart => exact ⟨(([] : List (S51))), (0), (1 + ((ji3) % 8)), (0), (([] : List (S51))), (.slice none 0 0), (by first | rfl | (simp; done) | (simp [*]; done)), H', ⟨Nat.le_refl _⟩, ⟨by first | exact Kd.R_nil _ _ _ _ _ | exact Kd.N_nil _ _ _ _ _ | exact Kd.V_nil _ _ _ _ _ | exact Kd.Q_nil _ _ _ _ _ | exact Kd.S_nil _ _ _ _ _⟩, ⟨by first | exact Kd.R_nil _ _ _ _ _ | exact Kd.N_nil _ _ _ _ _ | exact Kd.V_nil _ _ _ _ _ | exact Kd.Q_nil _ _ _ _ _ | exact Kd.S_nil _ _ _ _ _⟩, ⟨by (with_reducible repeat (first | refine blk_drewN ?_ _ | refine blk_drew ?_ | refine blk_alloc ?_ _)); refine blk_far ?_ NB162_163.out _; (with_reducible repeat (first | refine blk_drewN ?_ _ | refine blk_drew ?_ | refine blk_alloc ?_ _)); refine blk_far ?_ NB162_163.out _; (with_reducible repeat (first | refine blk_drewN ?_ _ | refine blk_drew ?_ | refine blk_alloc ?_ _)); refine blk_far ?_ NB162_163.out _; (with_reducible repeat (first | refine blk_drewN ?_ _ | refine blk_drew ?_ | refine blk_alloc ?_ _)); exact BK162.out⟩, ⟨by (with_reducible repeat (first | refine blk_drewN ?_ _ | refine blk_drew ?_ | refine blk_alloc ?_ _)); refine blk_put (cs := #[.int .i64 (1 + ((ji3) % 8)), .int .u64 0, .slice none 0 0]) ?_ 2 _ rfl; (with_reducible repeat (first | refine blk_drewN ?_ _ | refine blk_drew ?_ | refine blk_alloc ?_ _)); refine blk_put (cs := #[.int .i64 (1 + ((ji3) % 8)), .int .u64 0, .slice none 0 0]) ?_ 1 _ rfl; (with_reducible repeat (first | refine blk_drewN ?_ _ | refine blk_drew ?_ | refine blk_alloc ?_ _)); refine blk_put (cs := #[.int .i64 0, .int .u64 0, .slice none 0 0]) ?_ 0 _ rfl; (with_reducible repeat (first | refine blk_drewN ?_ _ | refine blk_drew ?_ | refine blk_alloc ?_ _)); exact BK163.out⟩, ⟨by repeat (first | (with_reducible first | exact HB.out | apply below_alloc | apply pw_below_drewN | apply below_drew1 | refine below_set ?_ GE162.out | refine below_set ?_ GE163.out) | exact HB.out)⟩⟩
  case round =>
    clear H'
    try clear c1
    try clear p2
    try clear c6
    try clear hcz7_0
    try clear hcz7_1
    try clear hcz7_2
    try clear hfz7_0
    try clear hfz7_1
    try clear hfz7_2
    obtain ⟨x7_1, x8_1, x164000_1, x164001_1, x164002_1, u164002, rfl, HA, HK1, HO_7, HO_164002, BK162, BK163, HB⟩ := hrel
    cases gk with
    | zero => exact absurd HA.out (by simp [skylightref17_Made.l0])
    | succ k1 =>
      have H := HA.out
      clear HA
      simp only [skylightref17_Made.l0] at H
      have HC8 := Aside0.mk H
      clear H
      go_upto_region 4 with (fail)
      go_cut [23] (fun v23 wc => ∃ (kq : Nat) (x23_7 : Bool), v23 = .bool x23_7 ∧ Aside0 (skylightref17_Made.j1 kq l1 x7_1 x8_1 x23_7 x164000_1 x164001_1 x164002_1 = some (r1, r2, r3, r4)) ∧ Aside0 (kq ≤ k1) ∧ Aside0 (Kd.R k51 51 wc w.heap.size (fun k_ => some k_ ≠ (u164002 : Value).ownBlock) u7 x7_1) ∧ Aside0 (Kd.R k51 51 wc w.heap.size (fun k_ => some k_ ≠ (u7 : Value).ownBlock) u164002 x164002_1) ∧ Aside0 (wc.heap[gb162]? = some (.cells #[.int .i64 0, .int .u64 0, (.slice none 0 0)] 30 (0, 0))) ∧ Aside0 (wc.heap[gb163]? = some (.cells #[.int .i64 x164000_1, .int .u64 x164001_1, u164002] 30 (0, 0))) ∧ Aside0 (Below w.heap.size w wc))
      case first =>
        have H := HC8.out
        clear HC8
        by_cases c9 : x8_1 < (l1.length : Int)
        · rw [if_pos c9] at H
          have c9b0 : decide (x8_1 < (l1.length : Int)) = true := decide_eq_true c9
          clear c9
          (first | rw [c9b0] | (simp only [i64_w, i32_w]; rw [c9b0]) | skip)
          have H' := Aside0.mk H
          clear H
          go_wp2
          go_meet
          case rel => exact ⟨_, (decide (x8_1 < 40)), (by first | rfl | (simp; done) | (simp [*]; done)), H', ⟨by have := HK1.out; first | omega | exact Nat.le_refl _⟩, ⟨by (with_reducible repeat (first | apply Kd.R_alloc | apply Kd.R_drewN | apply Kd.R_drew)); exact HO_7.out⟩, ⟨by (with_reducible repeat (first | apply Kd.R_alloc | apply Kd.R_drewN | apply Kd.R_drew)); exact HO_164002.out⟩, ⟨by (with_reducible repeat (first | refine blk_drewN ?_ _ | refine blk_drew ?_ | refine blk_alloc ?_ _)); exact BK162.out⟩, ⟨by (with_reducible repeat (first | refine blk_drewN ?_ _ | refine blk_drew ?_ | refine blk_alloc ?_ _)); exact BK163.out⟩, ⟨by repeat (first | (with_reducible first | exact HB.out | apply below_alloc | apply pw_below_drewN | apply below_drew1 | refine below_set ?_ GE162.out | refine below_set ?_ GE163.out) | exact HB.out)⟩⟩
        · rw [if_neg c9] at H
          have c9b0 : decide (x8_1 < (l1.length : Int)) = false := decide_eq_false c9
          clear c9
          (first | rw [c9b0] | (simp only [i64_w, i32_w]; rw [c9b0]) | skip)
          have H' := Aside0.mk H
          clear H
          go_wp2
          go_meet
          case rel => exact ⟨_, (false), (by first | rfl | (simp; done) | (simp [*]; done)), H', ⟨by have := HK1.out; first | omega | exact Nat.le_refl _⟩, ⟨by (with_reducible repeat (first | apply Kd.R_alloc | apply Kd.R_drewN | apply Kd.R_drew)); exact HO_7.out⟩, ⟨by (with_reducible repeat (first | apply Kd.R_alloc | apply Kd.R_drewN | apply Kd.R_drew)); exact HO_164002.out⟩, ⟨by (with_reducible repeat (first | refine blk_drewN ?_ _ | refine blk_drew ?_ | refine blk_alloc ?_ _)); exact BK162.out⟩, ⟨by (with_reducible repeat (first | refine blk_drewN ?_ _ | refine blk_drew ?_ | refine blk_alloc ?_ _)); exact BK163.out⟩, ⟨by repeat (first | (with_reducible first | exact HB.out | apply below_alloc | apply pw_below_drewN | apply below_drew1 | refine below_set ?_ GE162.out | refine below_set ?_ GE163.out) | exact HB.out)⟩⟩
      case rest =>
        clear HC8
        try clear c1
        try clear p2
        try clear c6
        try clear c9
        try clear c9b0
        try clear hcz7_0
        try clear hcz7_1
        try clear hcz7_2
        try clear hfz7_0
        try clear hfz7_1
        try clear hfz7_2
        try clear p2
        obtain ⟨kq, x23_7, rfl, HA, HJ7, HO_7, HO_164002, BK162, BK163, HB⟩ := hcut
        cases kq with
        | zero => exact absurd HA.out (by simp [skylightref17_Made.j1])
        | succ kj7 =>
          have H := HA.out
          clear HA
          simp only [skylightref17_Made.j1] at H
          by_cases c10 : x23_7 = true
          · subst c10
            have H1 : (if 0 ≤ x8_1 then (if x8_1 < (l1.length : Int) then ((skylightref17_Add.f kj7 x164000_1 x164001_1 x164002_1 ((rd_T51 l1 x8_1).f0) ((rd_T51 l1 x8_1).f1)).bind fun bt166 => (if bt166.2.2.2 = 0 then (if x7_1.length < 8796093022208 then (skylightref17_Made.l0 kj7 l1 (x7_1 ++ [(⟨(rd_T51 l1 x8_1).f0, (rd_T51 l1 x8_1).f1⟩ : S51)]) (wrap64 (x8_1 + 1)) bt166.1 bt166.2.1 bt166.2.2.1) else (none)) else (skylightref17_Made.l0 kj7 l1 x7_1 (wrap64 (x8_1 + 1)) x164000_1 x164001_1 x164002_1))) else (none)) else (none)) = some (r1, r2, r3, r4) := by rw [if_pos rfl] at H; exact H
            clear H
            have H := H1
            clear H1
            by_cases c11 : 0 ≤ x8_1
            · rw [if_pos c11] at H
              have c11b0 : decide (0 ≤ x8_1) = true := decide_eq_true c11
              clear c11
              by_cases c12 : x8_1 < (l1.length : Int)
              · rw [if_pos c12] at H
                have c12b0 : decide (x8_1 < (l1.length : Int)) = true := decide_eq_true c12
                clear c12
                replace H := Option.bind_eq_some_iff.mp H
                obtain ⟨⟨t166, t167, t168, t171⟩, A130, H⟩ := H
                replace H : (if t171 = 0 then (if x7_1.length < 8796093022208 then (skylightref17_Made.l0 kj7 l1 (x7_1 ++ [(⟨(rd_T51 l1 x8_1).f0, (rd_T51 l1 x8_1).f1⟩ : S51)]) (wrap64 (x8_1 + 1)) t166 t167 t168) else (none)) else (skylightref17_Made.l0 kj7 l1 x7_1 (wrap64 (x8_1 + 1)) x164000_1 x164001_1 x164002_1)) = some (r1, r2, r3, r4) := H
                have A13 := Aside0.mk A130
                clear A130
                by_cases c14 : t171 = 0
                · rw [if_pos c14] at H
                  have c14b0 : (t171 == 0) = true := beq_iff_eq.mpr c14
                  have c14b1 : (t171 != 0) = false := bne_eq_false_iff_eq.mpr c14
                  clear c14
                  by_cases c15 : x7_1.length < 8796093022208
                  · rw [if_pos c15] at H
                    have LMc15 := Aside0.mk c15
                    clear c15
                    obtain ⟨y174, hy174⟩ : ∃ y_ : List (S51), y_ = (x7_1 ++ [(⟨(rd_T51 l1 x8_1).f0, (rd_T51 l1 x8_1).f1⟩ : S51)]) := ⟨_, rfl⟩
                    replace H : (skylightref17_Made.l0 kj7 l1 y174 (wrap64 (x8_1 + 1)) t166 t167 t168) = some (r1, r2, r3, r4) := by first | (rw [hy174]; with_reducible exact H) | (have H2_ := (Option.bind_some _ _).symm.trans H; rw [hy174]; with_reducible exact H2_) | (have H2_ := (Option.bind_some _ _).symm.trans H; with_reducible exact H2_) | with_reducible exact H | (rw [hy174]; exact H) | exact H
                    have Ny174 := Aside0.mk hy174
                    clear hy174
                    have H' := Aside0.mk H
                    clear H
                    obtain ⟨Ao16, co16, eo16⟩ := Kd.R_slice HO_164002.out
                    subst eo16
                    try go_wp2
                    have n0_ := Aside0.mk (Kd.R_drew HO_7.out)
                    have n1_ := Aside0.mk (Kd.R_drew HO_164002.out)
                    have n2_ := Aside0.mk (blk_drew BK162.out)
                    have n3_ := Aside0.mk (blk_drew BK163.out)
                    have n4_ := Aside0.mk (below_drew1 HB.out)
                    clear HO_7
                    clear HO_164002
                    clear BK162
                    clear BK163
                    clear HB
                    have HO_7 := n0_
                    have HO_164002 := n1_
                    have BK162 := n2_
                    have BK163 := n3_
                    have HB := n4_
                    clear n0_ n1_ n2_ n3_ n4_
                    have p164 : 0 ≤ (x8_1 : Int) := of_decide_eq_true (by first | (with_reducible assumption) | assumption)
                    have q164 : x8_1 < (l1.length : Int) := of_decide_eq_true (by first | (with_reducible assumption) | assumption)
                    obtain ⟨ad164, e164, hx164_0, hx164_1⟩ := at_T51 HR1.out x8_1 p164 q164
                    have hw164_1 := hx164_1
                    have hw164_0 := hx164_0
                    cases e164
                    replace hx164_0 := (HB.out.cell (World.block_lt_of_cell? w _ hx164_0)).trans hx164_0
                    replace hx164_1 := (HB.out.cell (World.block_lt_of_cell? w _ hx164_1)).trans hx164_1
                    replace p164 := eq_true p164
                    replace q164 := eq_true q164
                    have p165 : 0 ≤ (x8_1 : Int) := of_decide_eq_true (by first | (with_reducible assumption) | assumption)
                    have q165 : x8_1 < (l1.length : Int) := of_decide_eq_true (by first | (with_reducible assumption) | assumption)
                    obtain ⟨ad165, e165, hx165_0, hx165_1⟩ := at_T51 HR1.out x8_1 p165 q165
                    have hw165_1 := hx165_1
                    have hw165_0 := hx165_0
                    obtain rfl : ad164 = ad165 := (by injection e165)
                    replace hx165_0 := (HB.out.cell (World.block_lt_of_cell? w _ hx165_0)).trans hx165_0
                    replace hx165_1 := (HB.out.cell (World.block_lt_of_cell? w _ hx165_1)).trans hx165_1
                    replace p165 := eq_true p165
                    replace q165 := eq_true q165
                    refine start_ (n := 18) (S := fun w' => w'.cell? ⟨gb163, 0, none⟩ = some (.int .i64 x164000_1) ∧ w'.cell? ⟨gb163, 1, none⟩ = some (.int .u64 x164001_1) ∧ w'.cell? ⟨gb163, 2, none⟩ = some (.slice Ao16 x164002_1.length co16) ∧ w'.cell? (ad164.add ((x8_1).toNat * 2)) = some (.int .u64 ((rd_T51 l1 x8_1).f0)) ∧ w'.cell? ⟨(ad164.add ((x8_1).toNat * 2)).block, (ad164.add ((x8_1).toNat * 2)).off + 1, none⟩ = some (.int .u64 ((rd_T51 l1 x8_1).f1)) ∧ w'.cell? (ad164.add ((x8_1).toNat * 2)) = some (.int .u64 ((rd_T51 l1 x8_1).f0)) ∧ w'.cell? ⟨(ad164.add ((x8_1).toNat * 2)).block, (ad164.add ((x8_1).toNat * 2)).off + 1, none⟩ = some (.int .u64 ((rd_T51 l1 x8_1).f1))) (ds := []) #[false, false, false, false, false, false, false, false, false, false, false, false, false, false, false, false, false, false] (by kernel_rfl) rfl rfl ⟨(blk_cell BK163.out 0).trans rfl, (blk_cell BK163.out 1).trans rfl, (blk_cell BK163.out 2).trans rfl, ((HB.out.cell (World.block_lt_of_cell? w _ hw164_0)).trans hw164_0), ((HB.out.cell (World.block_lt_of_cell? w _ hw164_1)).trans hw164_1), ((HB.out.cell (World.block_lt_of_cell? w _ hw165_0)).trans hw165_0), ((HB.out.cell (World.block_lt_of_cell? w _ hw165_1)).trans hw165_1)⟩ (fun hHeld => ?_); refine with_tabW skylightref17_Made.tab6 skylightref17_Made.bits6 (fun HT_ HW_ => ?_)
                    generalize wc.drew = w17 at HO_7 HO_164002 BK162 BK163 HB hx164_0 hx164_1 hx165_0 hx165_1 hHeld ⊢
                    refine pure_ (i := 1) (N := some 28) (v := ?_) (a' := ?_) #[false, true, false, false, false, false, false, false, false, false, false, false, false, false, false, false, false, false] rfl rfl (any_of HT_.out (by kernel_rfl)) (fun _ _ _ h => h) (Or.inl ⟨by rfl, ?_⟩) ?_ ?_
                    rotate_left
                    · intro w'
                      go_simp
                      with_reducible rfl
                    rotate_left
                    · simp only [Act.put, List.setIfInBounds_toArray, List.set_cons_zero, List.set_cons_succ, i64_w, i32_w]
                      rfl
                    refine pure_ (i := 2) (N := some 29) (v := ?_) (a' := ?_) #[false, true, true, false, false, false, false, false, false, false, false, false, false, false, false, false, false, false] rfl rfl (any_of HT_.out (by kernel_rfl)) (fun _ _ _ h => h) (Or.inl ⟨by rfl, ?_⟩) ?_ ?_
                    rotate_left
                    · intro w'
                      go_simp
                      with_reducible rfl
                    rotate_left
                    · simp only [Act.put, List.setIfInBounds_toArray, List.set_cons_zero, List.set_cons_succ, i64_w, i32_w]
                      rfl
                    refine pure_ (i := 3) (N := some 30) (v := ?_) (a' := ?_) #[false, true, true, true, false, false, false, false, false, false, false, false, false, false, false, false, false, false] rfl rfl (any_of HT_.out (by kernel_rfl)) (fun _ _ _ h => h) (Or.inl ⟨by rfl, ?_⟩) ?_ ?_
                    rotate_left
                    · intro w'
                      go_simp
                      with_reducible rfl
                    rotate_left
                    · simp only [Act.put, List.setIfInBounds_toArray, List.set_cons_zero, List.set_cons_succ, i64_w, i32_w]
                      rfl
                    refine pure_ (i := 4) (N := some 31) (v := ?_) (a' := ?_) #[false, true, true, true, true, false, false, false, false, false, false, false, false, false, false, false, false, false] rfl rfl (any_of HT_.out (by kernel_rfl)) (fun _ _ _ h => h) (Or.inl ⟨by rfl, ?_⟩) ?_ ?_
                    rotate_left
                    · intro w'
                      go_simp
                      with_reducible rfl
                    rotate_left
                    · simp only [Act.put, List.setIfInBounds_toArray, List.set_cons_zero, List.set_cons_succ, i64_w, i32_w]
                      rfl
                    refine pure_ (i := 6) (N := some 33) (v := ?_) (a' := ?_) #[false, true, true, true, true, false, true, false, false, false, false, false, false, false, false, false, false, false] rfl rfl (any_of HT_.out (by kernel_rfl)) (fun _ _ _ h => h) (Or.inl ⟨by rfl, ?_⟩) ?_ ?_
                    rotate_left
                    · intro w'
                      go_simp
                      with_reducible rfl
                    rotate_left
                    · simp only [Act.put, List.setIfInBounds_toArray, List.set_cons_zero, List.set_cons_succ, i64_w, i32_w]
                      rfl
                    refine pure_ (i := 7) (N := some 34) (v := ?_) (a' := ?_) #[false, true, true, true, true, false, true, true, false, false, false, false, false, false, false, false, false, false] rfl rfl (any_of HT_.out (by kernel_rfl)) (fun _ _ _ h => h) (Or.inl ⟨by rfl, ?_⟩) ?_ ?_
                    rotate_left
                    · intro w'
                      go_simp
                      with_reducible rfl
                    rotate_left
                    · simp only [Act.put, List.setIfInBounds_toArray, List.set_cons_zero, List.set_cons_succ, i64_w, i32_w]
                      rfl
                    refine pure_ (i := 8) (N := some 35) (v := ?_) (a' := ?_) #[false, true, true, true, true, false, true, true, true, false, false, false, false, false, false, false, false, false] rfl rfl (any_of HT_.out (by kernel_rfl)) (fun _ _ _ h => h) (Or.inl ⟨by rfl, ?_⟩) ?_ ?_
                    rotate_left
                    · intro w'
                      go_simp
                      with_reducible rfl
                    rotate_left
                    · simp only [Act.put, List.setIfInBounds_toArray, List.set_cons_zero, List.set_cons_succ, i64_w, i32_w]
                      rfl
                    refine pure_ (i := 9) (N := some 36) (v := ?_) (a' := ?_) #[false, true, true, true, true, false, true, true, true, true, false, false, false, false, false, false, false, false] rfl rfl (any_of HT_.out (by kernel_rfl)) (fun _ _ _ h => h) (Or.inl ⟨by rfl, ?_⟩) ?_ ?_
                    rotate_left
                    · intro w'
                      go_simp
                      with_reducible rfl
                    rotate_left
                    · simp only [Act.put, List.setIfInBounds_toArray, List.set_cons_zero, List.set_cons_succ, i64_w, i32_w]
                      rfl
                    refine take_ (i := 0) (N := some 27) (v := ?_) (a' := ?_) #[true, true, true, true, true, false, true, true, true, true, false, false, false, false, false, false, false, false] rfl rfl (take_ofW HT_.out HW_.out (by kernel_rfl)) (fun _ _ _ h => h) (Or.inl ⟨by rfl, ?_⟩) hHeld ?_ ?_
                    rotate_left
                    · rintro w' ⟨s0, s1, s2, s3, s4, s5, s6⟩
                      go_simp
                      with_reducible rfl
                    rotate_left
                    · simp only [Act.put, List.setIfInBounds_toArray, List.set_cons_zero, List.set_cons_succ, i64_w, i32_w]
                      rfl
                    refine take_ (i := 5) (N := some 32) (v := ?_) (a' := ?_) #[true, true, true, true, true, true, true, true, true, true, false, false, false, false, false, false, false, false] rfl rfl (take_ofW HT_.out HW_.out (by kernel_rfl)) (fun _ _ _ h => h) (Or.inl ⟨by rfl, ?_⟩) hHeld ?_ ?_
                    rotate_left
                    · rintro w' ⟨s0, s1, s2, s3, s4, s5, s6⟩
                      go_simp
                      with_reducible rfl
                    rotate_left
                    · simp only [Act.put, List.setIfInBounds_toArray, List.set_cons_zero, List.set_cons_succ, i64_w, i32_w]
                      rfl
                    refine take_ (i := 10) (N := some 37) (v := ?_) (a' := ?_) #[true, true, true, true, true, true, true, true, true, true, true, false, false, false, false, false, false, false] rfl rfl (take_ofW HT_.out HW_.out (by kernel_rfl)) (fun _ _ _ h => h) (Or.inl ⟨by rfl, ?_⟩) hHeld ?_ ?_
                    rotate_left
                    · rintro w' ⟨s0, s1, s2, s3, s4, s5, s6⟩
                      go_simp
                      with_reducible rfl
                    rotate_left
                    · simp only [Act.put, List.setIfInBounds_toArray, List.set_cons_zero, List.set_cons_succ, i64_w, i32_w]
                      rfl
                    refine join_ (σ := Value × Nat) 2 #[true, true, true, true, true, true, true, true, true, true, true, true, true, true, true, true, false, false] (fun s_ => [(38, .tuple #[.agg #[.int .i64 t166, .int .u64 t167, s_.1], .int .i64 t171]), (9, .pointer (some ⟨s_.2, 0, none⟩)), (26, .tuple #[.agg #[.int .i64 t166, .int .u64 t167, s_.1], .int .i64 t171]), (39, .agg #[.int .i64 t166, .int .u64 t167, s_.1]), (40, .int .i64 t171)]) (fun s_ w' => (w'.cell? ⟨gb163, 0, none⟩ = some (.int .i64 x164000_1) ∧ w'.cell? ⟨gb163, 1, none⟩ = some (.int .u64 x164001_1) ∧ w'.cell? ⟨gb163, 2, none⟩ = some (.slice Ao16 x164002_1.length co16) ∧ w'.cell? (ad164.add ((x8_1).toNat * 2)) = some (.int .u64 ((rd_T51 l1 x8_1).f0)) ∧ w'.cell? ⟨(ad164.add ((x8_1).toNat * 2)).block, (ad164.add ((x8_1).toNat * 2)).off + 1, none⟩ = some (.int .u64 ((rd_T51 l1 x8_1).f1)) ∧ w'.cell? (ad164.add ((x8_1).toNat * 2)) = some (.int .u64 ((rd_T51 l1 x8_1).f0)) ∧ w'.cell? ⟨(ad164.add ((x8_1).toNat * 2)).block, (ad164.add ((x8_1).toNat * 2)).off + 1, none⟩ = some (.int .u64 ((rd_T51 l1 x8_1).f1))) ∧ (Kd.R k51 51 w' w.heap.size (fun k_ => some k_ ≠ (.slice Ao16 x164002_1.length co16 : Value).ownBlock ∧ some k_ ≠ (u7 : Value).ownBlock) s_.1 t168) ∧ (Kd.R k51 51 w' w.heap.size (fun k_ => some k_ ≠ (s_.1 : Value).ownBlock ∧ some k_ ≠ (u7 : Value).ownBlock) (.slice Ao16 x164002_1.length co16) x164002_1) ∧ (Kd.R k51 51 w' w.heap.size (fun k_ => some k_ ≠ (s_.1 : Value).ownBlock ∧ some k_ ≠ (.slice Ao16 x164002_1.length co16 : Value).ownBlock) u7 x7_1) ∧ (w'.heap[gb162]? = some (.cells #[.int .i64 0, .int .u64 0, .slice none 0 0] 30 (0, 0))) ∧ (w'.heap[gb163]? = some (.cells #[.int .i64 x164000_1, .int .u64 x164001_1, .slice Ao16 x164002_1.length co16] 30 (0, 0))) ∧ (w'.heap[s_.2]? = some (.cells #[.int .i64 0, .int .u64 0, .slice none 0 0] 30 (0, 0))) ∧ (w.heap.size ≤ s_.2) ∧ (w.heap.size ≤ s_.2) ∧ (gb162 ≠ s_.2) ∧ (s_.2 ≠ gb162) ∧ (gb163 ≠ s_.2) ∧ (s_.2 ≠ gb163) ∧ (Below w.heap.size w w')) ?_ ?_
                    rotate_left
                    · intro hCont
                      refine two_ (i := 11) (j := 15) (Ni := some 38) (Nj := some 9) #[true, true, true, true, true, true, true, true, true, true, true, true, false, false, false, false, false, false] #[true, true, true, true, true, true, true, true, true, true, true, false, false, false, false, true, false, false] rfl rfl rfl rfl (two_of HT_.out (by kernel_rfl)) (by decide) (by decide) (fun K hK => ?_) (fun K hK => ?_)
                      · skip
                        refine goes_ Try.func29 (by kernel_rfl) rfl #[.agg #[.int .i64 x164000_1, .int .u64 x164001_1, .slice Ao16 x164002_1.length co16], .int .u64 ((rd_T51 l1 x8_1).f0), .int .u64 ((rd_T51 l1 x8_1).f1)] (by rfl) rfl rfl (by (try simp only [List.map_toArray, List.map_cons, List.map_nil]); first | done | rfl | (simp only [List.length_drop, List.length_take]; rfl)) ?_
                        with_reducible refine (skylightref17_Add.calls kj7 x164000_1 x164001_1 _ _ x164002_1 ((rd_T51 l1 x8_1).f0) ((rd_T51 l1 x8_1).f1) t166 t167 t168 t171 _ ?side1 ?side2 A13.out).mono ?_
                        (case side1 => repeat (first | exact (Kd.R_reads' HO_164002.out).2.2 | (with_reducible refine Kd.C_alloc ?_ _) | (with_reducible refine Kd.C_drewN ?_ _) | (with_reducible refine Kd.C_drew ?_)))
                        (case side2 => exact (Kd.R_reads' HO_164002.out).2.1)
                        rintro e w18 ⟨v169, rfl, ho0, hb⟩
                        refine ⟨_, rfl, ?_⟩
                        have n0_ := Aside0.mk (Kd.R_elder' (by (with_reducible repeat (first | apply Kd.R_alloc | apply Kd.R_drewN | apply Kd.R_drew)); exact HO_7.out) (Kd.R_base ho0) hb)
                        have n1_ := Aside0.mk (Kd.R_elder' (by (with_reducible repeat (first | apply Kd.R_alloc | apply Kd.R_drewN | apply Kd.R_drew)); exact HO_164002.out) (Kd.R_base ho0) hb)
                        have n2_ := Aside0.mk (Kd.R_lower (Kd.R_new' (Kd.R_new' ho0 (Kd.R_lt (by (with_reducible repeat (first | apply Kd.R_alloc | apply Kd.R_drewN | apply Kd.R_drew)); exact HO_7.out))) (Kd.R_lt (by (with_reducible repeat (first | apply Kd.R_alloc | apply Kd.R_drewN | apply Kd.R_drew)); exact HO_164002.out))) (below_size (by repeat (first | (with_reducible first | exact HB.out | apply below_alloc | apply pw_below_drewN | apply below_drew1 | refine below_set ?_ GE162.out | refine below_set ?_ GE163.out) | exact HB.out))))
                        have n3_ := Aside0.mk (blk_below (g := gb162) (o := .cells #[.int .i64 0, .int .u64 0, .slice none 0 0] 30 (0, 0)) (by (with_reducible repeat (first | refine blk_drewN ?_ _ | refine blk_drew ?_ | refine blk_alloc ?_ _)); exact BK162.out) hb)
                        have n4_ := Aside0.mk (blk_below (g := gb163) (o := .cells #[.int .i64 x164000_1, .int .u64 x164001_1, .slice Ao16 x164002_1.length co16] 30 (0, 0)) (by (with_reducible repeat (first | refine blk_drewN ?_ _ | refine blk_drew ?_ | refine blk_alloc ?_ _)); exact BK163.out) hb)
                        have n5_ := Aside0.mk (below_step (by repeat (first | (with_reducible first | exact HB.out | apply below_alloc | apply pw_below_drewN | apply below_drew1 | refine below_set ?_ GE162.out | refine below_set ?_ GE163.out) | exact HB.out)) hb)
                        clear HO_7
                        clear HO_164002
                        clear BK162
                        clear BK163
                        clear HB
                        have HO_7 := n0_
                        have HO_164002 := n1_
                        have HO170 := n2_
                        have BK162 := n3_
                        have BK163 := n4_
                        have HB := n5_
                        clear n0_ n1_ n2_ n3_ n4_ n5_
                        (try clear hb)
                        (try clear hb2)
                        (try clear hk)
                        (try clear hi)
                        (try clear ho0)
                        refine hK.out _ _ ⟨(blk_cell BK163.out 0).trans rfl, (blk_cell BK163.out 1).trans rfl, (blk_cell BK163.out 2).trans rfl, ((HB.out.cell (World.block_lt_of_cell? w _ hw164_0)).trans hw164_0), ((HB.out.cell (World.block_lt_of_cell? w _ hw164_1)).trans hw164_1), ((HB.out.cell (World.block_lt_of_cell? w _ hw165_0)).trans hw165_0), ((HB.out.cell (World.block_lt_of_cell? w _ hw165_1)).trans hw165_1)⟩ (fun hHeld => ?_)
                        clear hK K
                        refine norm_ (a' := ?_) ?_ ?_
                        rotate_left
                        · show Act.put _ (some 38) _ = _
                          simp only [Act.put, List.setIfInBounds_toArray, List.set_cons_zero, List.set_cons_succ, i64_w, i32_w]
                          rfl
                        refine pure_ (i := 12) (N := some 26) (v := ?_) (a' := ?_) #[true, true, true, true, true, true, true, true, true, true, true, true, true, false, false, false, false, false] rfl rfl (any_of HT_.out (by kernel_rfl)) (fun _ _ _ h => h) (Or.inl ⟨by rfl, ?_⟩) ?_ ?_
                        rotate_left
                        · intro w'
                          go_simp
                          with_reducible rfl
                        rotate_left
                        · simp only [Act.put, List.setIfInBounds_toArray, List.set_cons_zero, List.set_cons_succ, i64_w, i32_w]
                          rfl
                        refine pure_ (i := 13) (N := some 39) (v := ?_) (a' := ?_) #[true, true, true, true, true, true, true, true, true, true, true, true, true, true, false, false, false, false] rfl rfl (any_of HT_.out (by kernel_rfl)) (fun _ _ _ h => h) (Or.inl ⟨by rfl, ?_⟩) ?_ ?_
                        rotate_left
                        · intro w'
                          go_simp
                          with_reducible rfl
                        rotate_left
                        · simp only [Act.put, List.setIfInBounds_toArray, List.set_cons_zero, List.set_cons_succ, i64_w, i32_w]
                          rfl
                        refine pure_ (i := 14) (N := some 40) (v := ?_) (a' := ?_) #[true, true, true, true, true, true, true, true, true, true, true, true, true, true, true, false, false, false] rfl rfl (any_of HT_.out (by kernel_rfl)) (fun _ _ _ h => h) (Or.inl ⟨by rfl, ?_⟩) ?_ ?_
                        rotate_left
                        · intro w'
                          go_simp
                          with_reducible rfl
                        rotate_left
                        · simp only [Act.put, List.setIfInBounds_toArray, List.set_cons_zero, List.set_cons_succ, i64_w, i32_w]
                          rfl
                        refine one_ (i := 15) (N := some 9) #[true, true, true, true, true, true, true, true, true, true, true, true, true, true, true, true, false, false] rfl rfl (one_of HT_.out (by kernel_rfl)) (by decide) (fun K hK => ?_)
                        refine box_step ?hg (N := 9) ?hd (cs := #[.int .i64 0, .int .u64 0, .slice none 0 0]) (t := 30) ?hr ?_; (case hd => rfl); (case hg => rfl); (case hr => first | (go_simp; done) | (go_simp; rfl))
                        intro gb172 hg w19 hbox hb
                        have n0_ := Aside0.mk (Kd.R_below (by (with_reducible repeat (first | apply Kd.R_alloc | apply Kd.R_drewN | apply Kd.R_drew)); exact HO_7.out) hb)
                        have n1_ := Aside0.mk (Kd.R_below (by (with_reducible repeat (first | apply Kd.R_alloc | apply Kd.R_drewN | apply Kd.R_drew)); exact HO_164002.out) hb)
                        have n2_ := Aside0.mk (Kd.R_below (by (with_reducible repeat (first | apply Kd.R_alloc | apply Kd.R_drewN | apply Kd.R_drew)); exact HO170.out) hb)
                        have n3_ := Aside0.mk (blk_below (g := gb162) (o := .cells #[.int .i64 0, .int .u64 0, .slice none 0 0] 30 (0, 0)) (by (with_reducible repeat (first | refine blk_drewN ?_ _ | refine blk_drew ?_ | refine blk_alloc ?_ _)); exact BK162.out) hb)
                        have n4_ := Aside0.mk (blk_below (g := gb163) (o := .cells #[.int .i64 x164000_1, .int .u64 x164001_1, .slice Ao16 x164002_1.length co16] 30 (0, 0)) (by (with_reducible repeat (first | refine blk_drewN ?_ _ | refine blk_drew ?_ | refine blk_alloc ?_ _)); exact BK163.out) hb)
                        have n5_ := Aside0.mk (below_step (by repeat (first | (with_reducible first | exact HB.out | apply below_alloc | apply pw_below_drewN | apply below_drew1 | refine below_set ?_ GE162.out | refine below_set ?_ GE163.out) | exact HB.out)) hb)
                        have n6_ := Aside0.mk (hbox)
                        have n7_ := Aside0.mk ((by rw [hg]; exact (below_size (by repeat (first | (with_reducible first | exact HB.out | apply below_alloc | apply pw_below_drewN | apply below_drew1 | refine below_set ?_ GE162.out | refine below_set ?_ GE163.out) | exact HB.out))) : w.heap.size ≤ gb172))
                        have n8_ := Aside0.mk ((by rw [hg]; exact (below_size (by repeat (first | (with_reducible first | exact HB.out | apply below_alloc | apply pw_below_drewN | apply below_drew1 | refine below_set ?_ GE162.out | refine below_set ?_ GE163.out) | exact HB.out))) : w.heap.size ≤ gb172))
                        have n9_ := Aside0.mk ((by rw [hg]; exact Nat.ne_of_lt (blk_lt (g := gb162) (o := .cells #[.int .i64 0, .int .u64 0, .slice none 0 0] 30 (0, 0)) (by (with_reducible repeat (first | refine blk_drewN ?_ _ | refine blk_drew ?_ | refine blk_alloc ?_ _)); exact BK162.out)) : gb162 ≠ gb172))
                        have n10_ := Aside0.mk ((by rw [hg]; exact Nat.ne_of_gt (blk_lt (g := gb162) (o := .cells #[.int .i64 0, .int .u64 0, .slice none 0 0] 30 (0, 0)) (by (with_reducible repeat (first | refine blk_drewN ?_ _ | refine blk_drew ?_ | refine blk_alloc ?_ _)); exact BK162.out)) : gb172 ≠ gb162))
                        have n11_ := Aside0.mk ((by rw [hg]; exact Nat.ne_of_lt (blk_lt (g := gb163) (o := .cells #[.int .i64 x164000_1, .int .u64 x164001_1, .slice Ao16 x164002_1.length co16] 30 (0, 0)) (by (with_reducible repeat (first | refine blk_drewN ?_ _ | refine blk_drew ?_ | refine blk_alloc ?_ _)); exact BK163.out)) : gb163 ≠ gb172))
                        have n12_ := Aside0.mk ((by rw [hg]; exact Nat.ne_of_gt (blk_lt (g := gb163) (o := .cells #[.int .i64 x164000_1, .int .u64 x164001_1, .slice Ao16 x164002_1.length co16] 30 (0, 0)) (by (with_reducible repeat (first | refine blk_drewN ?_ _ | refine blk_drew ?_ | refine blk_alloc ?_ _)); exact BK163.out)) : gb172 ≠ gb163))
                        clear HO_7
                        clear HO_164002
                        clear HO170
                        clear BK162
                        clear BK163
                        clear HB
                        have HO_7 := n0_
                        have HO_164002 := n1_
                        have HO170 := n2_
                        have BK162 := n3_
                        have BK163 := n4_
                        have HB := n5_
                        have BK172 := n6_
                        have GW172 := n7_
                        have GE172 := n8_
                        have NB162_172 := n9_
                        have NB172_162 := n10_
                        have NB163_172 := n11_
                        have NB172_163 := n12_
                        clear n0_ n1_ n2_ n3_ n4_ n5_ n6_ n7_ n8_ n9_ n10_ n11_ n12_
                        clear hb hbox hg
                        refine hK.out _ _ ⟨(blk_cell BK163.out 0).trans rfl, (blk_cell BK163.out 1).trans rfl, (blk_cell BK163.out 2).trans rfl, ((HB.out.cell (World.block_lt_of_cell? w _ hw164_0)).trans hw164_0), ((HB.out.cell (World.block_lt_of_cell? w _ hw164_1)).trans hw164_1), ((HB.out.cell (World.block_lt_of_cell? w _ hw165_0)).trans hw165_0), ((HB.out.cell (World.block_lt_of_cell? w _ hw165_1)).trans hw165_1)⟩ (fun hHeld => ?_)
                        clear hK K
                        refine norm_ (a' := ?_) ?_ ?_
                        rotate_left
                        · show Act.put _ (some 9) _ = _
                          simp only [Act.put, List.setIfInBounds_toArray, List.set_cons_zero, List.set_cons_succ, i64_w, i32_w]
                          rfl
                        exact norm_ (by simp only [putAll, Act.put, List.setIfInBounds_toArray, List.set_cons_zero, List.set_cons_succ]) (hCont (v169, gb172) _ ⟨hHeld, (by (with_reducible repeat (first | apply Kd.R_alloc | apply Kd.R_drewN | apply Kd.R_drew)); exact Kd.R_mono HO170.out (fun _ hk => ⟨hk.2, hk.1.2⟩)), (by (with_reducible repeat (first | apply Kd.R_alloc | apply Kd.R_drewN | apply Kd.R_drew)); exact Kd.R_mono HO_164002.out (fun _ hk => ⟨hk.2, hk.1⟩)), (by (with_reducible repeat (first | apply Kd.R_alloc | apply Kd.R_drewN | apply Kd.R_drew)); exact Kd.R_mono HO_7.out (fun _ hk => ⟨hk.2, hk.1⟩)), (by (with_reducible repeat (first | refine blk_drewN ?_ _ | refine blk_drew ?_ | refine blk_alloc ?_ _)); exact BK162.out), (by (with_reducible repeat (first | refine blk_drewN ?_ _ | refine blk_drew ?_ | refine blk_alloc ?_ _)); exact BK163.out), (by (with_reducible repeat (first | refine blk_drewN ?_ _ | refine blk_drew ?_ | refine blk_alloc ?_ _)); exact BK172.out), GW172.out, GE172.out, NB162_172.out, NB172_162.out, NB163_172.out, NB172_163.out, (by repeat (first | (with_reducible first | exact HB.out | apply below_alloc | apply pw_below_drewN | apply below_drew1 | refine below_set ?_ GE162.out | refine below_set ?_ GE163.out | refine below_set ?_ GE172.out) | exact HB.out))⟩)
                      · skip
                        refine box_step ?hg (N := 9) ?hd (cs := #[.int .i64 0, .int .u64 0, .slice none 0 0]) (t := 30) ?hr ?_; (case hd => rfl); (case hg => rfl); (case hr => first | (go_simp; done) | (go_simp; rfl))
                        intro gb172 hg w18 hbox hb
                        have n0_ := Aside0.mk (Kd.R_below (by (with_reducible repeat (first | apply Kd.R_alloc | apply Kd.R_drewN | apply Kd.R_drew)); exact HO_7.out) hb)
                        have n1_ := Aside0.mk (Kd.R_below (by (with_reducible repeat (first | apply Kd.R_alloc | apply Kd.R_drewN | apply Kd.R_drew)); exact HO_164002.out) hb)
                        have n2_ := Aside0.mk (blk_below (g := gb162) (o := .cells #[.int .i64 0, .int .u64 0, .slice none 0 0] 30 (0, 0)) (by (with_reducible repeat (first | refine blk_drewN ?_ _ | refine blk_drew ?_ | refine blk_alloc ?_ _)); exact BK162.out) hb)
                        have n3_ := Aside0.mk (blk_below (g := gb163) (o := .cells #[.int .i64 x164000_1, .int .u64 x164001_1, .slice Ao16 x164002_1.length co16] 30 (0, 0)) (by (with_reducible repeat (first | refine blk_drewN ?_ _ | refine blk_drew ?_ | refine blk_alloc ?_ _)); exact BK163.out) hb)
                        have n4_ := Aside0.mk (below_step (by repeat (first | (with_reducible first | exact HB.out | apply below_alloc | apply pw_below_drewN | apply below_drew1 | refine below_set ?_ GE162.out | refine below_set ?_ GE163.out) | exact HB.out)) hb)
                        have n5_ := Aside0.mk (hbox)
                        have n6_ := Aside0.mk ((by rw [hg]; exact (below_size (by repeat (first | (with_reducible first | exact HB.out | apply below_alloc | apply pw_below_drewN | apply below_drew1 | refine below_set ?_ GE162.out | refine below_set ?_ GE163.out) | exact HB.out))) : w.heap.size ≤ gb172))
                        have n7_ := Aside0.mk ((by rw [hg]; exact (below_size (by repeat (first | (with_reducible first | exact HB.out | apply below_alloc | apply pw_below_drewN | apply below_drew1 | refine below_set ?_ GE162.out | refine below_set ?_ GE163.out) | exact HB.out))) : w.heap.size ≤ gb172))
                        have n8_ := Aside0.mk ((by rw [hg]; exact Nat.ne_of_lt (blk_lt (g := gb162) (o := .cells #[.int .i64 0, .int .u64 0, .slice none 0 0] 30 (0, 0)) (by (with_reducible repeat (first | refine blk_drewN ?_ _ | refine blk_drew ?_ | refine blk_alloc ?_ _)); exact BK162.out)) : gb162 ≠ gb172))
                        have n9_ := Aside0.mk ((by rw [hg]; exact Nat.ne_of_gt (blk_lt (g := gb162) (o := .cells #[.int .i64 0, .int .u64 0, .slice none 0 0] 30 (0, 0)) (by (with_reducible repeat (first | refine blk_drewN ?_ _ | refine blk_drew ?_ | refine blk_alloc ?_ _)); exact BK162.out)) : gb172 ≠ gb162))
                        have n10_ := Aside0.mk ((by rw [hg]; exact Nat.ne_of_lt (blk_lt (g := gb163) (o := .cells #[.int .i64 x164000_1, .int .u64 x164001_1, .slice Ao16 x164002_1.length co16] 30 (0, 0)) (by (with_reducible repeat (first | refine blk_drewN ?_ _ | refine blk_drew ?_ | refine blk_alloc ?_ _)); exact BK163.out)) : gb163 ≠ gb172))
                        have n11_ := Aside0.mk ((by rw [hg]; exact Nat.ne_of_gt (blk_lt (g := gb163) (o := .cells #[.int .i64 x164000_1, .int .u64 x164001_1, .slice Ao16 x164002_1.length co16] 30 (0, 0)) (by (with_reducible repeat (first | refine blk_drewN ?_ _ | refine blk_drew ?_ | refine blk_alloc ?_ _)); exact BK163.out)) : gb172 ≠ gb163))
                        clear HO_7
                        clear HO_164002
                        clear BK162
                        clear BK163
                        clear HB
                        have HO_7 := n0_
                        have HO_164002 := n1_
                        have BK162 := n2_
                        have BK163 := n3_
                        have HB := n4_
                        have BK172 := n5_
                        have GW172 := n6_
                        have GE172 := n7_
                        have NB162_172 := n8_
                        have NB172_162 := n9_
                        have NB163_172 := n10_
                        have NB172_163 := n11_
                        clear n0_ n1_ n2_ n3_ n4_ n5_ n6_ n7_ n8_ n9_ n10_ n11_
                        clear hb hbox hg
                        refine hK.out _ _ ⟨(blk_cell BK163.out 0).trans rfl, (blk_cell BK163.out 1).trans rfl, (blk_cell BK163.out 2).trans rfl, ((HB.out.cell (World.block_lt_of_cell? w _ hw164_0)).trans hw164_0), ((HB.out.cell (World.block_lt_of_cell? w _ hw164_1)).trans hw164_1), ((HB.out.cell (World.block_lt_of_cell? w _ hw165_0)).trans hw165_0), ((HB.out.cell (World.block_lt_of_cell? w _ hw165_1)).trans hw165_1)⟩ (fun hHeld => ?_)
                        clear hK K
                        refine norm_ (a' := ?_) ?_ ?_
                        rotate_left
                        · show Act.put _ (some 9) _ = _
                          simp only [Act.put, List.setIfInBounds_toArray, List.set_cons_zero, List.set_cons_succ, i64_w, i32_w]
                          rfl
                        refine one_ (i := 11) (N := some 38) #[true, true, true, true, true, true, true, true, true, true, true, true, false, false, false, true, false, false] rfl rfl (one_of HT_.out (by kernel_rfl)) (by decide) (fun K hK => ?_)
                        refine goes_ Try.func29 (by kernel_rfl) rfl #[.agg #[.int .i64 x164000_1, .int .u64 x164001_1, .slice Ao16 x164002_1.length co16], .int .u64 ((rd_T51 l1 x8_1).f0), .int .u64 ((rd_T51 l1 x8_1).f1)] (by rfl) rfl rfl (by (try simp only [List.map_toArray, List.map_cons, List.map_nil]); first | done | rfl | (simp only [List.length_drop, List.length_take]; rfl)) ?_
                        with_reducible refine (skylightref17_Add.calls kj7 x164000_1 x164001_1 _ _ x164002_1 ((rd_T51 l1 x8_1).f0) ((rd_T51 l1 x8_1).f1) t166 t167 t168 t171 _ ?side1 ?side2 A13.out).mono ?_
                        (case side1 => repeat (first | exact (Kd.R_reads' HO_164002.out).2.2 | (with_reducible refine Kd.C_alloc ?_ _) | (with_reducible refine Kd.C_drewN ?_ _) | (with_reducible refine Kd.C_drew ?_)))
                        (case side2 => exact (Kd.R_reads' HO_164002.out).2.1)
                        rintro e w19 ⟨v169, rfl, ho0, hb⟩
                        refine ⟨_, rfl, ?_⟩
                        have n0_ := Aside0.mk (Kd.R_elder' (by (with_reducible repeat (first | apply Kd.R_alloc | apply Kd.R_drewN | apply Kd.R_drew)); exact HO_7.out) (Kd.R_base ho0) hb)
                        have n1_ := Aside0.mk (Kd.R_elder' (by (with_reducible repeat (first | apply Kd.R_alloc | apply Kd.R_drewN | apply Kd.R_drew)); exact HO_164002.out) (Kd.R_base ho0) hb)
                        have n2_ := Aside0.mk (Kd.R_lower (Kd.R_new' (Kd.R_new' ho0 (Kd.R_lt (by (with_reducible repeat (first | apply Kd.R_alloc | apply Kd.R_drewN | apply Kd.R_drew)); exact HO_7.out))) (Kd.R_lt (by (with_reducible repeat (first | apply Kd.R_alloc | apply Kd.R_drewN | apply Kd.R_drew)); exact HO_164002.out))) (below_size (by repeat (first | (with_reducible first | exact HB.out | apply below_alloc | apply pw_below_drewN | apply below_drew1 | refine below_set ?_ GE162.out | refine below_set ?_ GE163.out | refine below_set ?_ GE172.out) | exact HB.out))))
                        have n3_ := Aside0.mk (blk_below (g := gb162) (o := .cells #[.int .i64 0, .int .u64 0, .slice none 0 0] 30 (0, 0)) (by (with_reducible repeat (first | refine blk_drewN ?_ _ | refine blk_drew ?_ | refine blk_alloc ?_ _)); exact BK162.out) hb)
                        have n4_ := Aside0.mk (blk_below (g := gb163) (o := .cells #[.int .i64 x164000_1, .int .u64 x164001_1, .slice Ao16 x164002_1.length co16] 30 (0, 0)) (by (with_reducible repeat (first | refine blk_drewN ?_ _ | refine blk_drew ?_ | refine blk_alloc ?_ _)); exact BK163.out) hb)
                        have n5_ := Aside0.mk (blk_below (g := gb172) (o := .cells #[.int .i64 0, .int .u64 0, .slice none 0 0] 30 (0, 0)) (by (with_reducible repeat (first | refine blk_drewN ?_ _ | refine blk_drew ?_ | refine blk_alloc ?_ _)); exact BK172.out) hb)
                        have n6_ := Aside0.mk (below_step (by repeat (first | (with_reducible first | exact HB.out | apply below_alloc | apply pw_below_drewN | apply below_drew1 | refine below_set ?_ GE162.out | refine below_set ?_ GE163.out | refine below_set ?_ GE172.out) | exact HB.out)) hb)
                        clear HO_7
                        clear HO_164002
                        clear BK162
                        clear BK163
                        clear BK172
                        clear HB
                        have HO_7 := n0_
                        have HO_164002 := n1_
                        have HO170 := n2_
                        have BK162 := n3_
                        have BK163 := n4_
                        have BK172 := n5_
                        have HB := n6_
                        clear n0_ n1_ n2_ n3_ n4_ n5_ n6_
                        (try clear hb)
                        (try clear hb2)
                        (try clear hk)
                        (try clear hi)
                        (try clear ho0)
                        refine hK.out _ _ ⟨(blk_cell BK163.out 0).trans rfl, (blk_cell BK163.out 1).trans rfl, (blk_cell BK163.out 2).trans rfl, ((HB.out.cell (World.block_lt_of_cell? w _ hw164_0)).trans hw164_0), ((HB.out.cell (World.block_lt_of_cell? w _ hw164_1)).trans hw164_1), ((HB.out.cell (World.block_lt_of_cell? w _ hw165_0)).trans hw165_0), ((HB.out.cell (World.block_lt_of_cell? w _ hw165_1)).trans hw165_1)⟩ (fun hHeld => ?_)
                        clear hK K
                        refine norm_ (a' := ?_) ?_ ?_
                        rotate_left
                        · show Act.put _ (some 38) _ = _
                          simp only [Act.put, List.setIfInBounds_toArray, List.set_cons_zero, List.set_cons_succ, i64_w, i32_w]
                          rfl
                        refine pure_ (i := 12) (N := some 26) (v := ?_) (a' := ?_) #[true, true, true, true, true, true, true, true, true, true, true, true, true, false, false, true, false, false] rfl rfl (any_of HT_.out (by kernel_rfl)) (fun _ _ _ h => h) (Or.inl ⟨by rfl, ?_⟩) ?_ ?_
                        rotate_left
                        · intro w'
                          go_simp
                          with_reducible rfl
                        rotate_left
                        · simp only [Act.put, List.setIfInBounds_toArray, List.set_cons_zero, List.set_cons_succ, i64_w, i32_w]
                          rfl
                        refine pure_ (i := 13) (N := some 39) (v := ?_) (a' := ?_) #[true, true, true, true, true, true, true, true, true, true, true, true, true, true, false, true, false, false] rfl rfl (any_of HT_.out (by kernel_rfl)) (fun _ _ _ h => h) (Or.inl ⟨by rfl, ?_⟩) ?_ ?_
                        rotate_left
                        · intro w'
                          go_simp
                          with_reducible rfl
                        rotate_left
                        · simp only [Act.put, List.setIfInBounds_toArray, List.set_cons_zero, List.set_cons_succ, i64_w, i32_w]
                          rfl
                        refine pure_ (i := 14) (N := some 40) (v := ?_) (a' := ?_) #[true, true, true, true, true, true, true, true, true, true, true, true, true, true, true, true, false, false] rfl rfl (any_of HT_.out (by kernel_rfl)) (fun _ _ _ h => h) (Or.inl ⟨by rfl, ?_⟩) ?_ ?_
                        rotate_left
                        · intro w'
                          go_simp
                          with_reducible rfl
                        rotate_left
                        · simp only [Act.put, List.setIfInBounds_toArray, List.set_cons_zero, List.set_cons_succ, i64_w, i32_w]
                          rfl
                        exact norm_ (by simp only [putAll, Act.put, List.setIfInBounds_toArray, List.set_cons_zero, List.set_cons_succ]) (hCont (v169, gb172) _ ⟨hHeld, (by (with_reducible repeat (first | apply Kd.R_alloc | apply Kd.R_drewN | apply Kd.R_drew)); exact Kd.R_mono HO170.out (fun _ hk => ⟨hk.2, hk.1.2⟩)), (by (with_reducible repeat (first | apply Kd.R_alloc | apply Kd.R_drewN | apply Kd.R_drew)); exact Kd.R_mono HO_164002.out (fun _ hk => ⟨hk.2, hk.1⟩)), (by (with_reducible repeat (first | apply Kd.R_alloc | apply Kd.R_drewN | apply Kd.R_drew)); exact Kd.R_mono HO_7.out (fun _ hk => ⟨hk.2, hk.1⟩)), (by (with_reducible repeat (first | refine blk_drewN ?_ _ | refine blk_drew ?_ | refine blk_alloc ?_ _)); exact BK162.out), (by (with_reducible repeat (first | refine blk_drewN ?_ _ | refine blk_drew ?_ | refine blk_alloc ?_ _)); exact BK163.out), (by (with_reducible repeat (first | refine blk_drewN ?_ _ | refine blk_drew ?_ | refine blk_alloc ?_ _)); exact BK172.out), GW172.out, GE172.out, NB162_172.out, NB172_162.out, NB163_172.out, NB172_163.out, (by repeat (first | (with_reducible first | exact HB.out | apply below_alloc | apply pw_below_drewN | apply below_drew1 | refine below_set ?_ GE162.out | refine below_set ?_ GE163.out | refine below_set ?_ GE172.out) | exact HB.out))⟩)
                    rintro ⟨v169, gb172⟩ w20 ⟨hS_, h0_, h1_, h2_, h3_, h4_, h5_, h6_, h7_, h8_, h9_, h10_, h11_, h12_⟩
                    have n0_ : Aside0 (Kd.R k51 51 w20 w.heap.size (fun k_ => some k_ ≠ (.slice Ao16 x164002_1.length co16 : Value).ownBlock ∧ some k_ ≠ (u7 : Value).ownBlock) v169 t168) := ⟨h0_⟩
                    have n1_ : Aside0 (Kd.R k51 51 w20 w.heap.size (fun k_ => some k_ ≠ (v169 : Value).ownBlock ∧ some k_ ≠ (u7 : Value).ownBlock) (.slice Ao16 x164002_1.length co16) x164002_1) := ⟨h1_⟩
                    have n2_ : Aside0 (Kd.R k51 51 w20 w.heap.size (fun k_ => some k_ ≠ (v169 : Value).ownBlock ∧ some k_ ≠ (.slice Ao16 x164002_1.length co16 : Value).ownBlock) u7 x7_1) := ⟨h2_⟩
                    have n3_ : Aside0 (w20.heap[gb162]? = some (.cells #[.int .i64 0, .int .u64 0, .slice none 0 0] 30 (0, 0))) := ⟨h3_⟩
                    have n4_ : Aside0 (w20.heap[gb163]? = some (.cells #[.int .i64 x164000_1, .int .u64 x164001_1, .slice Ao16 x164002_1.length co16] 30 (0, 0))) := ⟨h4_⟩
                    have n5_ : Aside0 (w20.heap[gb172]? = some (.cells #[.int .i64 0, .int .u64 0, .slice none 0 0] 30 (0, 0))) := ⟨h5_⟩
                    have n6_ : Aside0 (w.heap.size ≤ gb172) := ⟨h6_⟩
                    have n7_ : Aside0 (w.heap.size ≤ gb172) := ⟨h7_⟩
                    have n8_ : Aside0 (gb162 ≠ gb172) := ⟨h8_⟩
                    have n9_ : Aside0 (gb172 ≠ gb162) := ⟨h9_⟩
                    have n10_ : Aside0 (gb163 ≠ gb172) := ⟨h10_⟩
                    have n11_ : Aside0 (gb172 ≠ gb163) := ⟨h11_⟩
                    have n12_ : Aside0 (Below w.heap.size w w20) := ⟨h12_⟩
                    clear HO_7
                    clear HO_164002
                    clear BK162
                    clear BK163
                    clear HB
                    clear h0_ h1_ h2_ h3_ h4_ h5_ h6_ h7_ h8_ h9_ h10_ h11_ h12_
                    have HO170 := n0_
                    have HO_164002 := n1_
                    have HO_7 := n2_
                    have BK162 := n3_
                    have BK163 := n4_
                    have BK172 := n5_
                    have GW172 := n6_
                    have GE172 := n7_
                    have NB162_172 := n8_
                    have NB172_162 := n9_
                    have NB163_172 := n10_
                    have NB172_163 := n11_
                    have HB := n12_
                    clear n0_ n1_ n2_ n3_ n4_ n5_ n6_ n7_ n8_ n9_ n10_ n11_ n12_
                    have hHeld : w20.cell? ⟨gb163, 0, none⟩ = some (.int .i64 x164000_1) ∧ w20.cell? ⟨gb163, 1, none⟩ = some (.int .u64 x164001_1) ∧ w20.cell? ⟨gb163, 2, none⟩ = some (.slice Ao16 x164002_1.length co16) ∧ w20.cell? (ad164.add ((x8_1).toNat * 2)) = some (.int .u64 ((rd_T51 l1 x8_1).f0)) ∧ w20.cell? ⟨(ad164.add ((x8_1).toNat * 2)).block, (ad164.add ((x8_1).toNat * 2)).off + 1, none⟩ = some (.int .u64 ((rd_T51 l1 x8_1).f1)) ∧ w20.cell? (ad164.add ((x8_1).toNat * 2)) = some (.int .u64 ((rd_T51 l1 x8_1).f0)) ∧ w20.cell? ⟨(ad164.add ((x8_1).toNat * 2)).block, (ad164.add ((x8_1).toNat * 2)).off + 1, none⟩ = some (.int .u64 ((rd_T51 l1 x8_1).f1)) := hS_
                    obtain ⟨Ao23, co23, eo23⟩ := Kd.R_slice HO170.out
                    (first | subst eo23 | (injection eo23 with f1_ f2_ f3_; have f4_ := f1_.symm; have f5_ := f3_.symm; clear f1_ f2_ f3_; subst f4_; subst f5_))
                    refine norm_ (a' := ?_) ?_ ?_
                    rotate_left
                    · simp only [putAll, Act.put, List.setIfInBounds_toArray, List.set_cons_zero, List.set_cons_succ]
                      rfl
                    refine one_ (i := 16) (N := none) #[true, true, true, true, true, true, true, true, true, true, true, true, true, true, true, true, true, false] rfl rfl (one_of HT_.out (by kernel_rfl)) (by decide) (fun K hK => ?_)
                    have hs21 : w20.cell? ⟨gb172, 0, none⟩ = some (.int .i64 0) := (blk_cell BK172.out 0).trans rfl
                    have hfs21 := blk_frozen BK172.out 0
                    have hns21_0 := NB162_172.out
                    have hns21_1 := NB163_172.out
                    have hms21_0 := NB172_162.out
                    have hms21_1 := NB172_163.out
                    have hs22 : w20.cell? ⟨gb172, 1, none⟩ = some (.int .u64 0) := (blk_cell BK172.out 1).trans rfl
                    have hfs22 := blk_frozen BK172.out 1
                    have hns22_0 := NB162_172.out
                    have hns22_1 := NB163_172.out
                    have hms22_0 := NB172_162.out
                    have hms22_1 := NB172_163.out
                    have hs24 : w20.cell? ⟨gb172, 2, none⟩ = some (.slice none 0 0) := (blk_cell BK172.out 2).trans rfl
                    have hfs24 := blk_frozen BK172.out 2
                    have hns24_0 := NB162_172.out
                    have hns24_1 := NB163_172.out
                    have hms24_0 := NB172_162.out
                    have hms24_1 := NB172_163.out
                    refine skip_ (w1 := ?_) (by rfl) rfl ?_ ?_
                    rotate_left
                    · go_simp
                      rfl
                    refine hK.out _ _ ⟨((cell_far (p := ⟨gb172, _, none⟩) NB163_172.out _).trans (((cell_far (p := ⟨gb172, _, none⟩) NB163_172.out _).trans (((cell_far (p := ⟨gb172, _, none⟩) NB163_172.out _).trans (hHeld.1)))))), ((cell_far (p := ⟨gb172, _, none⟩) NB163_172.out _).trans (((cell_far (p := ⟨gb172, _, none⟩) NB163_172.out _).trans (((cell_far (p := ⟨gb172, _, none⟩) NB163_172.out _).trans (hHeld.2.1)))))), ((cell_far (p := ⟨gb172, _, none⟩) NB163_172.out _).trans (((cell_far (p := ⟨gb172, _, none⟩) NB163_172.out _).trans (((cell_far (p := ⟨gb172, _, none⟩) NB163_172.out _).trans (hHeld.2.2.1)))))), ((cell_far (p := ⟨gb172, _, none⟩) (by first | exact Nat.ne_of_lt (Nat.lt_of_lt_of_le (by have := World.block_lt_of_cell? _ _ hw164_0; first | rwa [add_block] at this | exact this) GW172.out) | (rw [add_block]; exact Nat.ne_of_lt (Nat.lt_of_lt_of_le (by have := World.block_lt_of_cell? _ _ hw164_0; first | rwa [add_block] at this | exact this) GW172.out)) | (show (Addr.add _ _).block ≠ _; rw [add_block]; exact Nat.ne_of_lt (Nat.lt_of_lt_of_le (by have := World.block_lt_of_cell? _ _ hw164_0; first | rwa [add_block] at this | exact this) GW172.out)) | (dsimp only; exact Nat.ne_of_lt (Nat.lt_of_lt_of_le (by have := World.block_lt_of_cell? _ _ hw164_0; first | rwa [add_block] at this | exact this) GW172.out))) _).trans (((cell_far (p := ⟨gb172, _, none⟩) (by first | exact Nat.ne_of_lt (Nat.lt_of_lt_of_le (by have := World.block_lt_of_cell? _ _ hw164_0; first | rwa [add_block] at this | exact this) GW172.out) | (rw [add_block]; exact Nat.ne_of_lt (Nat.lt_of_lt_of_le (by have := World.block_lt_of_cell? _ _ hw164_0; first | rwa [add_block] at this | exact this) GW172.out)) | (show (Addr.add _ _).block ≠ _; rw [add_block]; exact Nat.ne_of_lt (Nat.lt_of_lt_of_le (by have := World.block_lt_of_cell? _ _ hw164_0; first | rwa [add_block] at this | exact this) GW172.out)) | (dsimp only; exact Nat.ne_of_lt (Nat.lt_of_lt_of_le (by have := World.block_lt_of_cell? _ _ hw164_0; first | rwa [add_block] at this | exact this) GW172.out))) _).trans (((cell_far (p := ⟨gb172, _, none⟩) (by first | exact Nat.ne_of_lt (Nat.lt_of_lt_of_le (by have := World.block_lt_of_cell? _ _ hw164_0; first | rwa [add_block] at this | exact this) GW172.out) | (rw [add_block]; exact Nat.ne_of_lt (Nat.lt_of_lt_of_le (by have := World.block_lt_of_cell? _ _ hw164_0; first | rwa [add_block] at this | exact this) GW172.out)) | (show (Addr.add _ _).block ≠ _; rw [add_block]; exact Nat.ne_of_lt (Nat.lt_of_lt_of_le (by have := World.block_lt_of_cell? _ _ hw164_0; first | rwa [add_block] at this | exact this) GW172.out)) | (dsimp only; exact Nat.ne_of_lt (Nat.lt_of_lt_of_le (by have := World.block_lt_of_cell? _ _ hw164_0; first | rwa [add_block] at this | exact this) GW172.out))) _).trans (hHeld.2.2.2.1)))))), ((cell_far (p := ⟨gb172, _, none⟩) (by first | exact Nat.ne_of_lt (Nat.lt_of_lt_of_le (by have := World.block_lt_of_cell? _ _ hw164_1; first | rwa [add_block] at this | exact this) GW172.out) | (rw [add_block]; exact Nat.ne_of_lt (Nat.lt_of_lt_of_le (by have := World.block_lt_of_cell? _ _ hw164_1; first | rwa [add_block] at this | exact this) GW172.out)) | (show (Addr.add _ _).block ≠ _; rw [add_block]; exact Nat.ne_of_lt (Nat.lt_of_lt_of_le (by have := World.block_lt_of_cell? _ _ hw164_1; first | rwa [add_block] at this | exact this) GW172.out)) | (dsimp only; exact Nat.ne_of_lt (Nat.lt_of_lt_of_le (by have := World.block_lt_of_cell? _ _ hw164_1; first | rwa [add_block] at this | exact this) GW172.out))) _).trans (((cell_far (p := ⟨gb172, _, none⟩) (by first | exact Nat.ne_of_lt (Nat.lt_of_lt_of_le (by have := World.block_lt_of_cell? _ _ hw164_1; first | rwa [add_block] at this | exact this) GW172.out) | (rw [add_block]; exact Nat.ne_of_lt (Nat.lt_of_lt_of_le (by have := World.block_lt_of_cell? _ _ hw164_1; first | rwa [add_block] at this | exact this) GW172.out)) | (show (Addr.add _ _).block ≠ _; rw [add_block]; exact Nat.ne_of_lt (Nat.lt_of_lt_of_le (by have := World.block_lt_of_cell? _ _ hw164_1; first | rwa [add_block] at this | exact this) GW172.out)) | (dsimp only; exact Nat.ne_of_lt (Nat.lt_of_lt_of_le (by have := World.block_lt_of_cell? _ _ hw164_1; first | rwa [add_block] at this | exact this) GW172.out))) _).trans (((cell_far (p := ⟨gb172, _, none⟩) (by first | exact Nat.ne_of_lt (Nat.lt_of_lt_of_le (by have := World.block_lt_of_cell? _ _ hw164_1; first | rwa [add_block] at this | exact this) GW172.out) | (rw [add_block]; exact Nat.ne_of_lt (Nat.lt_of_lt_of_le (by have := World.block_lt_of_cell? _ _ hw164_1; first | rwa [add_block] at this | exact this) GW172.out)) | (show (Addr.add _ _).block ≠ _; rw [add_block]; exact Nat.ne_of_lt (Nat.lt_of_lt_of_le (by have := World.block_lt_of_cell? _ _ hw164_1; first | rwa [add_block] at this | exact this) GW172.out)) | (dsimp only; exact Nat.ne_of_lt (Nat.lt_of_lt_of_le (by have := World.block_lt_of_cell? _ _ hw164_1; first | rwa [add_block] at this | exact this) GW172.out))) _).trans (hHeld.2.2.2.2.1)))))), ((cell_far (p := ⟨gb172, _, none⟩) (by first | exact Nat.ne_of_lt (Nat.lt_of_lt_of_le (by have := World.block_lt_of_cell? _ _ hw165_0; first | rwa [add_block] at this | exact this) GW172.out) | (rw [add_block]; exact Nat.ne_of_lt (Nat.lt_of_lt_of_le (by have := World.block_lt_of_cell? _ _ hw165_0; first | rwa [add_block] at this | exact this) GW172.out)) | (show (Addr.add _ _).block ≠ _; rw [add_block]; exact Nat.ne_of_lt (Nat.lt_of_lt_of_le (by have := World.block_lt_of_cell? _ _ hw165_0; first | rwa [add_block] at this | exact this) GW172.out)) | (dsimp only; exact Nat.ne_of_lt (Nat.lt_of_lt_of_le (by have := World.block_lt_of_cell? _ _ hw165_0; first | rwa [add_block] at this | exact this) GW172.out))) _).trans (((cell_far (p := ⟨gb172, _, none⟩) (by first | exact Nat.ne_of_lt (Nat.lt_of_lt_of_le (by have := World.block_lt_of_cell? _ _ hw165_0; first | rwa [add_block] at this | exact this) GW172.out) | (rw [add_block]; exact Nat.ne_of_lt (Nat.lt_of_lt_of_le (by have := World.block_lt_of_cell? _ _ hw165_0; first | rwa [add_block] at this | exact this) GW172.out)) | (show (Addr.add _ _).block ≠ _; rw [add_block]; exact Nat.ne_of_lt (Nat.lt_of_lt_of_le (by have := World.block_lt_of_cell? _ _ hw165_0; first | rwa [add_block] at this | exact this) GW172.out)) | (dsimp only; exact Nat.ne_of_lt (Nat.lt_of_lt_of_le (by have := World.block_lt_of_cell? _ _ hw165_0; first | rwa [add_block] at this | exact this) GW172.out))) _).trans (((cell_far (p := ⟨gb172, _, none⟩) (by first | exact Nat.ne_of_lt (Nat.lt_of_lt_of_le (by have := World.block_lt_of_cell? _ _ hw165_0; first | rwa [add_block] at this | exact this) GW172.out) | (rw [add_block]; exact Nat.ne_of_lt (Nat.lt_of_lt_of_le (by have := World.block_lt_of_cell? _ _ hw165_0; first | rwa [add_block] at this | exact this) GW172.out)) | (show (Addr.add _ _).block ≠ _; rw [add_block]; exact Nat.ne_of_lt (Nat.lt_of_lt_of_le (by have := World.block_lt_of_cell? _ _ hw165_0; first | rwa [add_block] at this | exact this) GW172.out)) | (dsimp only; exact Nat.ne_of_lt (Nat.lt_of_lt_of_le (by have := World.block_lt_of_cell? _ _ hw165_0; first | rwa [add_block] at this | exact this) GW172.out))) _).trans (hHeld.2.2.2.2.2.1)))))), ((cell_far (p := ⟨gb172, _, none⟩) (by first | exact Nat.ne_of_lt (Nat.lt_of_lt_of_le (by have := World.block_lt_of_cell? _ _ hw165_1; first | rwa [add_block] at this | exact this) GW172.out) | (rw [add_block]; exact Nat.ne_of_lt (Nat.lt_of_lt_of_le (by have := World.block_lt_of_cell? _ _ hw165_1; first | rwa [add_block] at this | exact this) GW172.out)) | (show (Addr.add _ _).block ≠ _; rw [add_block]; exact Nat.ne_of_lt (Nat.lt_of_lt_of_le (by have := World.block_lt_of_cell? _ _ hw165_1; first | rwa [add_block] at this | exact this) GW172.out)) | (dsimp only; exact Nat.ne_of_lt (Nat.lt_of_lt_of_le (by have := World.block_lt_of_cell? _ _ hw165_1; first | rwa [add_block] at this | exact this) GW172.out))) _).trans (((cell_far (p := ⟨gb172, _, none⟩) (by first | exact Nat.ne_of_lt (Nat.lt_of_lt_of_le (by have := World.block_lt_of_cell? _ _ hw165_1; first | rwa [add_block] at this | exact this) GW172.out) | (rw [add_block]; exact Nat.ne_of_lt (Nat.lt_of_lt_of_le (by have := World.block_lt_of_cell? _ _ hw165_1; first | rwa [add_block] at this | exact this) GW172.out)) | (show (Addr.add _ _).block ≠ _; rw [add_block]; exact Nat.ne_of_lt (Nat.lt_of_lt_of_le (by have := World.block_lt_of_cell? _ _ hw165_1; first | rwa [add_block] at this | exact this) GW172.out)) | (dsimp only; exact Nat.ne_of_lt (Nat.lt_of_lt_of_le (by have := World.block_lt_of_cell? _ _ hw165_1; first | rwa [add_block] at this | exact this) GW172.out))) _).trans (((cell_far (p := ⟨gb172, _, none⟩) (by first | exact Nat.ne_of_lt (Nat.lt_of_lt_of_le (by have := World.block_lt_of_cell? _ _ hw165_1; first | rwa [add_block] at this | exact this) GW172.out) | (rw [add_block]; exact Nat.ne_of_lt (Nat.lt_of_lt_of_le (by have := World.block_lt_of_cell? _ _ hw165_1; first | rwa [add_block] at this | exact this) GW172.out)) | (show (Addr.add _ _).block ≠ _; rw [add_block]; exact Nat.ne_of_lt (Nat.lt_of_lt_of_le (by have := World.block_lt_of_cell? _ _ hw165_1; first | rwa [add_block] at this | exact this) GW172.out)) | (dsimp only; exact Nat.ne_of_lt (Nat.lt_of_lt_of_le (by have := World.block_lt_of_cell? _ _ hw165_1; first | rwa [add_block] at this | exact this) GW172.out))) _).trans (hHeld.2.2.2.2.2.2))))))⟩ (fun hHeld => ?_)
                    clear hK K
                    refine pure_ (i := 17) (N := some 10) (v := ?_) (a' := ?_) #[true, true, true, true, true, true, true, true, true, true, true, true, true, true, true, true, true, true] rfl rfl (any_of HT_.out (by kernel_rfl)) (fun _ _ _ h => h) (Or.inl ⟨by rfl, ?_⟩) ?_ ?_
                    rotate_left
                    · intro w'
                      go_simp
                      with_reducible rfl
                    rotate_left
                    · simp only [Act.put, List.setIfInBounds_toArray, List.set_cons_zero, List.set_cons_succ, i64_w, i32_w]
                      rfl
                    refine done_ (done_of HT_.out (by kernel_rfl)) ?_
                    have hnb25 := NB172_162.out
                    have hnc25 := NB162_172.out
                    have hnb26 := NB172_163.out
                    have hnc26 := NB163_172.out
                    have hcz27_0 : w20.cell? ⟨gb172, 0, none⟩ = some (.int .i64 0) := (blk_cell BK172.out 0).trans rfl
                    have hcz27_1 : w20.cell? ⟨gb172, 1, none⟩ = some (.int .u64 0) := (blk_cell BK172.out 1).trans rfl
                    have hcz27_2 : w20.cell? ⟨gb172, 2, none⟩ = some (.slice none 0 0) := (blk_cell BK172.out 2).trans rfl
                    have hfz27_0 := blk_frozen BK172.out 0
                    have hfz27_1 := blk_frozen BK172.out 1
                    have hfz27_2 := blk_frozen BK172.out 2
                    have hnb28 := NB163_162.out
                    have hnc28 := NB162_163.out
                    have hcz29_0 : w20.cell? ⟨gb163, 0, none⟩ = some (.int .i64 x164000_1) := (blk_cell BK163.out 0).trans rfl
                    have hcz29_1 : w20.cell? ⟨gb163, 1, none⟩ = some (.int .u64 x164001_1) := (blk_cell BK163.out 1).trans rfl
                    have hcz29_2 : w20.cell? ⟨gb163, 2, none⟩ = some (.slice Ao16 x164002_1.length co16) := (blk_cell BK163.out 2).trans rfl
                    have hfz29_0 := blk_frozen BK163.out 0
                    have hfz29_1 := blk_frozen BK163.out 1
                    have hfz29_2 := blk_frozen BK163.out 2
                    have p173 : 0 ≤ (x8_1 : Int) := of_decide_eq_true (by first | (with_reducible assumption) | assumption)
                    have q173 : x8_1 < (l1.length : Int) := of_decide_eq_true (by first | (with_reducible assumption) | assumption)
                    obtain ⟨ad173, e173, hx173_0, hx173_1⟩ := at_T51 HR1.out x8_1 p173 q173
                    obtain rfl : ad164 = ad173 := (by injection e173)
                    have hn173_0 : ad164.block ≠ gb172 := Nat.ne_of_lt (Nat.lt_of_lt_of_le (by have := World.block_lt_of_cell? _ _ hx173_0; first | rwa [add_block] at this | exact this) GW172.out)
                    have hn173_1 : ad164.block ≠ gb172 := Nat.ne_of_lt (Nat.lt_of_lt_of_le (by have := World.block_lt_of_cell? _ _ hx173_0; first | rwa [add_block] at this | exact this) GW172.out)
                    have hn173_2 : ad164.block ≠ gb172 := Nat.ne_of_lt (Nat.lt_of_lt_of_le (by have := World.block_lt_of_cell? _ _ hx173_0; first | rwa [add_block] at this | exact this) GW172.out)
                    have hn173_3 : ad164.block ≠ gb163 := Nat.ne_of_lt (Nat.lt_of_lt_of_le (by have := World.block_lt_of_cell? _ _ hx173_0; first | rwa [add_block] at this | exact this) GW163.out)
                    have hn173_4 : ad164.block ≠ gb163 := Nat.ne_of_lt (Nat.lt_of_lt_of_le (by have := World.block_lt_of_cell? _ _ hx173_0; first | rwa [add_block] at this | exact this) GW163.out)
                    have hn173_5 : ad164.block ≠ gb163 := Nat.ne_of_lt (Nat.lt_of_lt_of_le (by have := World.block_lt_of_cell? _ _ hx173_0; first | rwa [add_block] at this | exact this) GW163.out)
                    replace hx173_0 := (HB.out.cell (World.block_lt_of_cell? w _ hx173_0)).trans hx173_0
                    replace hx173_1 := (HB.out.cell (World.block_lt_of_cell? w _ hx173_1)).trans hx173_1
                    replace hx173_0 := (cell_far (p := ⟨gb172, 0, none⟩) (by first | (rw [add_block]; exact hn173_0) | (show (Addr.add _ _).block ≠ _; rw [add_block]; exact hn173_0) | exact hn173_0) (.int .i64 t166)).trans hx173_0
                    replace hx173_1 := (cell_far (p := ⟨gb172, 0, none⟩) (by first | (rw [add_block]; exact hn173_0) | (show (Addr.add _ _).block ≠ _; rw [add_block]; exact hn173_0) | exact hn173_0) (.int .i64 t166)).trans hx173_1
                    replace hx173_0 := (cell_far (p := ⟨gb172, 1, none⟩) (by first | (rw [add_block]; exact hn173_1) | (show (Addr.add _ _).block ≠ _; rw [add_block]; exact hn173_1) | exact hn173_1) (.int .u64 t167)).trans hx173_0
                    replace hx173_1 := (cell_far (p := ⟨gb172, 1, none⟩) (by first | (rw [add_block]; exact hn173_1) | (show (Addr.add _ _).block ≠ _; rw [add_block]; exact hn173_1) | exact hn173_1) (.int .u64 t167)).trans hx173_1
                    replace hx173_0 := (cell_far (p := ⟨gb172, 2, none⟩) (by first | (rw [add_block]; exact hn173_2) | (show (Addr.add _ _).block ≠ _; rw [add_block]; exact hn173_2) | exact hn173_2) (.slice Ao23 t168.length co23)).trans hx173_0
                    replace hx173_1 := (cell_far (p := ⟨gb172, 2, none⟩) (by first | (rw [add_block]; exact hn173_2) | (show (Addr.add _ _).block ≠ _; rw [add_block]; exact hn173_2) | exact hn173_2) (.slice Ao23 t168.length co23)).trans hx173_1
                    replace hx173_0 := (cell_far (p := ⟨gb163, 0, none⟩) (by first | (rw [add_block]; exact hn173_3) | (show (Addr.add _ _).block ≠ _; rw [add_block]; exact hn173_3) | exact hn173_3) (.int .i64 t166)).trans hx173_0
                    replace hx173_1 := (cell_far (p := ⟨gb163, 0, none⟩) (by first | (rw [add_block]; exact hn173_3) | (show (Addr.add _ _).block ≠ _; rw [add_block]; exact hn173_3) | exact hn173_3) (.int .i64 t166)).trans hx173_1
                    replace hx173_0 := (cell_far (p := ⟨gb163, 1, none⟩) (by first | (rw [add_block]; exact hn173_4) | (show (Addr.add _ _).block ≠ _; rw [add_block]; exact hn173_4) | exact hn173_4) (.int .u64 t167)).trans hx173_0
                    replace hx173_1 := (cell_far (p := ⟨gb163, 1, none⟩) (by first | (rw [add_block]; exact hn173_4) | (show (Addr.add _ _).block ≠ _; rw [add_block]; exact hn173_4) | exact hn173_4) (.int .u64 t167)).trans hx173_1
                    replace hx173_0 := (cell_far (p := ⟨gb163, 2, none⟩) (by first | (rw [add_block]; exact hn173_5) | (show (Addr.add _ _).block ≠ _; rw [add_block]; exact hn173_5) | exact hn173_5) (.slice Ao23 t168.length co23)).trans hx173_0
                    replace hx173_1 := (cell_far (p := ⟨gb163, 2, none⟩) (by first | (rw [add_block]; exact hn173_5) | (show (Addr.add _ _).block ≠ _; rw [add_block]; exact hn173_5) | exact hn173_5) (.slice Ao23 t168.length co23)).trans hx173_1
                    clear hn173_0
                    clear hn173_1
                    clear hn173_2
                    clear hn173_3
                    clear hn173_4
                    clear hn173_5
                    replace p173 := eq_true p173
                    replace q173 := eq_true q173
                    try go_wp2_with (first | ((with_reducible refine gate_builtin (b := .append) (xs := #[.tmp 44, .tmp 49]) rfl ?_); at_builtin; refine Kd.R_append k51 (w0 := w) w.heap.size rfl (.tmp 44) (.tmp 49) 28 51 (.agg #[(.int .u64 0), (.int .u64 0)]) 16 rfl Try.underlying28 info51 rfl (by decide) (by omega) u7 x7_1 (⟨(rd_T51 l1 x8_1).f0, (rd_T51 l1 x8_1).f1⟩ : S51) [.int .u64 ((rd_T51 l1 x8_1).f0), .int .u64 ((rd_T51 l1 x8_1).f1)] (fun k_ => some k_ ≠ (.slice Ao16 x164002_1.length co16 : Value).ownBlock ∧ some k_ ≠ (.slice Ao23 t168.length co23 : Value).ownBlock) (fun _ => False) rfl (by first | (go_simp; done) | (go_simp; rfl)) ?aP (fun _ hk => hk.elim) ?aF ?aO ?aB ?aS ?aL ?_; (case aP => exact k51_mkM _ _ _ (⟨(rd_T51 l1 x8_1).f0, (rd_T51 l1 x8_1).f1⟩ : S51)); (case aB => exact (by repeat (first | (with_reducible first | exact HB.out | apply below_alloc | apply pw_below_drewN | apply below_drew1 | refine below_set ?_ GE162.out | refine below_set ?_ GE163.out | refine below_set ?_ GE172.out) | exact HB.out))); (case aF => exact (fun k_ hk => ⟨Kd.fresh' (Kd.R_lt (by (with_reducible repeat (first | apply Kd.R_alloc | apply Kd.R_drewN | apply Kd.R_drew)); exact (Kd.R_mono (Kd.R_mono (Kd.R_far (p := ⟨gb163, 2, none⟩) (Kd.R_far (p := ⟨gb163, 1, none⟩) (Kd.R_far (p := ⟨gb163, 0, none⟩) (Kd.R_far (p := ⟨gb172, 2, none⟩) (Kd.R_far (p := ⟨gb172, 1, none⟩) (Kd.R_far (p := ⟨gb172, 0, none⟩) (Kd.R_types (Kd.R_types HO_164002.out BK172.out (by decide)) BK163.out (by decide)) (fun _ hk => hk.1.2) (.int .i64 t166)) (fun _ hk => hk.1.2) (.int .u64 t167)) (fun _ hk => hk.1.2) (.slice Ao23 t168.length co23)) (fun _ hk => hk.2) (.int .i64 t166)) (fun _ hk => hk.2) (.int .u64 t167)) (fun _ hk => hk.2) (.slice Ao23 t168.length co23)) (fun _ h_ => h_.1)) (fun _ h_ => h_.1)))) k_ hk, Kd.fresh' (Kd.R_lt (by (with_reducible repeat (first | apply Kd.R_alloc | apply Kd.R_drewN | apply Kd.R_drew)); exact (Kd.R_mono (Kd.R_mono (Kd.R_far (p := ⟨gb163, 2, none⟩) (Kd.R_far (p := ⟨gb163, 1, none⟩) (Kd.R_far (p := ⟨gb163, 0, none⟩) (Kd.R_far (p := ⟨gb172, 2, none⟩) (Kd.R_far (p := ⟨gb172, 1, none⟩) (Kd.R_far (p := ⟨gb172, 0, none⟩) (Kd.R_types (Kd.R_types HO170.out BK172.out (by decide)) BK163.out (by decide)) (fun _ hk => hk.1.2) (.int .i64 t166)) (fun _ hk => hk.1.2) (.int .u64 t167)) (fun _ hk => hk.1.2) (.slice Ao23 t168.length co23)) (fun _ hk => hk.2) (.int .i64 t166)) (fun _ hk => hk.2) (.int .u64 t167)) (fun _ hk => hk.2) (.slice Ao23 t168.length co23)) (fun _ h_ => h_.1)) (fun _ h_ => h_.1)))) k_ hk⟩)); (case aO => exact (by (with_reducible repeat (first | apply Kd.R_alloc | apply Kd.R_drewN | apply Kd.R_drew)); exact Kd.R_mono (Kd.R_far (p := ⟨gb163, 2, none⟩) (Kd.R_far (p := ⟨gb163, 1, none⟩) (Kd.R_far (p := ⟨gb163, 0, none⟩) (Kd.R_far (p := ⟨gb172, 2, none⟩) (Kd.R_far (p := ⟨gb172, 1, none⟩) (Kd.R_far (p := ⟨gb172, 0, none⟩) (Kd.R_types (Kd.R_types HO_7.out BK172.out (by decide)) BK163.out (by decide)) (fun _ hk => hk.1.2) (.int .i64 t166)) (fun _ hk => hk.1.2) (.int .u64 t167)) (fun _ hk => hk.1.2) (.slice Ao23 t168.length co23)) (fun _ hk => hk.2) (.int .i64 t166)) (fun _ hk => hk.2) (.int .u64 t167)) (fun _ hk => hk.2) (.slice Ao23 t168.length co23)) (fun _ hk => ⟨hk.1.1.2, hk.1.1.1⟩))); (case aS => exact (below_size (by repeat (first | (with_reducible first | exact HB.out | apply below_alloc | apply pw_below_drewN | apply below_drew1 | refine below_set ?_ GE162.out | refine below_set ?_ GE163.out | refine below_set ?_ GE172.out) | exact HB.out)))); (case aL => have := LMc15.out; omega); intro v175 w30 ho hb hg hat; rw [← Ny174.out] at ho; have n0_ := Aside0.mk (Kd.R_after (ok := (fun k_ => some k_ ≠ (.slice Ao23 t168.length co23 : Value).ownBlock)) (by (with_reducible repeat (first | apply Kd.R_alloc | apply Kd.R_drewN | apply Kd.R_drew)); exact Kd.R_mono (Kd.R_far (p := ⟨gb163, 2, none⟩) (Kd.R_far (p := ⟨gb163, 1, none⟩) (Kd.R_far (p := ⟨gb163, 0, none⟩) (Kd.R_far (p := ⟨gb172, 2, none⟩) (Kd.R_far (p := ⟨gb172, 1, none⟩) (Kd.R_far (p := ⟨gb172, 0, none⟩) (Kd.R_types (Kd.R_types HO_164002.out BK172.out (by decide)) BK163.out (by decide)) (fun _ hk => hk.1.2) (.int .i64 t166)) (fun _ hk => hk.1.2) (.int .u64 t167)) (fun _ hk => hk.1.2) (.slice Ao23 t168.length co23)) (fun _ hk => hk.2) (.int .i64 t166)) (fun _ hk => hk.2) (.int .u64 t167)) (fun _ hk => hk.2) (.slice Ao23 t168.length co23)) (fun _ hk => ⟨hk.1.1.1, hk.1.1.2⟩)) hg hat); have n1_ := Aside0.mk (blk_grown (g := gb162) (o := .cells #[.int .i64 0, .int .u64 0, .slice none 0 0] 30 (0, 0)) (by (with_reducible repeat (first | refine blk_drewN ?_ _ | refine blk_drew ?_ | refine blk_alloc ?_ _)); refine blk_far ?_ NB162_163.out _; (with_reducible repeat (first | refine blk_drewN ?_ _ | refine blk_drew ?_ | refine blk_alloc ?_ _)); refine blk_far ?_ NB162_163.out _; (with_reducible repeat (first | refine blk_drewN ?_ _ | refine blk_drew ?_ | refine blk_alloc ?_ _)); refine blk_far ?_ NB162_163.out _; (with_reducible repeat (first | refine blk_drewN ?_ _ | refine blk_drew ?_ | refine blk_alloc ?_ _)); refine blk_far ?_ NB162_172.out _; (with_reducible repeat (first | refine blk_drewN ?_ _ | refine blk_drew ?_ | refine blk_alloc ?_ _)); refine blk_far ?_ NB162_172.out _; (with_reducible repeat (first | refine blk_drewN ?_ _ | refine blk_drew ?_ | refine blk_alloc ?_ _)); refine blk_far ?_ NB162_172.out _; (with_reducible repeat (first | refine blk_drewN ?_ _ | refine blk_drew ?_ | refine blk_alloc ?_ _)); exact BK162.out) hg (Kd.R_ne HO_7.out BK162.out (by decide))); have n2_ := Aside0.mk (blk_grown (g := gb163) (o := .cells #[.int .i64 t166, .int .u64 t167, .slice Ao23 t168.length co23] 30 (0, 0)) (by (with_reducible repeat (first | refine blk_drewN ?_ _ | refine blk_drew ?_ | refine blk_alloc ?_ _)); refine blk_put (cs := #[.int .i64 t166, .int .u64 t167, .slice Ao16 x164002_1.length co16]) ?_ 2 _ rfl; (with_reducible repeat (first | refine blk_drewN ?_ _ | refine blk_drew ?_ | refine blk_alloc ?_ _)); refine blk_put (cs := #[.int .i64 t166, .int .u64 x164001_1, .slice Ao16 x164002_1.length co16]) ?_ 1 _ rfl; (with_reducible repeat (first | refine blk_drewN ?_ _ | refine blk_drew ?_ | refine blk_alloc ?_ _)); refine blk_put (cs := #[.int .i64 x164000_1, .int .u64 x164001_1, .slice Ao16 x164002_1.length co16]) ?_ 0 _ rfl; (with_reducible repeat (first | refine blk_drewN ?_ _ | refine blk_drew ?_ | refine blk_alloc ?_ _)); refine blk_far ?_ NB163_172.out _; (with_reducible repeat (first | refine blk_drewN ?_ _ | refine blk_drew ?_ | refine blk_alloc ?_ _)); refine blk_far ?_ NB163_172.out _; (with_reducible repeat (first | refine blk_drewN ?_ _ | refine blk_drew ?_ | refine blk_alloc ?_ _)); refine blk_far ?_ NB163_172.out _; (with_reducible repeat (first | refine blk_drewN ?_ _ | refine blk_drew ?_ | refine blk_alloc ?_ _)); exact BK163.out) hg (Kd.R_ne HO_7.out BK163.out (by decide))); have n3_ := Aside0.mk (Kd.R_after (ok := (fun k_ => some k_ ≠ (.slice Ao16 x164002_1.length co16 : Value).ownBlock)) (by (with_reducible repeat (first | apply Kd.R_alloc | apply Kd.R_drewN | apply Kd.R_drew)); exact Kd.R_mono (Kd.R_far (p := ⟨gb163, 2, none⟩) (Kd.R_far (p := ⟨gb163, 1, none⟩) (Kd.R_far (p := ⟨gb163, 0, none⟩) (Kd.R_far (p := ⟨gb172, 2, none⟩) (Kd.R_far (p := ⟨gb172, 1, none⟩) (Kd.R_far (p := ⟨gb172, 0, none⟩) (Kd.R_types (Kd.R_types HO170.out BK172.out (by decide)) BK163.out (by decide)) (fun _ hk => hk.1.2) (.int .i64 t166)) (fun _ hk => hk.1.2) (.int .u64 t167)) (fun _ hk => hk.1.2) (.slice Ao23 t168.length co23)) (fun _ hk => hk.2) (.int .i64 t166)) (fun _ hk => hk.2) (.int .u64 t167)) (fun _ hk => hk.2) (.slice Ao23 t168.length co23)) (fun _ hk => ⟨hk.1.1.1, hk.1.1.2⟩)) hg hat); have n4_ := Aside0.mk (blk_grown (g := gb172) (o := .cells #[.int .i64 t166, .int .u64 t167, .slice Ao23 t168.length co23] 30 (0, 0)) (by (with_reducible repeat (first | refine blk_drewN ?_ _ | refine blk_drew ?_ | refine blk_alloc ?_ _)); refine blk_far ?_ NB172_163.out _; (with_reducible repeat (first | refine blk_drewN ?_ _ | refine blk_drew ?_ | refine blk_alloc ?_ _)); refine blk_far ?_ NB172_163.out _; (with_reducible repeat (first | refine blk_drewN ?_ _ | refine blk_drew ?_ | refine blk_alloc ?_ _)); refine blk_far ?_ NB172_163.out _; (with_reducible repeat (first | refine blk_drewN ?_ _ | refine blk_drew ?_ | refine blk_alloc ?_ _)); refine blk_put (cs := #[.int .i64 t166, .int .u64 t167, .slice none 0 0]) ?_ 2 _ rfl; (with_reducible repeat (first | refine blk_drewN ?_ _ | refine blk_drew ?_ | refine blk_alloc ?_ _)); refine blk_put (cs := #[.int .i64 t166, .int .u64 0, .slice none 0 0]) ?_ 1 _ rfl; (with_reducible repeat (first | refine blk_drewN ?_ _ | refine blk_drew ?_ | refine blk_alloc ?_ _)); refine blk_put (cs := #[.int .i64 0, .int .u64 0, .slice none 0 0]) ?_ 0 _ rfl; (with_reducible repeat (first | refine blk_drewN ?_ _ | refine blk_drew ?_ | refine blk_alloc ?_ _)); exact BK172.out) hg (Kd.R_ne HO_7.out BK172.out (by decide))); have n5_ := Aside0.mk (hb); have n6_ := Aside0.mk (ho); clear HO_164002; clear BK162; clear BK163; clear HO170; clear BK172; clear HB; clear HO_7; have HO_164002 := n0_; have BK162 := n1_; have BK163 := n2_; have HO170 := n3_; have BK172 := n4_; have HB := n5_; have HO176 := n6_; clear n0_ n1_ n2_ n3_ n4_ n5_ n6_; clear ho hb hg hat))
                    go_roundg kj7
                    case measure => have := HK1.out; have := HJ7.out; omega
                    case rel => exact ⟨(y174), (wrap64 (x8_1 + 1)), (t166), (t167), (t168), (.slice Ao23 t168.length co23), (by first | rfl | (simp; done) | (simp [*]; done)), H', ⟨by have := HK1.out; have := HJ7.out; omega⟩, ⟨by (with_reducible repeat (first | apply Kd.R_alloc | apply Kd.R_drewN | apply Kd.R_drew)); exact Kd.R_mono HO176.out (fun _ hk => hk.2)⟩, ⟨by (with_reducible repeat (first | apply Kd.R_alloc | apply Kd.R_drewN | apply Kd.R_drew)); exact Kd.R_mono HO170.out (fun _ hk => hk.2)⟩, ⟨by (with_reducible repeat (first | refine blk_drewN ?_ _ | refine blk_drew ?_ | refine blk_alloc ?_ _)); exact BK162.out⟩, ⟨by (with_reducible repeat (first | refine blk_drewN ?_ _ | refine blk_drew ?_ | refine blk_alloc ?_ _)); exact BK163.out⟩, ⟨by repeat (first | (with_reducible first | exact HB.out | apply below_alloc | apply pw_below_drewN | apply below_drew1 | refine below_set ?_ GE162.out | refine below_set ?_ GE163.out | refine below_set ?_ GE172.out) | exact HB.out)⟩⟩
                  · rw [if_neg c15] at H
                    exact absurd H (by simp)
                · rw [if_neg c14] at H
                  have c14b0 : (t171 == 0) = false := beq_eq_false_iff_ne.mpr c14
                  have c14b1 : (t171 != 0) = true := bne_iff_ne.mpr c14
                  have H' := Aside0.mk H
                  clear H
                  obtain ⟨Ao31, co31, eo31⟩ := Kd.R_slice HO_164002.out
                  subst eo31
                  try go_wp2
                  have n0_ := Aside0.mk (Kd.R_drew HO_7.out)
                  have n1_ := Aside0.mk (Kd.R_drew HO_164002.out)
                  have n2_ := Aside0.mk (blk_drew BK162.out)
                  have n3_ := Aside0.mk (blk_drew BK163.out)
                  have n4_ := Aside0.mk (below_drew1 HB.out)
                  clear HO_7
                  clear HO_164002
                  clear BK162
                  clear BK163
                  clear HB
                  have HO_7 := n0_
                  have HO_164002 := n1_
                  have BK162 := n2_
                  have BK163 := n3_
                  have HB := n4_
                  clear n0_ n1_ n2_ n3_ n4_
                  have p164 : 0 ≤ (x8_1 : Int) := of_decide_eq_true (by first | (with_reducible assumption) | assumption)
                  have q164 : x8_1 < (l1.length : Int) := of_decide_eq_true (by first | (with_reducible assumption) | assumption)
                  obtain ⟨ad164, e164, hx164_0, hx164_1⟩ := at_T51 HR1.out x8_1 p164 q164
                  have hw164_1 := hx164_1
                  have hw164_0 := hx164_0
                  cases e164
                  replace hx164_0 := (HB.out.cell (World.block_lt_of_cell? w _ hx164_0)).trans hx164_0
                  replace hx164_1 := (HB.out.cell (World.block_lt_of_cell? w _ hx164_1)).trans hx164_1
                  replace p164 := eq_true p164
                  replace q164 := eq_true q164
                  have p165 : 0 ≤ (x8_1 : Int) := of_decide_eq_true (by first | (with_reducible assumption) | assumption)
                  have q165 : x8_1 < (l1.length : Int) := of_decide_eq_true (by first | (with_reducible assumption) | assumption)
                  obtain ⟨ad165, e165, hx165_0, hx165_1⟩ := at_T51 HR1.out x8_1 p165 q165
                  have hw165_1 := hx165_1
                  have hw165_0 := hx165_0
                  obtain rfl : ad164 = ad165 := (by injection e165)
                  replace hx165_0 := (HB.out.cell (World.block_lt_of_cell? w _ hx165_0)).trans hx165_0
                  replace hx165_1 := (HB.out.cell (World.block_lt_of_cell? w _ hx165_1)).trans hx165_1
                  replace p165 := eq_true p165
                  replace q165 := eq_true q165
                  refine start_ (n := 18) (S := fun w' => w'.cell? ⟨gb163, 0, none⟩ = some (.int .i64 x164000_1) ∧ w'.cell? ⟨gb163, 1, none⟩ = some (.int .u64 x164001_1) ∧ w'.cell? ⟨gb163, 2, none⟩ = some (.slice Ao31 x164002_1.length co31) ∧ w'.cell? (ad164.add ((x8_1).toNat * 2)) = some (.int .u64 ((rd_T51 l1 x8_1).f0)) ∧ w'.cell? ⟨(ad164.add ((x8_1).toNat * 2)).block, (ad164.add ((x8_1).toNat * 2)).off + 1, none⟩ = some (.int .u64 ((rd_T51 l1 x8_1).f1)) ∧ w'.cell? (ad164.add ((x8_1).toNat * 2)) = some (.int .u64 ((rd_T51 l1 x8_1).f0)) ∧ w'.cell? ⟨(ad164.add ((x8_1).toNat * 2)).block, (ad164.add ((x8_1).toNat * 2)).off + 1, none⟩ = some (.int .u64 ((rd_T51 l1 x8_1).f1))) (ds := []) #[false, false, false, false, false, false, false, false, false, false, false, false, false, false, false, false, false, false] (by kernel_rfl) rfl rfl ⟨(blk_cell BK163.out 0).trans rfl, (blk_cell BK163.out 1).trans rfl, (blk_cell BK163.out 2).trans rfl, ((HB.out.cell (World.block_lt_of_cell? w _ hw164_0)).trans hw164_0), ((HB.out.cell (World.block_lt_of_cell? w _ hw164_1)).trans hw164_1), ((HB.out.cell (World.block_lt_of_cell? w _ hw165_0)).trans hw165_0), ((HB.out.cell (World.block_lt_of_cell? w _ hw165_1)).trans hw165_1)⟩ (fun hHeld => ?_); refine with_tabW skylightref17_Made.tab6 skylightref17_Made.bits6 (fun HT_ HW_ => ?_)
                  generalize wc.drew = w32 at HO_7 HO_164002 BK162 BK163 HB hx164_0 hx164_1 hx165_0 hx165_1 hHeld ⊢
                  refine pure_ (i := 1) (N := some 28) (v := ?_) (a' := ?_) #[false, true, false, false, false, false, false, false, false, false, false, false, false, false, false, false, false, false] rfl rfl (any_of HT_.out (by kernel_rfl)) (fun _ _ _ h => h) (Or.inl ⟨by rfl, ?_⟩) ?_ ?_
                  rotate_left
                  · intro w'
                    go_simp
                    with_reducible rfl
                  rotate_left
                  · simp only [Act.put, List.setIfInBounds_toArray, List.set_cons_zero, List.set_cons_succ, i64_w, i32_w]
                    rfl
                  refine pure_ (i := 2) (N := some 29) (v := ?_) (a' := ?_) #[false, true, true, false, false, false, false, false, false, false, false, false, false, false, false, false, false, false] rfl rfl (any_of HT_.out (by kernel_rfl)) (fun _ _ _ h => h) (Or.inl ⟨by rfl, ?_⟩) ?_ ?_
                  rotate_left
                  · intro w'
                    go_simp
                    with_reducible rfl
                  rotate_left
                  · simp only [Act.put, List.setIfInBounds_toArray, List.set_cons_zero, List.set_cons_succ, i64_w, i32_w]
                    rfl
                  refine pure_ (i := 3) (N := some 30) (v := ?_) (a' := ?_) #[false, true, true, true, false, false, false, false, false, false, false, false, false, false, false, false, false, false] rfl rfl (any_of HT_.out (by kernel_rfl)) (fun _ _ _ h => h) (Or.inl ⟨by rfl, ?_⟩) ?_ ?_
                  rotate_left
                  · intro w'
                    go_simp
                    with_reducible rfl
                  rotate_left
                  · simp only [Act.put, List.setIfInBounds_toArray, List.set_cons_zero, List.set_cons_succ, i64_w, i32_w]
                    rfl
                  refine pure_ (i := 4) (N := some 31) (v := ?_) (a' := ?_) #[false, true, true, true, true, false, false, false, false, false, false, false, false, false, false, false, false, false] rfl rfl (any_of HT_.out (by kernel_rfl)) (fun _ _ _ h => h) (Or.inl ⟨by rfl, ?_⟩) ?_ ?_
                  rotate_left
                  · intro w'
                    go_simp
                    with_reducible rfl
                  rotate_left
                  · simp only [Act.put, List.setIfInBounds_toArray, List.set_cons_zero, List.set_cons_succ, i64_w, i32_w]
                    rfl
                  refine pure_ (i := 6) (N := some 33) (v := ?_) (a' := ?_) #[false, true, true, true, true, false, true, false, false, false, false, false, false, false, false, false, false, false] rfl rfl (any_of HT_.out (by kernel_rfl)) (fun _ _ _ h => h) (Or.inl ⟨by rfl, ?_⟩) ?_ ?_
                  rotate_left
                  · intro w'
                    go_simp
                    with_reducible rfl
                  rotate_left
                  · simp only [Act.put, List.setIfInBounds_toArray, List.set_cons_zero, List.set_cons_succ, i64_w, i32_w]
                    rfl
                  refine pure_ (i := 7) (N := some 34) (v := ?_) (a' := ?_) #[false, true, true, true, true, false, true, true, false, false, false, false, false, false, false, false, false, false] rfl rfl (any_of HT_.out (by kernel_rfl)) (fun _ _ _ h => h) (Or.inl ⟨by rfl, ?_⟩) ?_ ?_
                  rotate_left
                  · intro w'
                    go_simp
                    with_reducible rfl
                  rotate_left
                  · simp only [Act.put, List.setIfInBounds_toArray, List.set_cons_zero, List.set_cons_succ, i64_w, i32_w]
                    rfl
                  refine pure_ (i := 8) (N := some 35) (v := ?_) (a' := ?_) #[false, true, true, true, true, false, true, true, true, false, false, false, false, false, false, false, false, false] rfl rfl (any_of HT_.out (by kernel_rfl)) (fun _ _ _ h => h) (Or.inl ⟨by rfl, ?_⟩) ?_ ?_
                  rotate_left
                  · intro w'
                    go_simp
                    with_reducible rfl
                  rotate_left
                  · simp only [Act.put, List.setIfInBounds_toArray, List.set_cons_zero, List.set_cons_succ, i64_w, i32_w]
                    rfl
                  refine pure_ (i := 9) (N := some 36) (v := ?_) (a' := ?_) #[false, true, true, true, true, false, true, true, true, true, false, false, false, false, false, false, false, false] rfl rfl (any_of HT_.out (by kernel_rfl)) (fun _ _ _ h => h) (Or.inl ⟨by rfl, ?_⟩) ?_ ?_
                  rotate_left
                  · intro w'
                    go_simp
                    with_reducible rfl
                  rotate_left
                  · simp only [Act.put, List.setIfInBounds_toArray, List.set_cons_zero, List.set_cons_succ, i64_w, i32_w]
                    rfl
                  refine take_ (i := 0) (N := some 27) (v := ?_) (a' := ?_) #[true, true, true, true, true, false, true, true, true, true, false, false, false, false, false, false, false, false] rfl rfl (take_ofW HT_.out HW_.out (by kernel_rfl)) (fun _ _ _ h => h) (Or.inl ⟨by rfl, ?_⟩) hHeld ?_ ?_
                  rotate_left
                  · rintro w' ⟨s0, s1, s2, s3, s4, s5, s6⟩
                    go_simp
                    with_reducible rfl
                  rotate_left
                  · simp only [Act.put, List.setIfInBounds_toArray, List.set_cons_zero, List.set_cons_succ, i64_w, i32_w]
                    rfl
                  refine take_ (i := 5) (N := some 32) (v := ?_) (a' := ?_) #[true, true, true, true, true, true, true, true, true, true, false, false, false, false, false, false, false, false] rfl rfl (take_ofW HT_.out HW_.out (by kernel_rfl)) (fun _ _ _ h => h) (Or.inl ⟨by rfl, ?_⟩) hHeld ?_ ?_
                  rotate_left
                  · rintro w' ⟨s0, s1, s2, s3, s4, s5, s6⟩
                    go_simp
                    with_reducible rfl
                  rotate_left
                  · simp only [Act.put, List.setIfInBounds_toArray, List.set_cons_zero, List.set_cons_succ, i64_w, i32_w]
                    rfl
                  refine take_ (i := 10) (N := some 37) (v := ?_) (a' := ?_) #[true, true, true, true, true, true, true, true, true, true, true, false, false, false, false, false, false, false] rfl rfl (take_ofW HT_.out HW_.out (by kernel_rfl)) (fun _ _ _ h => h) (Or.inl ⟨by rfl, ?_⟩) hHeld ?_ ?_
                  rotate_left
                  · rintro w' ⟨s0, s1, s2, s3, s4, s5, s6⟩
                    go_simp
                    with_reducible rfl
                  rotate_left
                  · simp only [Act.put, List.setIfInBounds_toArray, List.set_cons_zero, List.set_cons_succ, i64_w, i32_w]
                    rfl
                  refine join_ (σ := Value × Nat) 2 #[true, true, true, true, true, true, true, true, true, true, true, true, true, true, true, true, false, false] (fun s_ => [(38, .tuple #[.agg #[.int .i64 t166, .int .u64 t167, s_.1], .int .i64 t171]), (9, .pointer (some ⟨s_.2, 0, none⟩)), (26, .tuple #[.agg #[.int .i64 t166, .int .u64 t167, s_.1], .int .i64 t171]), (39, .agg #[.int .i64 t166, .int .u64 t167, s_.1]), (40, .int .i64 t171)]) (fun s_ w' => (w'.cell? ⟨gb163, 0, none⟩ = some (.int .i64 x164000_1) ∧ w'.cell? ⟨gb163, 1, none⟩ = some (.int .u64 x164001_1) ∧ w'.cell? ⟨gb163, 2, none⟩ = some (.slice Ao31 x164002_1.length co31) ∧ w'.cell? (ad164.add ((x8_1).toNat * 2)) = some (.int .u64 ((rd_T51 l1 x8_1).f0)) ∧ w'.cell? ⟨(ad164.add ((x8_1).toNat * 2)).block, (ad164.add ((x8_1).toNat * 2)).off + 1, none⟩ = some (.int .u64 ((rd_T51 l1 x8_1).f1)) ∧ w'.cell? (ad164.add ((x8_1).toNat * 2)) = some (.int .u64 ((rd_T51 l1 x8_1).f0)) ∧ w'.cell? ⟨(ad164.add ((x8_1).toNat * 2)).block, (ad164.add ((x8_1).toNat * 2)).off + 1, none⟩ = some (.int .u64 ((rd_T51 l1 x8_1).f1))) ∧ (Kd.R k51 51 w' w.heap.size (fun k_ => some k_ ≠ (.slice Ao31 x164002_1.length co31 : Value).ownBlock ∧ some k_ ≠ (u7 : Value).ownBlock) s_.1 t168) ∧ (Kd.R k51 51 w' w.heap.size (fun k_ => some k_ ≠ (s_.1 : Value).ownBlock ∧ some k_ ≠ (u7 : Value).ownBlock) (.slice Ao31 x164002_1.length co31) x164002_1) ∧ (Kd.R k51 51 w' w.heap.size (fun k_ => some k_ ≠ (s_.1 : Value).ownBlock ∧ some k_ ≠ (.slice Ao31 x164002_1.length co31 : Value).ownBlock) u7 x7_1) ∧ (w'.heap[gb162]? = some (.cells #[.int .i64 0, .int .u64 0, .slice none 0 0] 30 (0, 0))) ∧ (w'.heap[gb163]? = some (.cells #[.int .i64 x164000_1, .int .u64 x164001_1, .slice Ao31 x164002_1.length co31] 30 (0, 0))) ∧ (w'.heap[s_.2]? = some (.cells #[.int .i64 0, .int .u64 0, .slice none 0 0] 30 (0, 0))) ∧ (w.heap.size ≤ s_.2) ∧ (w.heap.size ≤ s_.2) ∧ (gb162 ≠ s_.2) ∧ (s_.2 ≠ gb162) ∧ (gb163 ≠ s_.2) ∧ (s_.2 ≠ gb163) ∧ (Below w.heap.size w w')) ?_ ?_
                  rotate_left
                  · intro hCont
                    refine two_ (i := 11) (j := 15) (Ni := some 38) (Nj := some 9) #[true, true, true, true, true, true, true, true, true, true, true, true, false, false, false, false, false, false] #[true, true, true, true, true, true, true, true, true, true, true, false, false, false, false, true, false, false] rfl rfl rfl rfl (two_of HT_.out (by kernel_rfl)) (by decide) (by decide) (fun K hK => ?_) (fun K hK => ?_)
                    · skip
                      refine goes_ Try.func29 (by kernel_rfl) rfl #[.agg #[.int .i64 x164000_1, .int .u64 x164001_1, .slice Ao31 x164002_1.length co31], .int .u64 ((rd_T51 l1 x8_1).f0), .int .u64 ((rd_T51 l1 x8_1).f1)] (by rfl) rfl rfl (by (try simp only [List.map_toArray, List.map_cons, List.map_nil]); first | done | rfl | (simp only [List.length_drop, List.length_take]; rfl)) ?_
                      with_reducible refine (skylightref17_Add.calls kj7 x164000_1 x164001_1 _ _ x164002_1 ((rd_T51 l1 x8_1).f0) ((rd_T51 l1 x8_1).f1) t166 t167 t168 t171 _ ?side1 ?side2 A13.out).mono ?_
                      (case side1 => repeat (first | exact (Kd.R_reads' HO_164002.out).2.2 | (with_reducible refine Kd.C_alloc ?_ _) | (with_reducible refine Kd.C_drewN ?_ _) | (with_reducible refine Kd.C_drew ?_)))
                      (case side2 => exact (Kd.R_reads' HO_164002.out).2.1)
                      rintro e w33 ⟨v169, rfl, ho0, hb⟩
                      refine ⟨_, rfl, ?_⟩
                      have n0_ := Aside0.mk (Kd.R_elder' (by (with_reducible repeat (first | apply Kd.R_alloc | apply Kd.R_drewN | apply Kd.R_drew)); exact HO_7.out) (Kd.R_base ho0) hb)
                      have n1_ := Aside0.mk (Kd.R_elder' (by (with_reducible repeat (first | apply Kd.R_alloc | apply Kd.R_drewN | apply Kd.R_drew)); exact HO_164002.out) (Kd.R_base ho0) hb)
                      have n2_ := Aside0.mk (Kd.R_lower (Kd.R_new' (Kd.R_new' ho0 (Kd.R_lt (by (with_reducible repeat (first | apply Kd.R_alloc | apply Kd.R_drewN | apply Kd.R_drew)); exact HO_7.out))) (Kd.R_lt (by (with_reducible repeat (first | apply Kd.R_alloc | apply Kd.R_drewN | apply Kd.R_drew)); exact HO_164002.out))) (below_size (by repeat (first | (with_reducible first | exact HB.out | apply below_alloc | apply pw_below_drewN | apply below_drew1 | refine below_set ?_ GE162.out | refine below_set ?_ GE163.out) | exact HB.out))))
                      have n3_ := Aside0.mk (blk_below (g := gb162) (o := .cells #[.int .i64 0, .int .u64 0, .slice none 0 0] 30 (0, 0)) (by (with_reducible repeat (first | refine blk_drewN ?_ _ | refine blk_drew ?_ | refine blk_alloc ?_ _)); exact BK162.out) hb)
                      have n4_ := Aside0.mk (blk_below (g := gb163) (o := .cells #[.int .i64 x164000_1, .int .u64 x164001_1, .slice Ao31 x164002_1.length co31] 30 (0, 0)) (by (with_reducible repeat (first | refine blk_drewN ?_ _ | refine blk_drew ?_ | refine blk_alloc ?_ _)); exact BK163.out) hb)
                      have n5_ := Aside0.mk (below_step (by repeat (first | (with_reducible first | exact HB.out | apply below_alloc | apply pw_below_drewN | apply below_drew1 | refine below_set ?_ GE162.out | refine below_set ?_ GE163.out) | exact HB.out)) hb)
                      clear HO_7
                      clear HO_164002
                      clear BK162
                      clear BK163
                      clear HB
                      have HO_7 := n0_
                      have HO_164002 := n1_
                      have HO170 := n2_
                      have BK162 := n3_
                      have BK163 := n4_
                      have HB := n5_
                      clear n0_ n1_ n2_ n3_ n4_ n5_
                      (try clear hb)
                      (try clear hb2)
                      (try clear hk)
                      (try clear hi)
                      (try clear ho0)
                      refine hK.out _ _ ⟨(blk_cell BK163.out 0).trans rfl, (blk_cell BK163.out 1).trans rfl, (blk_cell BK163.out 2).trans rfl, ((HB.out.cell (World.block_lt_of_cell? w _ hw164_0)).trans hw164_0), ((HB.out.cell (World.block_lt_of_cell? w _ hw164_1)).trans hw164_1), ((HB.out.cell (World.block_lt_of_cell? w _ hw165_0)).trans hw165_0), ((HB.out.cell (World.block_lt_of_cell? w _ hw165_1)).trans hw165_1)⟩ (fun hHeld => ?_)
                      clear hK K
                      refine norm_ (a' := ?_) ?_ ?_
                      rotate_left
                      · show Act.put _ (some 38) _ = _
                        simp only [Act.put, List.setIfInBounds_toArray, List.set_cons_zero, List.set_cons_succ, i64_w, i32_w]
                        rfl
                      refine pure_ (i := 12) (N := some 26) (v := ?_) (a' := ?_) #[true, true, true, true, true, true, true, true, true, true, true, true, true, false, false, false, false, false] rfl rfl (any_of HT_.out (by kernel_rfl)) (fun _ _ _ h => h) (Or.inl ⟨by rfl, ?_⟩) ?_ ?_
                      rotate_left
                      · intro w'
                        go_simp
                        with_reducible rfl
                      rotate_left
                      · simp only [Act.put, List.setIfInBounds_toArray, List.set_cons_zero, List.set_cons_succ, i64_w, i32_w]
                        rfl
                      refine pure_ (i := 13) (N := some 39) (v := ?_) (a' := ?_) #[true, true, true, true, true, true, true, true, true, true, true, true, true, true, false, false, false, false] rfl rfl (any_of HT_.out (by kernel_rfl)) (fun _ _ _ h => h) (Or.inl ⟨by rfl, ?_⟩) ?_ ?_
                      rotate_left
                      · intro w'
                        go_simp
                        with_reducible rfl
                      rotate_left
                      · simp only [Act.put, List.setIfInBounds_toArray, List.set_cons_zero, List.set_cons_succ, i64_w, i32_w]
                        rfl
                      refine pure_ (i := 14) (N := some 40) (v := ?_) (a' := ?_) #[true, true, true, true, true, true, true, true, true, true, true, true, true, true, true, false, false, false] rfl rfl (any_of HT_.out (by kernel_rfl)) (fun _ _ _ h => h) (Or.inl ⟨by rfl, ?_⟩) ?_ ?_
                      rotate_left
                      · intro w'
                        go_simp
                        with_reducible rfl
                      rotate_left
                      · simp only [Act.put, List.setIfInBounds_toArray, List.set_cons_zero, List.set_cons_succ, i64_w, i32_w]
                        rfl
                      refine one_ (i := 15) (N := some 9) #[true, true, true, true, true, true, true, true, true, true, true, true, true, true, true, true, false, false] rfl rfl (one_of HT_.out (by kernel_rfl)) (by decide) (fun K hK => ?_)
                      refine box_step ?hg (N := 9) ?hd (cs := #[.int .i64 0, .int .u64 0, .slice none 0 0]) (t := 30) ?hr ?_; (case hd => rfl); (case hg => rfl); (case hr => first | (go_simp; done) | (go_simp; rfl))
                      intro gb172 hg w34 hbox hb
                      have n0_ := Aside0.mk (Kd.R_below (by (with_reducible repeat (first | apply Kd.R_alloc | apply Kd.R_drewN | apply Kd.R_drew)); exact HO_7.out) hb)
                      have n1_ := Aside0.mk (Kd.R_below (by (with_reducible repeat (first | apply Kd.R_alloc | apply Kd.R_drewN | apply Kd.R_drew)); exact HO_164002.out) hb)
                      have n2_ := Aside0.mk (Kd.R_below (by (with_reducible repeat (first | apply Kd.R_alloc | apply Kd.R_drewN | apply Kd.R_drew)); exact HO170.out) hb)
                      have n3_ := Aside0.mk (blk_below (g := gb162) (o := .cells #[.int .i64 0, .int .u64 0, .slice none 0 0] 30 (0, 0)) (by (with_reducible repeat (first | refine blk_drewN ?_ _ | refine blk_drew ?_ | refine blk_alloc ?_ _)); exact BK162.out) hb)
                      have n4_ := Aside0.mk (blk_below (g := gb163) (o := .cells #[.int .i64 x164000_1, .int .u64 x164001_1, .slice Ao31 x164002_1.length co31] 30 (0, 0)) (by (with_reducible repeat (first | refine blk_drewN ?_ _ | refine blk_drew ?_ | refine blk_alloc ?_ _)); exact BK163.out) hb)
                      have n5_ := Aside0.mk (below_step (by repeat (first | (with_reducible first | exact HB.out | apply below_alloc | apply pw_below_drewN | apply below_drew1 | refine below_set ?_ GE162.out | refine below_set ?_ GE163.out) | exact HB.out)) hb)
                      have n6_ := Aside0.mk (hbox)
                      have n7_ := Aside0.mk ((by rw [hg]; exact (below_size (by repeat (first | (with_reducible first | exact HB.out | apply below_alloc | apply pw_below_drewN | apply below_drew1 | refine below_set ?_ GE162.out | refine below_set ?_ GE163.out) | exact HB.out))) : w.heap.size ≤ gb172))
                      have n8_ := Aside0.mk ((by rw [hg]; exact (below_size (by repeat (first | (with_reducible first | exact HB.out | apply below_alloc | apply pw_below_drewN | apply below_drew1 | refine below_set ?_ GE162.out | refine below_set ?_ GE163.out) | exact HB.out))) : w.heap.size ≤ gb172))
                      have n9_ := Aside0.mk ((by rw [hg]; exact Nat.ne_of_lt (blk_lt (g := gb162) (o := .cells #[.int .i64 0, .int .u64 0, .slice none 0 0] 30 (0, 0)) (by (with_reducible repeat (first | refine blk_drewN ?_ _ | refine blk_drew ?_ | refine blk_alloc ?_ _)); exact BK162.out)) : gb162 ≠ gb172))
                      have n10_ := Aside0.mk ((by rw [hg]; exact Nat.ne_of_gt (blk_lt (g := gb162) (o := .cells #[.int .i64 0, .int .u64 0, .slice none 0 0] 30 (0, 0)) (by (with_reducible repeat (first | refine blk_drewN ?_ _ | refine blk_drew ?_ | refine blk_alloc ?_ _)); exact BK162.out)) : gb172 ≠ gb162))
                      have n11_ := Aside0.mk ((by rw [hg]; exact Nat.ne_of_lt (blk_lt (g := gb163) (o := .cells #[.int .i64 x164000_1, .int .u64 x164001_1, .slice Ao31 x164002_1.length co31] 30 (0, 0)) (by (with_reducible repeat (first | refine blk_drewN ?_ _ | refine blk_drew ?_ | refine blk_alloc ?_ _)); exact BK163.out)) : gb163 ≠ gb172))
                      have n12_ := Aside0.mk ((by rw [hg]; exact Nat.ne_of_gt (blk_lt (g := gb163) (o := .cells #[.int .i64 x164000_1, .int .u64 x164001_1, .slice Ao31 x164002_1.length co31] 30 (0, 0)) (by (with_reducible repeat (first | refine blk_drewN ?_ _ | refine blk_drew ?_ | refine blk_alloc ?_ _)); exact BK163.out)) : gb172 ≠ gb163))
                      clear HO_7
                      clear HO_164002
                      clear HO170
                      clear BK162
                      clear BK163
                      clear HB
                      have HO_7 := n0_
                      have HO_164002 := n1_
                      have HO170 := n2_
                      have BK162 := n3_
                      have BK163 := n4_
                      have HB := n5_
                      have BK172 := n6_
                      have GW172 := n7_
                      have GE172 := n8_
                      have NB162_172 := n9_
                      have NB172_162 := n10_
                      have NB163_172 := n11_
                      have NB172_163 := n12_
                      clear n0_ n1_ n2_ n3_ n4_ n5_ n6_ n7_ n8_ n9_ n10_ n11_ n12_
                      clear hb hbox hg
                      refine hK.out _ _ ⟨(blk_cell BK163.out 0).trans rfl, (blk_cell BK163.out 1).trans rfl, (blk_cell BK163.out 2).trans rfl, ((HB.out.cell (World.block_lt_of_cell? w _ hw164_0)).trans hw164_0), ((HB.out.cell (World.block_lt_of_cell? w _ hw164_1)).trans hw164_1), ((HB.out.cell (World.block_lt_of_cell? w _ hw165_0)).trans hw165_0), ((HB.out.cell (World.block_lt_of_cell? w _ hw165_1)).trans hw165_1)⟩ (fun hHeld => ?_)
                      clear hK K
                      refine norm_ (a' := ?_) ?_ ?_
                      rotate_left
                      · show Act.put _ (some 9) _ = _
                        simp only [Act.put, List.setIfInBounds_toArray, List.set_cons_zero, List.set_cons_succ, i64_w, i32_w]
                        rfl
                      exact norm_ (by simp only [putAll, Act.put, List.setIfInBounds_toArray, List.set_cons_zero, List.set_cons_succ]) (hCont (v169, gb172) _ ⟨hHeld, (by (with_reducible repeat (first | apply Kd.R_alloc | apply Kd.R_drewN | apply Kd.R_drew)); exact Kd.R_mono HO170.out (fun _ hk => ⟨hk.2, hk.1.2⟩)), (by (with_reducible repeat (first | apply Kd.R_alloc | apply Kd.R_drewN | apply Kd.R_drew)); exact Kd.R_mono HO_164002.out (fun _ hk => ⟨hk.2, hk.1⟩)), (by (with_reducible repeat (first | apply Kd.R_alloc | apply Kd.R_drewN | apply Kd.R_drew)); exact Kd.R_mono HO_7.out (fun _ hk => ⟨hk.2, hk.1⟩)), (by (with_reducible repeat (first | refine blk_drewN ?_ _ | refine blk_drew ?_ | refine blk_alloc ?_ _)); exact BK162.out), (by (with_reducible repeat (first | refine blk_drewN ?_ _ | refine blk_drew ?_ | refine blk_alloc ?_ _)); exact BK163.out), (by (with_reducible repeat (first | refine blk_drewN ?_ _ | refine blk_drew ?_ | refine blk_alloc ?_ _)); exact BK172.out), GW172.out, GE172.out, NB162_172.out, NB172_162.out, NB163_172.out, NB172_163.out, (by repeat (first | (with_reducible first | exact HB.out | apply below_alloc | apply pw_below_drewN | apply below_drew1 | refine below_set ?_ GE162.out | refine below_set ?_ GE163.out | refine below_set ?_ GE172.out) | exact HB.out))⟩)
                    · skip
                      refine box_step ?hg (N := 9) ?hd (cs := #[.int .i64 0, .int .u64 0, .slice none 0 0]) (t := 30) ?hr ?_; (case hd => rfl); (case hg => rfl); (case hr => first | (go_simp; done) | (go_simp; rfl))
                      intro gb172 hg w33 hbox hb
                      have n0_ := Aside0.mk (Kd.R_below (by (with_reducible repeat (first | apply Kd.R_alloc | apply Kd.R_drewN | apply Kd.R_drew)); exact HO_7.out) hb)
                      have n1_ := Aside0.mk (Kd.R_below (by (with_reducible repeat (first | apply Kd.R_alloc | apply Kd.R_drewN | apply Kd.R_drew)); exact HO_164002.out) hb)
                      have n2_ := Aside0.mk (blk_below (g := gb162) (o := .cells #[.int .i64 0, .int .u64 0, .slice none 0 0] 30 (0, 0)) (by (with_reducible repeat (first | refine blk_drewN ?_ _ | refine blk_drew ?_ | refine blk_alloc ?_ _)); exact BK162.out) hb)
                      have n3_ := Aside0.mk (blk_below (g := gb163) (o := .cells #[.int .i64 x164000_1, .int .u64 x164001_1, .slice Ao31 x164002_1.length co31] 30 (0, 0)) (by (with_reducible repeat (first | refine blk_drewN ?_ _ | refine blk_drew ?_ | refine blk_alloc ?_ _)); exact BK163.out) hb)
                      have n4_ := Aside0.mk (below_step (by repeat (first | (with_reducible first | exact HB.out | apply below_alloc | apply pw_below_drewN | apply below_drew1 | refine below_set ?_ GE162.out | refine below_set ?_ GE163.out) | exact HB.out)) hb)
                      have n5_ := Aside0.mk (hbox)
                      have n6_ := Aside0.mk ((by rw [hg]; exact (below_size (by repeat (first | (with_reducible first | exact HB.out | apply below_alloc | apply pw_below_drewN | apply below_drew1 | refine below_set ?_ GE162.out | refine below_set ?_ GE163.out) | exact HB.out))) : w.heap.size ≤ gb172))
                      have n7_ := Aside0.mk ((by rw [hg]; exact (below_size (by repeat (first | (with_reducible first | exact HB.out | apply below_alloc | apply pw_below_drewN | apply below_drew1 | refine below_set ?_ GE162.out | refine below_set ?_ GE163.out) | exact HB.out))) : w.heap.size ≤ gb172))
                      have n8_ := Aside0.mk ((by rw [hg]; exact Nat.ne_of_lt (blk_lt (g := gb162) (o := .cells #[.int .i64 0, .int .u64 0, .slice none 0 0] 30 (0, 0)) (by (with_reducible repeat (first | refine blk_drewN ?_ _ | refine blk_drew ?_ | refine blk_alloc ?_ _)); exact BK162.out)) : gb162 ≠ gb172))
                      have n9_ := Aside0.mk ((by rw [hg]; exact Nat.ne_of_gt (blk_lt (g := gb162) (o := .cells #[.int .i64 0, .int .u64 0, .slice none 0 0] 30 (0, 0)) (by (with_reducible repeat (first | refine blk_drewN ?_ _ | refine blk_drew ?_ | refine blk_alloc ?_ _)); exact BK162.out)) : gb172 ≠ gb162))
                      have n10_ := Aside0.mk ((by rw [hg]; exact Nat.ne_of_lt (blk_lt (g := gb163) (o := .cells #[.int .i64 x164000_1, .int .u64 x164001_1, .slice Ao31 x164002_1.length co31] 30 (0, 0)) (by (with_reducible repeat (first | refine blk_drewN ?_ _ | refine blk_drew ?_ | refine blk_alloc ?_ _)); exact BK163.out)) : gb163 ≠ gb172))
                      have n11_ := Aside0.mk ((by rw [hg]; exact Nat.ne_of_gt (blk_lt (g := gb163) (o := .cells #[.int .i64 x164000_1, .int .u64 x164001_1, .slice Ao31 x164002_1.length co31] 30 (0, 0)) (by (with_reducible repeat (first | refine blk_drewN ?_ _ | refine blk_drew ?_ | refine blk_alloc ?_ _)); exact BK163.out)) : gb172 ≠ gb163))
                      clear HO_7
                      clear HO_164002
                      clear BK162
                      clear BK163
                      clear HB
                      have HO_7 := n0_
                      have HO_164002 := n1_
                      have BK162 := n2_
                      have BK163 := n3_
                      have HB := n4_
                      have BK172 := n5_
                      have GW172 := n6_
                      have GE172 := n7_
                      have NB162_172 := n8_
                      have NB172_162 := n9_
                      have NB163_172 := n10_
                      have NB172_163 := n11_
                      clear n0_ n1_ n2_ n3_ n4_ n5_ n6_ n7_ n8_ n9_ n10_ n11_
                      clear hb hbox hg
                      refine hK.out _ _ ⟨(blk_cell BK163.out 0).trans rfl, (blk_cell BK163.out 1).trans rfl, (blk_cell BK163.out 2).trans rfl, ((HB.out.cell (World.block_lt_of_cell? w _ hw164_0)).trans hw164_0), ((HB.out.cell (World.block_lt_of_cell? w _ hw164_1)).trans hw164_1), ((HB.out.cell (World.block_lt_of_cell? w _ hw165_0)).trans hw165_0), ((HB.out.cell (World.block_lt_of_cell? w _ hw165_1)).trans hw165_1)⟩ (fun hHeld => ?_)
                      clear hK K
                      refine norm_ (a' := ?_) ?_ ?_
                      rotate_left
                      · show Act.put _ (some 9) _ = _
                        simp only [Act.put, List.setIfInBounds_toArray, List.set_cons_zero, List.set_cons_succ, i64_w, i32_w]
                        rfl
                      refine one_ (i := 11) (N := some 38) #[true, true, true, true, true, true, true, true, true, true, true, true, false, false, false, true, false, false] rfl rfl (one_of HT_.out (by kernel_rfl)) (by decide) (fun K hK => ?_)
                      refine goes_ Try.func29 (by kernel_rfl) rfl #[.agg #[.int .i64 x164000_1, .int .u64 x164001_1, .slice Ao31 x164002_1.length co31], .int .u64 ((rd_T51 l1 x8_1).f0), .int .u64 ((rd_T51 l1 x8_1).f1)] (by rfl) rfl rfl (by (try simp only [List.map_toArray, List.map_cons, List.map_nil]); first | done | rfl | (simp only [List.length_drop, List.length_take]; rfl)) ?_
                      with_reducible refine (skylightref17_Add.calls kj7 x164000_1 x164001_1 _ _ x164002_1 ((rd_T51 l1 x8_1).f0) ((rd_T51 l1 x8_1).f1) t166 t167 t168 t171 _ ?side1 ?side2 A13.out).mono ?_
                      (case side1 => repeat (first | exact (Kd.R_reads' HO_164002.out).2.2 | (with_reducible refine Kd.C_alloc ?_ _) | (with_reducible refine Kd.C_drewN ?_ _) | (with_reducible refine Kd.C_drew ?_)))
                      (case side2 => exact (Kd.R_reads' HO_164002.out).2.1)
                      rintro e w34 ⟨v169, rfl, ho0, hb⟩
                      refine ⟨_, rfl, ?_⟩
                      have n0_ := Aside0.mk (Kd.R_elder' (by (with_reducible repeat (first | apply Kd.R_alloc | apply Kd.R_drewN | apply Kd.R_drew)); exact HO_7.out) (Kd.R_base ho0) hb)
                      have n1_ := Aside0.mk (Kd.R_elder' (by (with_reducible repeat (first | apply Kd.R_alloc | apply Kd.R_drewN | apply Kd.R_drew)); exact HO_164002.out) (Kd.R_base ho0) hb)
                      have n2_ := Aside0.mk (Kd.R_lower (Kd.R_new' (Kd.R_new' ho0 (Kd.R_lt (by (with_reducible repeat (first | apply Kd.R_alloc | apply Kd.R_drewN | apply Kd.R_drew)); exact HO_7.out))) (Kd.R_lt (by (with_reducible repeat (first | apply Kd.R_alloc | apply Kd.R_drewN | apply Kd.R_drew)); exact HO_164002.out))) (below_size (by repeat (first | (with_reducible first | exact HB.out | apply below_alloc | apply pw_below_drewN | apply below_drew1 | refine below_set ?_ GE162.out | refine below_set ?_ GE163.out | refine below_set ?_ GE172.out) | exact HB.out))))
                      have n3_ := Aside0.mk (blk_below (g := gb162) (o := .cells #[.int .i64 0, .int .u64 0, .slice none 0 0] 30 (0, 0)) (by (with_reducible repeat (first | refine blk_drewN ?_ _ | refine blk_drew ?_ | refine blk_alloc ?_ _)); exact BK162.out) hb)
                      have n4_ := Aside0.mk (blk_below (g := gb163) (o := .cells #[.int .i64 x164000_1, .int .u64 x164001_1, .slice Ao31 x164002_1.length co31] 30 (0, 0)) (by (with_reducible repeat (first | refine blk_drewN ?_ _ | refine blk_drew ?_ | refine blk_alloc ?_ _)); exact BK163.out) hb)
                      have n5_ := Aside0.mk (blk_below (g := gb172) (o := .cells #[.int .i64 0, .int .u64 0, .slice none 0 0] 30 (0, 0)) (by (with_reducible repeat (first | refine blk_drewN ?_ _ | refine blk_drew ?_ | refine blk_alloc ?_ _)); exact BK172.out) hb)
                      have n6_ := Aside0.mk (below_step (by repeat (first | (with_reducible first | exact HB.out | apply below_alloc | apply pw_below_drewN | apply below_drew1 | refine below_set ?_ GE162.out | refine below_set ?_ GE163.out | refine below_set ?_ GE172.out) | exact HB.out)) hb)
                      clear HO_7
                      clear HO_164002
                      clear BK162
                      clear BK163
                      clear BK172
                      clear HB
                      have HO_7 := n0_
                      have HO_164002 := n1_
                      have HO170 := n2_
                      have BK162 := n3_
                      have BK163 := n4_
                      have BK172 := n5_
                      have HB := n6_
                      clear n0_ n1_ n2_ n3_ n4_ n5_ n6_
                      (try clear hb)
                      (try clear hb2)
                      (try clear hk)
                      (try clear hi)
                      (try clear ho0)
                      refine hK.out _ _ ⟨(blk_cell BK163.out 0).trans rfl, (blk_cell BK163.out 1).trans rfl, (blk_cell BK163.out 2).trans rfl, ((HB.out.cell (World.block_lt_of_cell? w _ hw164_0)).trans hw164_0), ((HB.out.cell (World.block_lt_of_cell? w _ hw164_1)).trans hw164_1), ((HB.out.cell (World.block_lt_of_cell? w _ hw165_0)).trans hw165_0), ((HB.out.cell (World.block_lt_of_cell? w _ hw165_1)).trans hw165_1)⟩ (fun hHeld => ?_)
                      clear hK K
                      refine norm_ (a' := ?_) ?_ ?_
                      rotate_left
                      · show Act.put _ (some 38) _ = _
                        simp only [Act.put, List.setIfInBounds_toArray, List.set_cons_zero, List.set_cons_succ, i64_w, i32_w]
                        rfl
                      refine pure_ (i := 12) (N := some 26) (v := ?_) (a' := ?_) #[true, true, true, true, true, true, true, true, true, true, true, true, true, false, false, true, false, false] rfl rfl (any_of HT_.out (by kernel_rfl)) (fun _ _ _ h => h) (Or.inl ⟨by rfl, ?_⟩) ?_ ?_
                      rotate_left
                      · intro w'
                        go_simp
                        with_reducible rfl
                      rotate_left
                      · simp only [Act.put, List.setIfInBounds_toArray, List.set_cons_zero, List.set_cons_succ, i64_w, i32_w]
                        rfl
                      refine pure_ (i := 13) (N := some 39) (v := ?_) (a' := ?_) #[true, true, true, true, true, true, true, true, true, true, true, true, true, true, false, true, false, false] rfl rfl (any_of HT_.out (by kernel_rfl)) (fun _ _ _ h => h) (Or.inl ⟨by rfl, ?_⟩) ?_ ?_
                      rotate_left
                      · intro w'
                        go_simp
                        with_reducible rfl
                      rotate_left
                      · simp only [Act.put, List.setIfInBounds_toArray, List.set_cons_zero, List.set_cons_succ, i64_w, i32_w]
                        rfl
                      refine pure_ (i := 14) (N := some 40) (v := ?_) (a' := ?_) #[true, true, true, true, true, true, true, true, true, true, true, true, true, true, true, true, false, false] rfl rfl (any_of HT_.out (by kernel_rfl)) (fun _ _ _ h => h) (Or.inl ⟨by rfl, ?_⟩) ?_ ?_
                      rotate_left
                      · intro w'
                        go_simp
                        with_reducible rfl
                      rotate_left
                      · simp only [Act.put, List.setIfInBounds_toArray, List.set_cons_zero, List.set_cons_succ, i64_w, i32_w]
                        rfl
                      exact norm_ (by simp only [putAll, Act.put, List.setIfInBounds_toArray, List.set_cons_zero, List.set_cons_succ]) (hCont (v169, gb172) _ ⟨hHeld, (by (with_reducible repeat (first | apply Kd.R_alloc | apply Kd.R_drewN | apply Kd.R_drew)); exact Kd.R_mono HO170.out (fun _ hk => ⟨hk.2, hk.1.2⟩)), (by (with_reducible repeat (first | apply Kd.R_alloc | apply Kd.R_drewN | apply Kd.R_drew)); exact Kd.R_mono HO_164002.out (fun _ hk => ⟨hk.2, hk.1⟩)), (by (with_reducible repeat (first | apply Kd.R_alloc | apply Kd.R_drewN | apply Kd.R_drew)); exact Kd.R_mono HO_7.out (fun _ hk => ⟨hk.2, hk.1⟩)), (by (with_reducible repeat (first | refine blk_drewN ?_ _ | refine blk_drew ?_ | refine blk_alloc ?_ _)); exact BK162.out), (by (with_reducible repeat (first | refine blk_drewN ?_ _ | refine blk_drew ?_ | refine blk_alloc ?_ _)); exact BK163.out), (by (with_reducible repeat (first | refine blk_drewN ?_ _ | refine blk_drew ?_ | refine blk_alloc ?_ _)); exact BK172.out), GW172.out, GE172.out, NB162_172.out, NB172_162.out, NB163_172.out, NB172_163.out, (by repeat (first | (with_reducible first | exact HB.out | apply below_alloc | apply pw_below_drewN | apply below_drew1 | refine below_set ?_ GE162.out | refine below_set ?_ GE163.out | refine below_set ?_ GE172.out) | exact HB.out))⟩)
                  rintro ⟨v169, gb172⟩ w35 ⟨hS_, h0_, h1_, h2_, h3_, h4_, h5_, h6_, h7_, h8_, h9_, h10_, h11_, h12_⟩
                  have n0_ : Aside0 (Kd.R k51 51 w35 w.heap.size (fun k_ => some k_ ≠ (.slice Ao31 x164002_1.length co31 : Value).ownBlock ∧ some k_ ≠ (u7 : Value).ownBlock) v169 t168) := ⟨h0_⟩
                  have n1_ : Aside0 (Kd.R k51 51 w35 w.heap.size (fun k_ => some k_ ≠ (v169 : Value).ownBlock ∧ some k_ ≠ (u7 : Value).ownBlock) (.slice Ao31 x164002_1.length co31) x164002_1) := ⟨h1_⟩
                  have n2_ : Aside0 (Kd.R k51 51 w35 w.heap.size (fun k_ => some k_ ≠ (v169 : Value).ownBlock ∧ some k_ ≠ (.slice Ao31 x164002_1.length co31 : Value).ownBlock) u7 x7_1) := ⟨h2_⟩
                  have n3_ : Aside0 (w35.heap[gb162]? = some (.cells #[.int .i64 0, .int .u64 0, .slice none 0 0] 30 (0, 0))) := ⟨h3_⟩
                  have n4_ : Aside0 (w35.heap[gb163]? = some (.cells #[.int .i64 x164000_1, .int .u64 x164001_1, .slice Ao31 x164002_1.length co31] 30 (0, 0))) := ⟨h4_⟩
                  have n5_ : Aside0 (w35.heap[gb172]? = some (.cells #[.int .i64 0, .int .u64 0, .slice none 0 0] 30 (0, 0))) := ⟨h5_⟩
                  have n6_ : Aside0 (w.heap.size ≤ gb172) := ⟨h6_⟩
                  have n7_ : Aside0 (w.heap.size ≤ gb172) := ⟨h7_⟩
                  have n8_ : Aside0 (gb162 ≠ gb172) := ⟨h8_⟩
                  have n9_ : Aside0 (gb172 ≠ gb162) := ⟨h9_⟩
                  have n10_ : Aside0 (gb163 ≠ gb172) := ⟨h10_⟩
                  have n11_ : Aside0 (gb172 ≠ gb163) := ⟨h11_⟩
                  have n12_ : Aside0 (Below w.heap.size w w35) := ⟨h12_⟩
                  clear HO_7
                  clear HO_164002
                  clear BK162
                  clear BK163
                  clear HB
                  clear h0_ h1_ h2_ h3_ h4_ h5_ h6_ h7_ h8_ h9_ h10_ h11_ h12_
                  have HO170 := n0_
                  have HO_164002 := n1_
                  have HO_7 := n2_
                  have BK162 := n3_
                  have BK163 := n4_
                  have BK172 := n5_
                  have GW172 := n6_
                  have GE172 := n7_
                  have NB162_172 := n8_
                  have NB172_162 := n9_
                  have NB163_172 := n10_
                  have NB172_163 := n11_
                  have HB := n12_
                  clear n0_ n1_ n2_ n3_ n4_ n5_ n6_ n7_ n8_ n9_ n10_ n11_ n12_
                  have hHeld : w35.cell? ⟨gb163, 0, none⟩ = some (.int .i64 x164000_1) ∧ w35.cell? ⟨gb163, 1, none⟩ = some (.int .u64 x164001_1) ∧ w35.cell? ⟨gb163, 2, none⟩ = some (.slice Ao31 x164002_1.length co31) ∧ w35.cell? (ad164.add ((x8_1).toNat * 2)) = some (.int .u64 ((rd_T51 l1 x8_1).f0)) ∧ w35.cell? ⟨(ad164.add ((x8_1).toNat * 2)).block, (ad164.add ((x8_1).toNat * 2)).off + 1, none⟩ = some (.int .u64 ((rd_T51 l1 x8_1).f1)) ∧ w35.cell? (ad164.add ((x8_1).toNat * 2)) = some (.int .u64 ((rd_T51 l1 x8_1).f0)) ∧ w35.cell? ⟨(ad164.add ((x8_1).toNat * 2)).block, (ad164.add ((x8_1).toNat * 2)).off + 1, none⟩ = some (.int .u64 ((rd_T51 l1 x8_1).f1)) := hS_
                  obtain ⟨Ao38, co38, eo38⟩ := Kd.R_slice HO170.out
                  (first | subst eo38 | (injection eo38 with f1_ f2_ f3_; have f4_ := f1_.symm; have f5_ := f3_.symm; clear f1_ f2_ f3_; subst f4_; subst f5_))
                  refine norm_ (a' := ?_) ?_ ?_
                  rotate_left
                  · simp only [putAll, Act.put, List.setIfInBounds_toArray, List.set_cons_zero, List.set_cons_succ]
                    rfl
                  refine one_ (i := 16) (N := none) #[true, true, true, true, true, true, true, true, true, true, true, true, true, true, true, true, true, false] rfl rfl (one_of HT_.out (by kernel_rfl)) (by decide) (fun K hK => ?_)
                  have hs36 : w35.cell? ⟨gb172, 0, none⟩ = some (.int .i64 0) := (blk_cell BK172.out 0).trans rfl
                  have hfs36 := blk_frozen BK172.out 0
                  have hns36_0 := NB162_172.out
                  have hns36_1 := NB163_172.out
                  have hms36_0 := NB172_162.out
                  have hms36_1 := NB172_163.out
                  have hs37 : w35.cell? ⟨gb172, 1, none⟩ = some (.int .u64 0) := (blk_cell BK172.out 1).trans rfl
                  have hfs37 := blk_frozen BK172.out 1
                  have hns37_0 := NB162_172.out
                  have hns37_1 := NB163_172.out
                  have hms37_0 := NB172_162.out
                  have hms37_1 := NB172_163.out
                  have hs39 : w35.cell? ⟨gb172, 2, none⟩ = some (.slice none 0 0) := (blk_cell BK172.out 2).trans rfl
                  have hfs39 := blk_frozen BK172.out 2
                  have hns39_0 := NB162_172.out
                  have hns39_1 := NB163_172.out
                  have hms39_0 := NB172_162.out
                  have hms39_1 := NB172_163.out
                  refine skip_ (w1 := ?_) (by rfl) rfl ?_ ?_
                  rotate_left
                  · go_simp
                    rfl
                  refine hK.out _ _ ⟨((cell_far (p := ⟨gb172, _, none⟩) NB163_172.out _).trans (((cell_far (p := ⟨gb172, _, none⟩) NB163_172.out _).trans (((cell_far (p := ⟨gb172, _, none⟩) NB163_172.out _).trans (hHeld.1)))))), ((cell_far (p := ⟨gb172, _, none⟩) NB163_172.out _).trans (((cell_far (p := ⟨gb172, _, none⟩) NB163_172.out _).trans (((cell_far (p := ⟨gb172, _, none⟩) NB163_172.out _).trans (hHeld.2.1)))))), ((cell_far (p := ⟨gb172, _, none⟩) NB163_172.out _).trans (((cell_far (p := ⟨gb172, _, none⟩) NB163_172.out _).trans (((cell_far (p := ⟨gb172, _, none⟩) NB163_172.out _).trans (hHeld.2.2.1)))))), ((cell_far (p := ⟨gb172, _, none⟩) (by first | exact Nat.ne_of_lt (Nat.lt_of_lt_of_le (by have := World.block_lt_of_cell? _ _ hw164_0; first | rwa [add_block] at this | exact this) GW172.out) | (rw [add_block]; exact Nat.ne_of_lt (Nat.lt_of_lt_of_le (by have := World.block_lt_of_cell? _ _ hw164_0; first | rwa [add_block] at this | exact this) GW172.out)) | (show (Addr.add _ _).block ≠ _; rw [add_block]; exact Nat.ne_of_lt (Nat.lt_of_lt_of_le (by have := World.block_lt_of_cell? _ _ hw164_0; first | rwa [add_block] at this | exact this) GW172.out)) | (dsimp only; exact Nat.ne_of_lt (Nat.lt_of_lt_of_le (by have := World.block_lt_of_cell? _ _ hw164_0; first | rwa [add_block] at this | exact this) GW172.out))) _).trans (((cell_far (p := ⟨gb172, _, none⟩) (by first | exact Nat.ne_of_lt (Nat.lt_of_lt_of_le (by have := World.block_lt_of_cell? _ _ hw164_0; first | rwa [add_block] at this | exact this) GW172.out) | (rw [add_block]; exact Nat.ne_of_lt (Nat.lt_of_lt_of_le (by have := World.block_lt_of_cell? _ _ hw164_0; first | rwa [add_block] at this | exact this) GW172.out)) | (show (Addr.add _ _).block ≠ _; rw [add_block]; exact Nat.ne_of_lt (Nat.lt_of_lt_of_le (by have := World.block_lt_of_cell? _ _ hw164_0; first | rwa [add_block] at this | exact this) GW172.out)) | (dsimp only; exact Nat.ne_of_lt (Nat.lt_of_lt_of_le (by have := World.block_lt_of_cell? _ _ hw164_0; first | rwa [add_block] at this | exact this) GW172.out))) _).trans (((cell_far (p := ⟨gb172, _, none⟩) (by first | exact Nat.ne_of_lt (Nat.lt_of_lt_of_le (by have := World.block_lt_of_cell? _ _ hw164_0; first | rwa [add_block] at this | exact this) GW172.out) | (rw [add_block]; exact Nat.ne_of_lt (Nat.lt_of_lt_of_le (by have := World.block_lt_of_cell? _ _ hw164_0; first | rwa [add_block] at this | exact this) GW172.out)) | (show (Addr.add _ _).block ≠ _; rw [add_block]; exact Nat.ne_of_lt (Nat.lt_of_lt_of_le (by have := World.block_lt_of_cell? _ _ hw164_0; first | rwa [add_block] at this | exact this) GW172.out)) | (dsimp only; exact Nat.ne_of_lt (Nat.lt_of_lt_of_le (by have := World.block_lt_of_cell? _ _ hw164_0; first | rwa [add_block] at this | exact this) GW172.out))) _).trans (hHeld.2.2.2.1)))))), ((cell_far (p := ⟨gb172, _, none⟩) (by first | exact Nat.ne_of_lt (Nat.lt_of_lt_of_le (by have := World.block_lt_of_cell? _ _ hw164_1; first | rwa [add_block] at this | exact this) GW172.out) | (rw [add_block]; exact Nat.ne_of_lt (Nat.lt_of_lt_of_le (by have := World.block_lt_of_cell? _ _ hw164_1; first | rwa [add_block] at this | exact this) GW172.out)) | (show (Addr.add _ _).block ≠ _; rw [add_block]; exact Nat.ne_of_lt (Nat.lt_of_lt_of_le (by have := World.block_lt_of_cell? _ _ hw164_1; first | rwa [add_block] at this | exact this) GW172.out)) | (dsimp only; exact Nat.ne_of_lt (Nat.lt_of_lt_of_le (by have := World.block_lt_of_cell? _ _ hw164_1; first | rwa [add_block] at this | exact this) GW172.out))) _).trans (((cell_far (p := ⟨gb172, _, none⟩) (by first | exact Nat.ne_of_lt (Nat.lt_of_lt_of_le (by have := World.block_lt_of_cell? _ _ hw164_1; first | rwa [add_block] at this | exact this) GW172.out) | (rw [add_block]; exact Nat.ne_of_lt (Nat.lt_of_lt_of_le (by have := World.block_lt_of_cell? _ _ hw164_1; first | rwa [add_block] at this | exact this) GW172.out)) | (show (Addr.add _ _).block ≠ _; rw [add_block]; exact Nat.ne_of_lt (Nat.lt_of_lt_of_le (by have := World.block_lt_of_cell? _ _ hw164_1; first | rwa [add_block] at this | exact this) GW172.out)) | (dsimp only; exact Nat.ne_of_lt (Nat.lt_of_lt_of_le (by have := World.block_lt_of_cell? _ _ hw164_1; first | rwa [add_block] at this | exact this) GW172.out))) _).trans (((cell_far (p := ⟨gb172, _, none⟩) (by first | exact Nat.ne_of_lt (Nat.lt_of_lt_of_le (by have := World.block_lt_of_cell? _ _ hw164_1; first | rwa [add_block] at this | exact this) GW172.out) | (rw [add_block]; exact Nat.ne_of_lt (Nat.lt_of_lt_of_le (by have := World.block_lt_of_cell? _ _ hw164_1; first | rwa [add_block] at this | exact this) GW172.out)) | (show (Addr.add _ _).block ≠ _; rw [add_block]; exact Nat.ne_of_lt (Nat.lt_of_lt_of_le (by have := World.block_lt_of_cell? _ _ hw164_1; first | rwa [add_block] at this | exact this) GW172.out)) | (dsimp only; exact Nat.ne_of_lt (Nat.lt_of_lt_of_le (by have := World.block_lt_of_cell? _ _ hw164_1; first | rwa [add_block] at this | exact this) GW172.out))) _).trans (hHeld.2.2.2.2.1)))))), ((cell_far (p := ⟨gb172, _, none⟩) (by first | exact Nat.ne_of_lt (Nat.lt_of_lt_of_le (by have := World.block_lt_of_cell? _ _ hw165_0; first | rwa [add_block] at this | exact this) GW172.out) | (rw [add_block]; exact Nat.ne_of_lt (Nat.lt_of_lt_of_le (by have := World.block_lt_of_cell? _ _ hw165_0; first | rwa [add_block] at this | exact this) GW172.out)) | (show (Addr.add _ _).block ≠ _; rw [add_block]; exact Nat.ne_of_lt (Nat.lt_of_lt_of_le (by have := World.block_lt_of_cell? _ _ hw165_0; first | rwa [add_block] at this | exact this) GW172.out)) | (dsimp only; exact Nat.ne_of_lt (Nat.lt_of_lt_of_le (by have := World.block_lt_of_cell? _ _ hw165_0; first | rwa [add_block] at this | exact this) GW172.out))) _).trans (((cell_far (p := ⟨gb172, _, none⟩) (by first | exact Nat.ne_of_lt (Nat.lt_of_lt_of_le (by have := World.block_lt_of_cell? _ _ hw165_0; first | rwa [add_block] at this | exact this) GW172.out) | (rw [add_block]; exact Nat.ne_of_lt (Nat.lt_of_lt_of_le (by have := World.block_lt_of_cell? _ _ hw165_0; first | rwa [add_block] at this | exact this) GW172.out)) | (show (Addr.add _ _).block ≠ _; rw [add_block]; exact Nat.ne_of_lt (Nat.lt_of_lt_of_le (by have := World.block_lt_of_cell? _ _ hw165_0; first | rwa [add_block] at this | exact this) GW172.out)) | (dsimp only; exact Nat.ne_of_lt (Nat.lt_of_lt_of_le (by have := World.block_lt_of_cell? _ _ hw165_0; first | rwa [add_block] at this | exact this) GW172.out))) _).trans (((cell_far (p := ⟨gb172, _, none⟩) (by first | exact Nat.ne_of_lt (Nat.lt_of_lt_of_le (by have := World.block_lt_of_cell? _ _ hw165_0; first | rwa [add_block] at this | exact this) GW172.out) | (rw [add_block]; exact Nat.ne_of_lt (Nat.lt_of_lt_of_le (by have := World.block_lt_of_cell? _ _ hw165_0; first | rwa [add_block] at this | exact this) GW172.out)) | (show (Addr.add _ _).block ≠ _; rw [add_block]; exact Nat.ne_of_lt (Nat.lt_of_lt_of_le (by have := World.block_lt_of_cell? _ _ hw165_0; first | rwa [add_block] at this | exact this) GW172.out)) | (dsimp only; exact Nat.ne_of_lt (Nat.lt_of_lt_of_le (by have := World.block_lt_of_cell? _ _ hw165_0; first | rwa [add_block] at this | exact this) GW172.out))) _).trans (hHeld.2.2.2.2.2.1)))))), ((cell_far (p := ⟨gb172, _, none⟩) (by first | exact Nat.ne_of_lt (Nat.lt_of_lt_of_le (by have := World.block_lt_of_cell? _ _ hw165_1; first | rwa [add_block] at this | exact this) GW172.out) | (rw [add_block]; exact Nat.ne_of_lt (Nat.lt_of_lt_of_le (by have := World.block_lt_of_cell? _ _ hw165_1; first | rwa [add_block] at this | exact this) GW172.out)) | (show (Addr.add _ _).block ≠ _; rw [add_block]; exact Nat.ne_of_lt (Nat.lt_of_lt_of_le (by have := World.block_lt_of_cell? _ _ hw165_1; first | rwa [add_block] at this | exact this) GW172.out)) | (dsimp only; exact Nat.ne_of_lt (Nat.lt_of_lt_of_le (by have := World.block_lt_of_cell? _ _ hw165_1; first | rwa [add_block] at this | exact this) GW172.out))) _).trans (((cell_far (p := ⟨gb172, _, none⟩) (by first | exact Nat.ne_of_lt (Nat.lt_of_lt_of_le (by have := World.block_lt_of_cell? _ _ hw165_1; first | rwa [add_block] at this | exact this) GW172.out) | (rw [add_block]; exact Nat.ne_of_lt (Nat.lt_of_lt_of_le (by have := World.block_lt_of_cell? _ _ hw165_1; first | rwa [add_block] at this | exact this) GW172.out)) | (show (Addr.add _ _).block ≠ _; rw [add_block]; exact Nat.ne_of_lt (Nat.lt_of_lt_of_le (by have := World.block_lt_of_cell? _ _ hw165_1; first | rwa [add_block] at this | exact this) GW172.out)) | (dsimp only; exact Nat.ne_of_lt (Nat.lt_of_lt_of_le (by have := World.block_lt_of_cell? _ _ hw165_1; first | rwa [add_block] at this | exact this) GW172.out))) _).trans (((cell_far (p := ⟨gb172, _, none⟩) (by first | exact Nat.ne_of_lt (Nat.lt_of_lt_of_le (by have := World.block_lt_of_cell? _ _ hw165_1; first | rwa [add_block] at this | exact this) GW172.out) | (rw [add_block]; exact Nat.ne_of_lt (Nat.lt_of_lt_of_le (by have := World.block_lt_of_cell? _ _ hw165_1; first | rwa [add_block] at this | exact this) GW172.out)) | (show (Addr.add _ _).block ≠ _; rw [add_block]; exact Nat.ne_of_lt (Nat.lt_of_lt_of_le (by have := World.block_lt_of_cell? _ _ hw165_1; first | rwa [add_block] at this | exact this) GW172.out)) | (dsimp only; exact Nat.ne_of_lt (Nat.lt_of_lt_of_le (by have := World.block_lt_of_cell? _ _ hw165_1; first | rwa [add_block] at this | exact this) GW172.out))) _).trans (hHeld.2.2.2.2.2.2))))))⟩ (fun hHeld => ?_)
                  clear hK K
                  refine pure_ (i := 17) (N := some 10) (v := ?_) (a' := ?_) #[true, true, true, true, true, true, true, true, true, true, true, true, true, true, true, true, true, true] rfl rfl (any_of HT_.out (by kernel_rfl)) (fun _ _ _ h => h) (Or.inl ⟨by rfl, ?_⟩) ?_ ?_
                  rotate_left
                  · intro w'
                    go_simp
                    with_reducible rfl
                  rotate_left
                  · simp only [Act.put, List.setIfInBounds_toArray, List.set_cons_zero, List.set_cons_succ, i64_w, i32_w]
                    rfl
                  refine done_ (done_of HT_.out (by kernel_rfl)) ?_
                  try go_wp2
                  go_roundg kj7
                  case measure => have := HK1.out; have := HJ7.out; omega
                  case rel => exact ⟨(x7_1), (wrap64 (x8_1 + 1)), (x164000_1), (x164001_1), (x164002_1), (.slice Ao31 x164002_1.length co31), (by first | rfl | (simp; done) | (simp [*]; done)), H', ⟨by have := HK1.out; have := HJ7.out; omega⟩, ⟨by (with_reducible repeat (first | apply Kd.R_alloc | apply Kd.R_drewN | apply Kd.R_drew)); exact Kd.R_mono (Kd.R_far (p := ⟨gb172, 2, none⟩) (Kd.R_far (p := ⟨gb172, 1, none⟩) (Kd.R_far (p := ⟨gb172, 0, none⟩) (Kd.R_types HO_7.out BK172.out (by decide)) (fun _ hk => hk.2) (.int .i64 t166)) (fun _ hk => hk.2) (.int .u64 t167)) (fun _ hk => hk.2) (.slice Ao38 t168.length co38)) (fun _ hk => hk.1.2)⟩, ⟨by (with_reducible repeat (first | apply Kd.R_alloc | apply Kd.R_drewN | apply Kd.R_drew)); exact Kd.R_mono (Kd.R_far (p := ⟨gb172, 2, none⟩) (Kd.R_far (p := ⟨gb172, 1, none⟩) (Kd.R_far (p := ⟨gb172, 0, none⟩) (Kd.R_types HO_164002.out BK172.out (by decide)) (fun _ hk => hk.2) (.int .i64 t166)) (fun _ hk => hk.2) (.int .u64 t167)) (fun _ hk => hk.2) (.slice Ao38 t168.length co38)) (fun _ hk => hk.1.2)⟩, ⟨by (with_reducible repeat (first | refine blk_drewN ?_ _ | refine blk_drew ?_ | refine blk_alloc ?_ _)); refine blk_far ?_ NB162_172.out _; (with_reducible repeat (first | refine blk_drewN ?_ _ | refine blk_drew ?_ | refine blk_alloc ?_ _)); refine blk_far ?_ NB162_172.out _; (with_reducible repeat (first | refine blk_drewN ?_ _ | refine blk_drew ?_ | refine blk_alloc ?_ _)); refine blk_far ?_ NB162_172.out _; (with_reducible repeat (first | refine blk_drewN ?_ _ | refine blk_drew ?_ | refine blk_alloc ?_ _)); exact BK162.out⟩, ⟨by (with_reducible repeat (first | refine blk_drewN ?_ _ | refine blk_drew ?_ | refine blk_alloc ?_ _)); refine blk_far ?_ NB163_172.out _; (with_reducible repeat (first | refine blk_drewN ?_ _ | refine blk_drew ?_ | refine blk_alloc ?_ _)); refine blk_far ?_ NB163_172.out _; (with_reducible repeat (first | refine blk_drewN ?_ _ | refine blk_drew ?_ | refine blk_alloc ?_ _)); refine blk_far ?_ NB163_172.out _; (with_reducible repeat (first | refine blk_drewN ?_ _ | refine blk_drew ?_ | refine blk_alloc ?_ _)); exact BK163.out⟩, ⟨by repeat (first | (with_reducible first | exact HB.out | apply below_alloc | apply pw_below_drewN | apply below_drew1 | refine below_set ?_ GE162.out | refine below_set ?_ GE163.out | refine below_set ?_ GE172.out) | exact HB.out)⟩⟩
              · rw [if_neg c12] at H
                exact absurd H (by simp)
            · rw [if_neg c11] at H
              exact absurd H (by simp)
          · replace c10 := Bool.eq_false_iff.mpr c10
            subst c10
            have H1 : (some (x164000_1, x164001_1, x164002_1, x7_1)) = some (r1, r2, r3, r4) := by rw [if_neg (show ¬ (false = true) by decide)] at H; exact H
            clear H
            have H := H1
            clear H1
            simp only [Option.some.injEq, Prod.mk.injEq] at H
            obtain ⟨rfl, rfl, rfl, rfl⟩ := H
            have hnb40 := NB163_162.out
            have hnc40 := NB162_163.out
            have hcz41_0 : wc.cell? ⟨gb163, 0, none⟩ = some (.int .i64 x164000_1) := (blk_cell BK163.out 0).trans rfl
            have hcz41_1 : wc.cell? ⟨gb163, 1, none⟩ = some (.int .u64 x164001_1) := (blk_cell BK163.out 1).trans rfl
            have hcz41_2 : wc.cell? ⟨gb163, 2, none⟩ = some (u164002) := (blk_cell BK163.out 2).trans rfl
            have hfz41_0 := blk_frozen BK163.out 0
            have hfz41_1 := blk_frozen BK163.out 1
            have hfz41_2 := blk_frozen BK163.out 2
            have hcz42_0 : wc.cell? ⟨gb162, 0, none⟩ = some (.int .i64 0) := (blk_cell BK162.out 0).trans rfl
            have hcz42_1 : wc.cell? ⟨gb162, 1, none⟩ = some (.int .u64 0) := (blk_cell BK162.out 1).trans rfl
            have hcz42_2 : wc.cell? ⟨gb162, 2, none⟩ = some (.slice none 0 0) := (blk_cell BK162.out 2).trans rfl
            have hfz42_0 := blk_frozen BK162.out 0
            have hfz42_1 := blk_frozen BK162.out 1
            have hfz42_2 := blk_frozen BK162.out 2
            obtain ⟨Ao43, co43, eo43⟩ := Kd.R_slice HO_164002.out
            subst eo43
            go_wp2
            refine bodyPost_ret (results_ct rfl _ _ gb162 30 #[.int .i64 x164000_1, .int .u64 x164001_1, .slice Ao43 x164002_1.length co43] (0, 0) _ rfl (by (with_reducible repeat (first | refine blk_drewN ?_ _ | refine blk_drew ?_ | refine blk_alloc ?_ _)); refine blk_put (cs := #[.int .i64 x164000_1, .int .u64 x164001_1, .slice none 0 0]) ?_ 2 _ rfl; (with_reducible repeat (first | refine blk_drewN ?_ _ | refine blk_drew ?_ | refine blk_alloc ?_ _)); refine blk_put (cs := #[.int .i64 x164000_1, .int .u64 0, .slice none 0 0]) ?_ 1 _ rfl; (with_reducible repeat (first | refine blk_drewN ?_ _ | refine blk_drew ?_ | refine blk_alloc ?_ _)); refine blk_put (cs := #[.int .i64 0, .int .u64 0, .slice none 0 0]) ?_ 0 _ rfl; (with_reducible repeat (first | refine blk_drewN ?_ _ | refine blk_drew ?_ | refine blk_alloc ?_ _)); exact BK162.out) Try.underlying30 rfl (by kernel_rfl)) rfl ?_
            exact ⟨_, _, by first | rfl | (simp [errW_none, errW_some] <;> rfl) | (simp only [← hji3]; first | rfl | (simp [errW_none, errW_some] <;> rfl)) | (simp [*, errW_none, errW_some] <;> rfl), by (with_reducible repeat (first | apply Kd.R_alloc | apply Kd.R_drewN | apply Kd.R_drew)); exact Kd.R_mono (Kd.R_far (p := ⟨gb162, 2, none⟩) (Kd.R_far (p := ⟨gb162, 1, none⟩) (Kd.R_far (p := ⟨gb162, 0, none⟩) (Kd.R_types HO_164002.out BK162.out (by decide)) (fun _ hk => hk.2) (.int .i64 x164000_1)) (fun _ hk => hk.2) (.int .u64 x164001_1)) (fun _ hk => hk.2) (.slice Ao43 x164002_1.length co43)) (fun _ hk => hk.1), by (with_reducible repeat (first | apply Kd.R_alloc | apply Kd.R_drewN | apply Kd.R_drew)); exact Kd.R_mono (Kd.R_far (p := ⟨gb162, 2, none⟩) (Kd.R_far (p := ⟨gb162, 1, none⟩) (Kd.R_far (p := ⟨gb162, 0, none⟩) (Kd.R_types HO_7.out BK162.out (by decide)) (fun _ hk => hk.2) (.int .i64 x164000_1)) (fun _ hk => hk.2) (.int .u64 x164001_1)) (fun _ hk => hk.2) (.slice Ao43 x164002_1.length co43)) (fun _ hk => hk.1), by repeat (first | (with_reducible first | exact HB.out | apply below_alloc | apply pw_below_drewN | apply below_drew1 | refine below_set ?_ GE162.out | refine below_set ?_ GE163.out) | exact HB.out)⟩

end Go.Proofs.Ytohginlodlijkaa.PH
