/- The walk of JoinBound. -/
import Derived.Deep.RegionHeld3
import Derived.Deep.DrawnRows
import Derived.Deep.DeepCutAuto
import Derived.Test.YtohginlodlijkaaJpe
namespace Go.Proofs.Ytohginlodlijkaa.PH
open Go.RowKit Go.Proofs.YtohginlodlijkaaW.PrintWords Go.Proofs.YtohginlodlijkaaW.PrintLast Go.Proofs.YtohginlodlijkaaW.PrintMore
set_option maxHeartbeats 8000000 in
set_option maxRecDepth 100000 in
theorem joinBound_true (a0 a2 : Int) (A0 A1 A2 A3 : Option Addr) (c0 c1 c2 c3 : Nat) (l0 l1 l2 l3 : List S51) (w : World) (hC0 : Kd.C k51 w A0 l0.length l0) (hC1 : Kd.C k51 w A1 l1.length l1) (hC2 : Kd.C k51 w A2 l2.length l2) (hC3 : Kd.C k51 w A3 l3.length l3) (hc0 : l0.length ≤ c0) (hc1 : l1.length ≤ c1) (hc2 : l2.length ≤ c2) (hc3 : l3.length ≤ c3)
    (hl : ∀ l ∈ [l0, l1, l2, l3], ∀ t ∈ l, 0 ≤ t.f0 ∧ 0 ≤ t.f1 ∧ t.f1 < 18446744073709551616) :
    Calls Try.prog 12 #[.int .i64 a0, .agg #[.slice A0 l0.length c0, .slice A1 l1.length c1, .slice A2 l2.length c2, .slice A3 l3.length c3], .int .u64 a2] w fun e w' => e = .returned (.bool true) ∧ Below w.heap.size w w' := by
  obtain ⟨sms, als, hM⟩ := made_all a0 [l0, l1, l2, l3] hl
  obtain ⟨hK1, hK8⟩ := keys_range a0
  generalize 1 + (mx a0 0) % 8 = K at *
  have HB0 := (Below.refl _ w).alloc (Nat.le_refl _) (.cells #[.slice A0 l0.length c0, .slice A1 l1.length c1, .slice A2 l2.length c2, .slice A3 l3.length c3] 66)
  have HT := Aside0.mk (hM.tri (W0 := w.alloc (.cells #[.slice A0 l0.length c0, .slice A1 l1.length c1, .slice A2 l2.length c2, .slice A3 l3.length c3] 66)) (World.alloc_heap_new w _) (fun i hi => by
    have hi3 : i < 4 := hi
    rcases (show i = 0 ∨ i = 1 ∨ i = 2 ∨ i = 3 by omega) with rfl | rfl | rfl | rfl
    · exact ⟨A0, c0, rfl, hc0, Kd.C_below hC0 HB0⟩
    · exact ⟨A1, c1, rfl, hc1, Kd.C_below hC1 HB0⟩
    · exact ⟨A2, c2, rfl, hc2, Kd.C_below hC2 HB0⟩
    · exact ⟨A3, c3, rfl, hc3, Kd.C_below hC3 HB0⟩))
  replace HB0 := Aside0.mk HB0
  have HM := Aside0.mk hM
  clear hM hC0 hC1 hC2 hC3 hc0 hc1 hc2 hc3 hl
  go_enter Try.func12, Try.ntmps12
  go_wp2_with (first
    | (go_at_call 13; refine (awake18_true _).mono ?_; rintro e w1 ⟨rfl, hb1⟩; have HB1 := Aside0.mk hb1; clear hb1))
  have hT : ∀ W, Below w1.heap.size w1 W → Tri a0 K w.heap.size 4 sms als W := fun W hW => (HT.out.below HB1.out).below hW
  have hB1 : Below w.heap.size w w1 := HB0.out.trans (HB1.out.mono (by simp))
  have hs1 := hB1.size
  replace hT := Aside0.mk hT
  replace hB1 := Aside0.mk hB1
  clear HT HB0 HB1
  go_loopw [9, 10] (fun va iv wr => ∃ i : Nat, iv = .int .i64 i ∧ i ≤ 4 ∧ AV w w1.heap.size 4 67 sms va i wr ∧ Kd.R k51 51 wr w1.heap.size (fun _ => True) va (als.take i).flatten ∧ Below w1.heap.size w1 wr) (fun _ iv _ => 4 - (intOf iv).toNat)
  case atStart =>
    refine ⟨0, rfl, by omega, ⟨_, World.alloc_heap_new w1 _, rfl, fun j hj => by omega⟩, Kd.R_nil _ _ _ _ _, (Below.refl _ w1).alloc (Nat.le_refl _) _⟩
  case round =>
    obtain ⟨i, rfl, hi, hA, hV, hb⟩ := hrel
    obtain ⟨Av, cv, rfl⟩ := Kd.R_slice hV
    by_cases hlt : i < 4
    · obtain ⟨Aa, m, ca, hcell, hcall⟩ := hT.out wr hb i hlt
      have HA := Aside0.mk hA
      have HV := Aside0.mk hV
      have HB := Aside0.mk hb
      have HCELL := Aside0.mk hcell
      have hsb := hb.size
      have hgl := hA.ar.lt
      obtain ⟨mk, m1, m2, m3⟩ := HM.out.at' i hlt
      have hsm : ∃ sT sl, sms.getD i zSm = ⟨K, sT, sl⟩ := ⟨_, _, by rw [← mk]⟩
      obtain ⟨sT, sl, hsm⟩ := hsm
      rw [hsm] at hcall
      have hfl := flat_len (fun j hj => (HM.out.at' j (by have := HM.out.len2; have h3 : [l0, l1, l2, l3].length = 4 := rfl; omega)).2.2.2) i (by have := HM.out.len2; have h3 : [l0, l1, l2, l3].length = 4 := rfl; omega)
      have htf := take_flat (als := als) (i := i) (by have := HM.out.len2; have h3 : [l0, l1, l2, l3].length = 4 := rfl; omega)
      generalize (als.take i).flatten = acc at *
      generalize als.getD i [] = come at *
      have HCALL := Aside0.mk hcall
      have HSM := Aside0.mk hsm
      have HTF := Aside0.mk htf
      clear hA hV hb hcall m1 m2 mk hsm htf
      go_upto_region 8 with (first
        | (go_at_call 14; refine (HCALL.out _ (Below.refl _ _)).mono ?_; rintro e w5 ⟨A3, c3, A4, c4, rfl, hR3, hR4, hb3⟩
           have HR3 := Aside0.mk hR3
           have HR4 := Aside0.mk hR4
           have HB3 := Aside0.mk hb3
           have n0 : (w5.alloc (.cells #[.int .i64 K, .int .u64 sT, .slice A3 sl.length c3] 30)).cell? ⟨w5.heap.size, 0, none⟩ = some (.int .i64 K) := blk_cell (World.alloc_heap_new w5 _) 0
           clear hR3 hb3 hR4))
      have hb5 : Below wr.heap.size wr (w5.alloc (.cells #[.int .i64 K, .int .u64 sT, .slice A3 sl.length c3] 30)) := HB3.out.alloc HB3.out.size _
      have HR5 := Aside0.mk (Kd.R_alloc HR3.out (.cells #[.int .i64 K, .int .u64 sT, .slice A3 sl.length c3] 30))
      have HR6 := Aside0.mk (Kd.R_alloc HR4.out (.cells #[.int .i64 K, .int .u64 sT, .slice A3 sl.length c3] 30))
      replace hb5 := Aside0.mk hb5
      have hn1 := blk_cell (World.alloc_heap_new w5 (.cells #[.int .i64 K, .int .u64 sT, .slice A3 sl.length c3] 30)) 1
      have hn2 := blk_cell (World.alloc_heap_new w5 (.cells #[.int .i64 K, .int .u64 sT, .slice A3 sl.length c3] 30)) 2
      simp only [List.getElem?_toArray, List.getElem?_cons_zero, List.getElem?_cons_succ] at hn1 hn2
      generalize (w5.alloc (.cells #[.int .i64 K, .int .u64 sT, .slice A3 sl.length c3] 30)) = w6 at *
      have hA7 := HA.out.below hb5.out
      obtain ⟨v0, o0⟩ := hA7.ar.old (j := i * 3) (by omega)
      obtain ⟨v1, o1⟩ := hA7.ar.old (j := i * 3 + 1) (by omega)
      obtain ⟨v2, o2⟩ := hA7.ar.old (j := i * 3 + 2) (by omega)
      have g0 := hA7.ar.frozen (i * 3)
      have g1 := hA7.ar.frozen (i * 3 + 1)
      have g2 := hA7.ar.frozen (i * 3 + 2)
      have HA7 := Aside0.mk hA7
      clear hA7
      go_upto_region 9 with (fail)
      obtain ⟨cur, hblk, _, _⟩ := HA7.out.blk
      have hb7w : Below wr.heap.size wr w6 := hb5.out
      have hV7 := Kd.R_below HV.out hb7w
      have hV8 := far3 (i := i) (u0 := .int .i64 K) (u1 := .int .u64 sT) (u2 := .slice A3 sl.length c3) hblk (by decide) hV7
      have hC8 := (Kd.R_reads' (far3 (i := i) (u0 := .int .i64 K) (u1 := .int .u64 sT) (u2 := .slice A3 sl.length c3) hblk (by decide) HR6.out)).2.2
      have hA8 := HA7.out.step hlt (by decide) HSM.out (Kd.R_lower (R_apart_new HV.out HR5.out) (by omega))
      have h2 : Below w1.heap.size w1 w6 := HB.out.trans (hb7w.mono hsb)
      have hb8 := ((h2.setCell (p := ⟨w1.heap.size, i * 3, none⟩) (Nat.le_refl _) (.int .i64 K)).setCell (p := ⟨w1.heap.size, i * 3 + 1, none⟩) (Nat.le_refl _) (.int .u64 sT)).setCell (p := ⟨w1.heap.size, i * 3 + 2, none⟩) (Nat.le_refl _) (.slice A3 sl.length c3)
      clear hblk hV7 h2 hb7w o0 o1 o2 g0 g1 g2 n0 hn1 hn2 hcell
      generalize (((w6.setCell ⟨w1.heap.size, i * 3, none⟩ (.int .i64 K)).setCell ⟨w1.heap.size, i * 3 + 1, none⟩ (.int .u64 sT)).setCell ⟨w1.heap.size, i * 3 + 2, none⟩ (.slice A3 sl.length c3)) = w8 at *
      replace hV8 := Aside0.mk hV8
      replace hC8 := Aside0.mk hC8
      replace hA8 := Aside0.mk hA8
      replace hb8 := Aside0.mk hb8
      go_wp2_with (first
        | (at_builtin; refine Kd.R_append_rows k51 (w0 := w1) w1.heap.size rfl (.tmp 37) (.tmp 38) 28 51 (.agg #[(.int .u64 0), (.int .u64 0)]) 16 rfl Try.underlying28 info51 rfl (by decide) (by omega) (.slice Av acc.length cv) acc come _ _ _ (fun _ => True) (fun _ => False) rfl rfl hV8.out hC8.out (fun _ _ h => h) (fun _ h => h.elim) (fun _ _ => trivial) hb8.out hb8.out.size (by omega) ?_; intro v9 w9 hr9 hb9 hg9 hat9
           have HR9 := Aside0.mk hr9
           have HB9 := Aside0.mk hb9
           have HA9 := Aside0.mk (hA8.out.after (by decide) hV8.out hg9 hat9)
           clear hr9 hb9 hg9 hat9))
      exact ⟨⟨i + 1, by simp, by omega, HA9.out, by rw [HTF.out]; exact HR9.out, HB9.out⟩, by simp [intOf]; omega⟩
    · obtain rfl : i = 4 := by omega
      rw [show ((4 : Nat) : Int) = 4 from rfl]
      have hG := fun j (hj : j < 4) => HM.out.gs (j := j) hj
      have h40 := fun j (hj : j < 4) => (HM.out.at' j hj).2.2.2
      obtain ⟨T0, q0, b0, T1, q1, b1, T2, q2, b2, T3, q3, b3, rfl, rfl⟩ := HM.out.four
      have g0 := hG 0 (by omega)
      have g1 := hG 1 (by omega)
      have g2 := hG 2 (by omega)
      have g3 := hG 3 (by omega)
      have n0 := h40 0 (by omega)
      have n1 := h40 1 (by omega)
      have n2 := h40 2 (by omega)
      have n3 := h40 3 (by omega)
      simp only [List.getD_cons_zero, List.getD_cons_succ] at g0 g1 g2 g3 n0 n1 n2 n3
      have hacc : (List.take 4 [b0, b1, b2, b3]).flatten = b0 ++ (b1 ++ (b2 ++ b3)) := by simp
      generalize (List.take 4 [b0, b1, b2, b3]).flatten = acc at *
      obtain ⟨S0, d0, x0, x1, x2, r0⟩ := hA.ar.at (j := 0) (by omega)
      obtain ⟨S1, d1, y0, y1, y2, r1⟩ := hA.ar.at (j := 1) (by omega)
      obtain ⟨S2, d2, z0, z1, z2, r2⟩ := hA.ar.at (j := 2) (by omega)
      obtain ⟨S3, d3, u0, u1, u2, r3⟩ := hA.ar.at (j := 3) (by omega)
      simp only [List.getD_cons_zero, List.getD_cons_succ, Nat.zero_mul, Nat.one_mul, Nat.reduceMul, Nat.zero_add, Nat.reduceAdd] at x0 x1 x2 y0 y1 y2 z0 z1 z2 u0 u1 u2 r0 r1 r2 r3
      have hgl := hA.ar.lt
      have HV := Aside0.mk hV
      have HBw := Aside0.mk (hB1.out.trans (hb.mono hs1))
      have F0 := Aside0.mk (fun W (hW : Below wr.heap.size wr W) => Kd.R_below r0 hW)
      have F1 := Aside0.mk (fun W (hW : Below wr.heap.size wr W) => Kd.R_below r1 hW)
      have F2 := Aside0.mk (fun W (hW : Below wr.heap.size wr W) => Kd.R_below r2 hW)
      have F3 := Aside0.mk (fun W (hW : Below wr.heap.size wr W) => Kd.R_below r3 hW)
      have KQ := Aside0.mk (fun W (hW : Below wr.heap.size wr W) => (show (W.cell? ⟨w1.heap.size, 0, none⟩ = some (.int .i64 K) ∧ W.cell? ⟨w1.heap.size, 1, none⟩ = some (.int .u64 T0) ∧ W.cell? ⟨w1.heap.size, 2, none⟩ = some (.slice S0 q0.length d0)) ∧ (W.cell? ⟨w1.heap.size, 3, none⟩ = some (.int .i64 K) ∧ W.cell? ⟨w1.heap.size, 4, none⟩ = some (.int .u64 T1) ∧ W.cell? ⟨w1.heap.size, 5, none⟩ = some (.slice S1 q1.length d1)) ∧ (W.cell? ⟨w1.heap.size, 6, none⟩ = some (.int .i64 K) ∧ W.cell? ⟨w1.heap.size, 7, none⟩ = some (.int .u64 T2) ∧ W.cell? ⟨w1.heap.size, 8, none⟩ = some (.slice S2 q2.length d2)) from by
        have kk : ∀ {p : Addr} {v : Value}, wr.cell? p = some v → W.cell? p = some v := fun h => (hW.cell (World.block_lt_of_cell? wr _ h)).trans h
        exact ⟨⟨kk x0, kk x1, kk x2⟩, ⟨kk y0, kk y1, kk y2⟩, ⟨kk z0, kk z1, kk z2⟩⟩))
      have KU := Aside0.mk (fun W (hW : Below wr.heap.size wr W) => (show W.cell? ⟨w1.heap.size, 9, none⟩ = some (.int .i64 K) ∧ W.cell? ⟨w1.heap.size, 10, none⟩ = some (.int .u64 T3) ∧ W.cell? ⟨w1.heap.size, 11, none⟩ = some (.slice S3 q3.length d3) from by
        have kk : ∀ {p : Addr} {v : Value}, wr.cell? p = some v → W.cell? p = some v := fun h => (hW.cell (World.block_lt_of_cell? wr _ h)).trans h
        exact ⟨kk u0, kk u1, kk u2⟩))
      have hww := HBw.out.size
      have HG0 := Aside0.mk g0
      have HG1 := Aside0.mk g1
      have HG2 := Aside0.mk g2
      have HG3 := Aside0.mk g3
      have hal : acc.length ≤ 160 := by rw [hacc]; simp only [List.length_append]; omega
      have HACC := Aside0.mk hacc
      have HOK := Aside0.mk (mok3 hK1 hK8 g0 g1 g2)
      clear hA hb r0 r1 r2 r3 hT HM hG h40 hlt hi hV g0 g1 g2 g3 n0 n1 n2 n3 hB1 hacc u0 u1 u2
      have hmc := mrg3_cases hK1 HG0.out HG1.out HG2.out
      generalize hmr : mrg [⟨K, T0, q0⟩, ⟨K, T1, q1⟩, ⟨K, T2, q2⟩] = mr at *
      obtain ⟨⟨mK, mT, ml⟩, me⟩ := mr
      replace hmr := Aside0.mk hmr
      replace hmc := Aside0.mk hmc
      have hq := Below.refl wr.heap.size wr
      have m0 := World.new_ne wr _ x0
      go_upto_region 10 with (fail)
      go_cut [13, 14] (fun s13 s14 wx => ∃ g : Nat, s13 = .pointer (some ⟨g, 0, none⟩) ∧ s14 = .int .i64 me ∧ JB w wr 33 g mK mT ml wx ∧ Below wr.heap.size wr wx)
      case first =>
        go_region_held3 (fun W => (W.cell? ⟨w1.heap.size, 0, none⟩ = some (.int .i64 K) ∧ W.cell? ⟨w1.heap.size, 1, none⟩ = some (.int .u64 T0) ∧ W.cell? ⟨w1.heap.size, 2, none⟩ = some (.slice S0 q0.length d0)) ∧ (W.cell? ⟨w1.heap.size, 3, none⟩ = some (.int .i64 K) ∧ W.cell? ⟨w1.heap.size, 4, none⟩ = some (.int .u64 T1) ∧ W.cell? ⟨w1.heap.size, 5, none⟩ = some (.slice S1 q1.length d1)) ∧ (W.cell? ⟨w1.heap.size, 6, none⟩ = some (.int .i64 K) ∧ W.cell? ⟨w1.heap.size, 7, none⟩ = some (.int .u64 T2) ∧ W.cell? ⟨w1.heap.size, 8, none⟩ = some (.slice S2 q2.length d2))) (go_keep)
          (first
            | (go_at_call 15; with_reducible refine (made18z _ _ _ _ _ _).mono ?_; rintro e w9 ⟨rfl, hb9, zb⟩; have zlo := hq.size; have zne := Nat.ne_of_gt (Nat.lt_of_lt_of_le hgl zlo); have hq9 : Below wr.heap.size wr w9 := below_call (by repeat (first | assumption | exact Below.refl _ _ | apply below_drew1 | apply below_alloc)) hb9; clear hq hb9 x0 x1 x2 y0 y1 y2 z0 z1 z2; have hq := hq9; clear hq9; have hqs := hq.size; obtain ⟨⟨x0, x1, x2⟩, ⟨y0, y1, y2⟩, ⟨z0, z1, z2⟩⟩ := KQ.out _ hq)
            | (go_at_call 15; with_reducible refine (made18zd _ _ _ _ _ _).mono ?_; rintro e w9 ⟨rfl, hb9, zb⟩; have zlo := hq.size; have zne := Nat.ne_of_gt (Nat.lt_of_lt_of_le hgl zlo); have hq9 : Below wr.heap.size wr w9 := below_call (by repeat (first | assumption | exact Below.refl _ _ | apply below_drew1 | apply below_alloc)) hb9; clear hq hb9 x0 x1 x2 y0 y1 y2 z0 z1 z2; have hq := hq9; clear hq9; have hqs := hq.size; obtain ⟨⟨x0, x1, x2⟩, ⟨y0, y1, y2⟩, ⟨z0, z1, z2⟩⟩ := KQ.out _ hq)
            | (go_at_call 15; refine (made18 _ _ _ _ _ _).mono ?_; rintro e w9 ⟨rfl, hb9⟩; (try (have zb9 := (hb9.block _ (Array.getElem?_eq_some_iff.1 zb).1).trans zb; clear zb; have zb := zb9; clear zb9)); have hq9 : Below wr.heap.size wr w9 := below_call (by repeat (first | assumption | exact Below.refl _ _ | apply below_drew1 | apply below_alloc)) hb9; clear hq hb9 x0 x1 x2 y0 y1 y2 z0 z1 z2; have hq := hq9; clear hq9; have hqs := hq.size; obtain ⟨⟨x0, x1, x2⟩, ⟨y0, y1, y2⟩, ⟨z0, z1, z2⟩⟩ := KQ.out _ hq)
            | (go_at_call 16; refine (merge_any _ _ 3 [⟨K, T0, q0⟩, ⟨K, T1, q1⟩, ⟨K, T2, q2⟩] _ (by (repeat (first | (with_reducible refine sx3g ?_ (F0.out _ ?_) (F1.out _ ?_) (F2.out _ ?_)) | (with_reducible apply SX.drew) | (with_reducible apply SX.alloc))) <;> (first | rfl | (simp; done) | (repeat (first | assumption | exact Below.refl _ _ | apply below_drew1 | apply below_alloc)))) HOK.out rfl).mono ?_; rw [hmr.out]; rintro e w5 ⟨A3, c3, rfl, hR3, hb5⟩
               have hqw := hq.size
               replace hR3 := Kd.R_lower (base' := w.heap.size) hR3 (by simp; omega)
               (try first
                 | (have zl := (Array.getElem?_eq_some_iff.1 zb).1; have zb9 := (hb5.block _ (Nat.lt_of_lt_of_le zl (by simp))).trans ((Below.heap_alloc _ _ _ zl).trans zb); clear zl zb; have zb := zb9; clear zb9)
                 | (have zb : w5.heap[w9.heap.size]? = some (.cells #[.int .i64 0, .int .u64 0, .slice none 0 0] 33 (0, 0)) := (hb5.block w9.heap.size (by simp; try omega)).trans ((Below.heap_alloc _ _ _ (by simp; try omega)).trans (World.alloc_heap_new w9 (.cells #[.int .i64 0, .int .u64 0, .slice none 0 0] 33))); have zlo := hq.size; have zne := Nat.ne_of_gt (Nat.lt_of_lt_of_le hgl zlo))
                 | (have zb : w5.heap[w9.heap.size + 1]? = some (.cells #[.int .i64 0, .int .u64 0, .slice none 0 0] 33 (0, 0)) := (hb5.block (w9.heap.size + 1) (by simp; try omega)).trans (new_at (o := (.cells #[.int .i64 0, .int .u64 0, .slice none 0 0] 33)) (by simp; try omega)); have zlo : wr.heap.size ≤ w9.heap.size + 1 := (by have := hq.size; omega); have zne : w9.heap.size + 1 ≠ w1.heap.size := (by omega)))
               (try (have t0 := blk_cell zb 0; have t1 := blk_cell zb 1; have t2 := blk_cell zb 2; have f0 := blk_frozen zb 0; have f1 := blk_frozen zb 1; have f2 := blk_frozen zb 2))
               have hz : Below wr.heap.size wr w5 := below_call (by repeat (first | assumption | exact Below.refl _ _ | apply below_drew1 | apply below_alloc)) hb5
               clear hq x0 x1 x2 y0 y1 y2 z0 z1 z2
               have hq := hz
               obtain ⟨⟨x0, x1, x2⟩, ⟨y0, y1, y2⟩, ⟨z0, z1, z2⟩⟩ := KQ.out _ hq
               have n0 := World.new_ne w5 _ x0))
        all_goals (go_wp2_with fail)
        all_goals go_meet
        all_goals first
            | exact ⟨w5.heap.size, rfl, rfl, ⟨⟨A3, c3, World.alloc_heap_new w5 _, Kd.R_alloc hR3 _⟩, hz.size⟩, hz.alloc hz.size _⟩
            | exact ⟨_, rfl, rfl, ⟨⟨A3, c3, j3_new zb _ _ _, j3_R hR3 zb (by decide) _ _ _⟩, zlo⟩, j3_below hz zlo _ _ _⟩
      case rest =>
        obtain ⟨gA, rfl, rfl, hJ, hz⟩ := hcut
        clear x0 x1 x2 y0 y1 y2 z0 z1 z2 m0 hq
        have hBz := Aside0.mk (HBw.out.trans (hz.mono hww))
        rcases hmc.out with ⟨s3, e3, gs3⟩ | e3
        · obtain ⟨rfl, rfl⟩ := Prod.mk.inj e3
          obtain rfl : mK = K := gs3.keys
          have HG4 := Aside0.mk gs3
          obtain ⟨⟨A6, c6, hX, hRA⟩, hlo⟩ := hJ
          have hgA := (Array.getElem?_eq_some_iff.1 hX).1
          have hws := hz.size
          have hwz := hBz.out.size
          have hgl1 : w1.heap.size < wc.heap.size := by omega
          clear hgl
          have hgl := hgl1
          have HV1 := Aside0.mk (Kd.R_below HV.out hz)
          have RA := Aside0.mk (fun W (hW : Below wc.heap.size wc W) => Kd.R_below hRA hW)
          have F3' := Aside0.mk (fun W (hW : Below wc.heap.size wc W) => F3.out W (hz.trans (hW.mono hws)))
          have KP := Aside0.mk (fun W (hW : Below wc.heap.size wc W) => (show (W.cell? ⟨w1.heap.size, 9, none⟩ = some (.int .i64 mK) ∧ W.cell? ⟨w1.heap.size, 10, none⟩ = some (.int .u64 T3) ∧ W.cell? ⟨w1.heap.size, 11, none⟩ = some (.slice S3 q3.length d3)) ∧ (W.cell? ⟨gA, 0, none⟩ = some (.int .i64 mK) ∧ W.cell? ⟨gA, 1, none⟩ = some (.int .u64 mT) ∧ W.cell? ⟨gA, 2, none⟩ = some (.slice A6 ml.length c6)) from by
            have e1 := (hW.block gA hgA).trans hX
            exact ⟨KU.out W (hz.trans (hW.mono hws)), blk_cell e1 0, blk_cell e1 1, blk_cell e1 2⟩))
          have HOK2 := Aside0.mk (mok2 hK1 hK8 gs3 HG3.out)
          have hmc2 := Aside0.mk (mrg2_cases hK1 gs3 HG3.out)
          clear hX hRA hz e3 gs3 hmc hmr HOK F0 F1 F2 F3 KQ KU HV HG0 HG1 HG2 HBw hww hgl1
          generalize hmr2 : mrg [⟨mK, mT, ml⟩, ⟨mK, T3, q3⟩] = mr at *
          obtain ⟨⟨nK, nT, nl⟩, ne⟩ := mr
          replace hmr2 := Aside0.mk hmr2
          have hq := Below.refl wc.heap.size wc
          obtain ⟨⟨u0, u1, u2⟩, ⟨p0, p1, p2⟩⟩ := KP.out wc hq
          have m0 := World.new_ne wc _ u0
          have m1 := World.new_ne wc _ p0
          go_upto_region 13 with (fail)
          go_cut [15, 16] (fun s15 s16 wx => ∃ g : Nat, s15 = .pointer (some ⟨g, 0, none⟩) ∧ s16 = .int .i64 ne ∧ JB w wc 33 g nK nT nl wx ∧ Below wc.heap.size wc wx)
          case first =>
            go_region_held3 (fun W => (W.cell? ⟨w1.heap.size, 9, none⟩ = some (.int .i64 mK) ∧ W.cell? ⟨w1.heap.size, 10, none⟩ = some (.int .u64 T3) ∧ W.cell? ⟨w1.heap.size, 11, none⟩ = some (.slice S3 q3.length d3)) ∧ (W.cell? ⟨gA, 0, none⟩ = some (.int .i64 mK) ∧ W.cell? ⟨gA, 1, none⟩ = some (.int .u64 mT) ∧ W.cell? ⟨gA, 2, none⟩ = some (.slice A6 ml.length c6))) (go_keep)
              (first
                | (go_at_call 15; with_reducible refine (made18z _ _ _ _ _ _).mono ?_; rintro e w9 ⟨rfl, hb9, zb⟩; have zlo := hq.size; have zne := Nat.ne_of_gt (Nat.lt_of_lt_of_le hgl zlo); have zna := Nat.ne_of_gt (Nat.lt_of_lt_of_le hgA zlo); have hq9 : Below wc.heap.size wc w9 := below_call (by repeat (first | assumption | exact Below.refl _ _ | apply below_drew1 | apply below_alloc)) hb9; clear hq hb9 u0 u1 u2 p0 p1 p2; have hq := hq9; clear hq9; have hqs := hq.size; obtain ⟨⟨u0, u1, u2⟩, ⟨p0, p1, p2⟩⟩ := KP.out _ hq)
                | (go_at_call 15; with_reducible refine (made18zd _ _ _ _ _ _).mono ?_; rintro e w9 ⟨rfl, hb9, zb⟩; have zlo := hq.size; have zne := Nat.ne_of_gt (Nat.lt_of_lt_of_le hgl zlo); have zna := Nat.ne_of_gt (Nat.lt_of_lt_of_le hgA zlo); have hq9 : Below wc.heap.size wc w9 := below_call (by repeat (first | assumption | exact Below.refl _ _ | apply below_drew1 | apply below_alloc)) hb9; clear hq hb9 u0 u1 u2 p0 p1 p2; have hq := hq9; clear hq9; have hqs := hq.size; obtain ⟨⟨u0, u1, u2⟩, ⟨p0, p1, p2⟩⟩ := KP.out _ hq)
                | (go_at_call 15; refine (made18 _ _ _ _ _ _).mono ?_; rintro e w9 ⟨rfl, hb9⟩; (try (have zb9 := (hb9.block _ (Array.getElem?_eq_some_iff.1 zb).1).trans zb; clear zb; have zb := zb9; clear zb9)); have hq9 : Below wc.heap.size wc w9 := below_call (by repeat (first | assumption | exact Below.refl _ _ | apply below_drew1 | apply below_alloc)) hb9; clear hq hb9 u0 u1 u2 p0 p1 p2; have hq := hq9; clear hq9; have hqs := hq.size; obtain ⟨⟨u0, u1, u2⟩, ⟨p0, p1, p2⟩⟩ := KP.out _ hq)
                | (go_at_call 16; refine (merge_any _ _ 2 [⟨mK, mT, ml⟩, ⟨mK, T3, q3⟩] _ (by (repeat (first | (with_reducible refine sx2g ?_ (RA.out _ ?_) (F3'.out _ ?_)) | (with_reducible apply SX.drew) | (with_reducible apply SX.alloc))) <;> (first | rfl | (simp; done) | (repeat (first | assumption | exact Below.refl _ _ | apply below_drew1 | apply below_alloc)))) HOK2.out rfl).mono ?_; rw [hmr2.out]; rintro e w5 ⟨A3, c3, rfl, hR3, hb5⟩
                   have hqw := hq.size
                   replace hR3 := Kd.R_lower (base' := w.heap.size) hR3 (by simp; omega)
                   (try first
                     | (have zl := (Array.getElem?_eq_some_iff.1 zb).1; have zb9 := (hb5.block _ (Nat.lt_of_lt_of_le zl (by simp))).trans ((Below.heap_alloc _ _ _ zl).trans zb); clear zl zb; have zb := zb9; clear zb9)
                     | (have zb : w5.heap[w9.heap.size]? = some (.cells #[.int .i64 0, .int .u64 0, .slice none 0 0] 33 (0, 0)) := (hb5.block w9.heap.size (by simp; try omega)).trans ((Below.heap_alloc _ _ _ (by simp; try omega)).trans (World.alloc_heap_new w9 (.cells #[.int .i64 0, .int .u64 0, .slice none 0 0] 33))); have zlo := hq.size; have zne := Nat.ne_of_gt (Nat.lt_of_lt_of_le hgl zlo); have zna := Nat.ne_of_gt (Nat.lt_of_lt_of_le hgA zlo))
                     | (have zb : w5.heap[w9.heap.size + 1]? = some (.cells #[.int .i64 0, .int .u64 0, .slice none 0 0] 33 (0, 0)) := (hb5.block (w9.heap.size + 1) (by simp; try omega)).trans (new_at (o := (.cells #[.int .i64 0, .int .u64 0, .slice none 0 0] 33)) (by simp; try omega)); have zlo : wc.heap.size ≤ w9.heap.size + 1 := (by have := hq.size; omega); have zne : w9.heap.size + 1 ≠ w1.heap.size := (by omega); have zna : w9.heap.size + 1 ≠ gA := (by omega)))
                   (try (have t0 := blk_cell zb 0; have t1 := blk_cell zb 1; have t2 := blk_cell zb 2; have f0 := blk_frozen zb 0; have f1 := blk_frozen zb 1; have f2 := blk_frozen zb 2))
                   have hz : Below wc.heap.size wc w5 := below_call (by repeat (first | assumption | exact Below.refl _ _ | apply below_drew1 | apply below_alloc)) hb5
                   clear hq u0 u1 u2 p0 p1 p2
                   have hq := hz
                   obtain ⟨⟨u0, u1, u2⟩, ⟨p0, p1, p2⟩⟩ := KP.out _ hq
                   have n0 := World.new_ne w5 _ u0
                   have n1 := World.new_ne w5 _ p0))
            all_goals (go_wp2_with fail)
            all_goals go_meet
            all_goals first
              | exact ⟨w5.heap.size, rfl, rfl, ⟨⟨A3, c3, World.alloc_heap_new w5 _, Kd.R_alloc hR3 _⟩, hz.size⟩, hz.alloc hz.size _⟩
              | exact ⟨_, rfl, rfl, ⟨⟨A3, c3, j3_new zb _ _ _, j3_R hR3 zb (by decide) _ _ _⟩, zlo⟩, j3_below hz zlo _ _ _⟩
          case rest =>
            obtain ⟨gB, rfl, rfl, hJ2, hz2⟩ := hcut
            clear u0 u1 u2 p0 p1 p2 m0 m1 hq
            have hBz2 := Aside0.mk (hBz.out.trans (hz2.mono hwz))
            rcases hmc2.out with ⟨s5, e5, gs5⟩ | e5
            · obtain ⟨rfl, rfl⟩ := Prod.mk.inj e5
              obtain rfl : nK = mK := gs5.keys
              have gsA := acc4_facts HACC.out (by simpa [List.append_assoc] using gs5)
              obtain ⟨⟨A7, c7, hY, hRB⟩, _⟩ := hJ2
              have hgB := (Array.getElem?_eq_some_iff.1 hY).1
              have hV2 := Kd.R_below HV1.out hz2
              obtain ⟨E, hE0, hET, hE, hE2⟩ := gs_lost hK1 hK8 gsA
              have hM := gs_may hK1 hK8 gsA
              have htop := gsA.top
              have hlen := gsA.len
              simp only at htop hlen
              have hT0 : 0 ≤ nT := gsA.nonneg
              have HGA := Aside0.mk gsA
              have hpos : ∀ t ∈ acc, 1 ≤ t.f1 := fun t ht => (gsA.pw.pos t ht).2.2
              have hsum : nT = sumL acc := gsA.pw.tot
              have KX := Aside0.mk (fun W (hW : Below wc.heap.size wc W) => (show W.cell? ⟨gB, 0, none⟩ = some (.int .i64 nK) ∧ W.cell? ⟨gB, 1, none⟩ = some (.int .u64 nT) ∧ W.cell? ⟨gB, 2, none⟩ = some (.slice A7 nl.length c7) from by
                have e1 := (hW.block gB hgB).trans hY
                exact ⟨blk_cell e1 0, blk_cell e1 1, blk_cell e1 2⟩))
              have HRe := Aside0.mk (fun key W (hW : Below wc.heap.size wc W) => (skylightref17_Real.calls 400 Av cv acc key _ W (Kd.C_below (Kd.R_reads' hV2).2.2 hW) (Kd.R_reads' hV2).2.1 (real_is (by omega) hpos (by omega) key)).mono fun e w' h => (⟨h.1, h.2.below⟩ : _ ∧ Below W.heap.size W w'))
              have HOf := Aside0.mk (fun key W (hW : Below wc.heap.size wc W) => heavy_Of.calls 200 nK nT A7 c7 nl key _ W (Kd.C_below (Kd.R_reads' hRB).2.2 hW) (Kd.R_reads' hRB).2.1 (hOf_eq gsA.rise (by omega) (by omega)))
              have HLo := Aside0.mk (fun W (hW : Below wc.heap.size wc W) => heavy_Lost.calls 400 nK nT A7 c7 nl E W (Kd.C_below (Kd.R_reads' hRB).2.2 hW) (Kd.R_reads' hRB).2.1 hE)
              have HMa := Aside0.mk (fun W (hW : Below wc.heap.size wc W) => heavy_May.calls 400 nK nT A7 c7 nl 0 W (Kd.C_below (Kd.R_reads' hRB).2.2 hW) (Kd.R_reads' hRB).2.1 hM)
              have HV2 := Aside0.mk hV2
              have HE2 := Aside0.mk hE2
              clear hY hRB hV2 gsA hE hE2 hM hpos hsum e5 gs5 hmc2 hmr2 HOK2 RA F3' KP HV1 HG4 HG3 HACC hz2
              go_wp2_with (fail)
              go_loopw [17] (fun jv wr => ∃ j : Nat, jv = .int .i64 j ∧ j ≤ acc.length + 1 ∧ Below wc.heap.size wc wr) (fun jv _ => acc.length + 1 - (intOf jv).toNat)
              case atStart => exact ⟨0, rfl, Nat.zero_le _, Below.refl _ _⟩
              case round =>
                obtain ⟨j, rfl, hj, hb⟩ := hrel
                by_cases hle : j ≤ acc.length
                · have hqj : (j : Int) ≤ (acc.length : Int) := by omega
                  obtain ⟨x0, x1, x2⟩ := KX.out _ hb
                  have hq := hb
                  by_cases hlt : j < acc.length
                  · obtain ⟨ad, rfl, k0, _⟩ := at_T51 (Kd.R_reads' HV2.out).2.2 (j : Int) (by omega) (by omega)
                    rw [show rd_T51 acc (j : Int) = acc.getD j z51 from rfl, Int.toNat_natCast] at k0
                    generalize (acc.getD j z51).f0 = zk at *
                    replace k0 := (hb.cell (World.block_lt_of_cell? _ _ k0)).trans k0
                    have hg := gs_get HGA.out zk
                    have hr := real_le HGA.out zk
                    have h2 := HE2.out zk
                    simp only at hg hr
                    have i0 : (0 : Int) ≤ (j : Int) := by omega
                    have i1 : (j : Int) < (acc.length : Int) := by omega
                    have HREk := Aside0.mk (HRe.out zk)
                    have HOFk := Aside0.mk (HOf.out zk)
                    generalize realL acc zk = r at *
                    generalize getk nl zk = g at *
                    have e0 : IntKind.u64.wrap (g + E) = g + E := by rw [IntKind.wrap_u64]; omega
                    have e1 : decide (r < g) = false := by simp; omega
                    have e2 : decide (g + E < r) = false := by simp; omega
                    clear hb
                    go_wp2_with (first
                      | (go_at_call 23; refine (HREk.out _ hq).mono ?_; rintro e w9 ⟨rfl, hb9⟩; have hq9 := below_call hq hb9; clear hq hb9 x0 x1 x2; have hq := hq9; clear hq9; obtain ⟨x0, x1, x2⟩ := KX.out _ hq)
                      | (go_at_call 24; refine (HOFk.out _ hq).mono ?_; rintro e w9 ⟨rfl, hb9⟩; have hq9 := below_call hq hb9; clear hq hb9 x0 x1 x2; have hq := hq9; clear hq9; obtain ⟨x0, x1, x2⟩ := KX.out _ hq)
                      | (go_at_call 31; refine (HLo.out _ hq).mono ?_; rintro e w9 ⟨rfl, hb9⟩; have hq9 := below_call hq hb9; clear hq hb9 x0 x1 x2; have hq := hq9; clear hq9; obtain ⟨x0, x1, x2⟩ := KX.out _ hq))
                    exact ⟨⟨j + 1, by simp, by omega, hq⟩, by simp [intOf]; omega⟩
                  · obtain rfl : j = acc.length := by omega
                    have hg := gs_get HGA.out a2
                    have hr := real_le HGA.out a2
                    have h2 := HE2.out a2
                    simp only at hg hr
                    have HREk := Aside0.mk (HRe.out a2)
                    have HOFk := Aside0.mk (HOf.out a2)
                    generalize realL acc a2 = r at *
                    generalize getk nl a2 = g at *
                    have e0 : IntKind.u64.wrap (g + E) = g + E := by rw [IntKind.wrap_u64]; omega
                    have e1 : decide (r < g) = false := by simp; omega
                    have e2 : decide (g + E < r) = false := by simp; omega
                    clear hb
                    go_wp2_with (first
                      | (go_at_call 23; refine (HREk.out _ hq).mono ?_; rintro e w9 ⟨rfl, hb9⟩; have hq9 := below_call hq hb9; clear hq hb9 x0 x1 x2; have hq := hq9; clear hq9; obtain ⟨x0, x1, x2⟩ := KX.out _ hq)
                      | (go_at_call 24; refine (HOFk.out _ hq).mono ?_; rintro e w9 ⟨rfl, hb9⟩; have hq9 := below_call hq hb9; clear hq hb9 x0 x1 x2; have hq := hq9; clear hq9; obtain ⟨x0, x1, x2⟩ := KX.out _ hq)
                      | (go_at_call 31; refine (HLo.out _ hq).mono ?_; rintro e w9 ⟨rfl, hb9⟩; have hq9 := below_call hq hb9; clear hq hb9 x0 x1 x2; have hq := hq9; clear hq9; obtain ⟨x0, x1, x2⟩ := KX.out _ hq))
                    exact ⟨⟨acc.length + 1, by simp, by omega, hq⟩, by (simp [intOf]; try omega)⟩
                · obtain rfl : j = acc.length + 1 := by omega
                  obtain ⟨x0, x1, x2⟩ := KX.out _ hb
                  go_wp2_with (go_at_call 34; refine (HMa.out _ hb).mono ?_; rintro e w9 ⟨rfl, hb9⟩)
                  all_goals (go_ret; exact ⟨rfl, hBz2.out.trans ((below_call hb hb9).mono hBz2.out.size)⟩)
            · obtain ⟨e6, rfl⟩ := Prod.mk.inj e5
              go_wp2
              all_goals (go_ret; exact ⟨rfl, hBz2.out⟩)
        · obtain ⟨e4, rfl⟩ := Prod.mk.inj e3
          go_wp2
          all_goals (go_ret; exact ⟨rfl, hBz.out⟩)
end Go.Proofs.Ytohginlodlijkaa.PH
