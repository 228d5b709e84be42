/- The walk of JoinFinds. -/
import Derived.Deep.RegionHeld3
import Derived.Deep.DrawnRows
import Derived.Deep.DeepCutAuto
import Derived.Test.YtohginlodlijkaaJpd
namespace Go.Proofs.Ytohginlodlijkaa.PH
open Go.RowKit Go.Proofs.YtohginlodlijkaaW.PrintWords Go.Proofs.YtohginlodlijkaaW.PrintLast Go.Proofs.YtohginlodlijkaaW.PrintMore
set_option maxHeartbeats 8000000 in
set_option maxRecDepth 100000 in
theorem joinFinds_true (a0 : Int) (A0 A1 A2 : Option Addr) (c0 c1 c2 : Nat) (l0 l1 l2 : List S51) (w : World) (hC0 : Kd.C k51 w A0 l0.length l0) (hC1 : Kd.C k51 w A1 l1.length l1) (hC2 : Kd.C k51 w A2 l2.length l2) (hc0 : l0.length ≤ c0) (hc1 : l1.length ≤ c1) (hc2 : l2.length ≤ c2)
    (hl : ∀ l ∈ [l0, l1, l2], ∀ t ∈ l, 0 ≤ t.f0 ∧ 0 ≤ t.f1 ∧ t.f1 < 18446744073709551616) :
    Calls Try.prog 5 #[.int .i64 a0, .agg #[.slice A0 l0.length c0, .slice A1 l1.length c1, .slice A2 l2.length c2]] w fun e w' => e = .returned (.bool true) ∧ Below w.heap.size w w' := by
  obtain ⟨sms, als, hM⟩ := made_all a0 [l0, l1, l2] hl
  obtain ⟨hK1, hK8⟩ := keys_range a0
  generalize 1 + (mx a0 0) % 8 = K at *
  have HB0 := (Below.refl _ w).alloc (Nat.le_refl _) (.cells #[.slice A0 l0.length c0, .slice A1 l1.length c1, .slice A2 l2.length c2] 45)
  have HT := Aside0.mk (hM.tri (W0 := w.alloc (.cells #[.slice A0 l0.length c0, .slice A1 l1.length c1, .slice A2 l2.length c2] 45)) (World.alloc_heap_new w _) (fun i hi => by
    have hi3 : i < 3 := hi
    rcases (show i = 0 ∨ i = 1 ∨ i = 2 by omega) with rfl | rfl | rfl
    · exact ⟨A0, c0, rfl, hc0, Kd.C_below hC0 HB0⟩
    · exact ⟨A1, c1, rfl, hc1, Kd.C_below hC1 HB0⟩
    · exact ⟨A2, c2, rfl, hc2, Kd.C_below hC2 HB0⟩))
  replace HB0 := Aside0.mk HB0
  have HM := Aside0.mk hM
  clear hM hC0 hC1 hC2 hc0 hc1 hc2 hl
  go_enter Try.func5, Try.ntmps5
  go_wp2_with (first
    | (go_at_call 13; refine (awake18_true _).mono ?_; rintro e w1 ⟨rfl, hb1⟩; have HB1 := Aside0.mk hb1; clear hb1))
  have hT : ∀ W, Below w1.heap.size w1 W → Tri a0 K w.heap.size 3 sms als W := fun W hW => (HT.out.below HB1.out).below hW
  have hB1 : Below w.heap.size w w1 := HB0.out.trans (HB1.out.mono (by simp))
  have hs1 := hB1.size
  replace hT := Aside0.mk hT
  replace hB1 := Aside0.mk hB1
  clear HT HB0 HB1
  go_loopw [7, 8] (fun va iv wr => ∃ i : Nat, iv = .int .i64 i ∧ i ≤ 3 ∧ AV w w1.heap.size 3 46 sms va i wr ∧ Kd.R k51 51 wr w1.heap.size (fun _ => True) va (als.take i).flatten ∧ Below w1.heap.size w1 wr) (fun _ iv _ => 3 - (intOf iv).toNat)
  case atStart =>
    refine ⟨0, rfl, by omega, ⟨_, World.alloc_heap_new w1 _, rfl, fun j hj => by omega⟩, Kd.R_nil _ _ _ _ _, (Below.refl _ w1).alloc (Nat.le_refl _) _⟩
  case round =>
    obtain ⟨i, rfl, hi, hA, hV, hb⟩ := hrel
    obtain ⟨Av, cv, rfl⟩ := Kd.R_slice hV
    by_cases hlt : i < 3
    · obtain ⟨Aa, m, ca, hcell, hcall⟩ := hT.out wr hb i hlt
      have HA := Aside0.mk hA
      have HV := Aside0.mk hV
      have HB := Aside0.mk hb
      have HCELL := Aside0.mk hcell
      have hsb := hb.size
      have hgl := hA.ar.lt
      obtain ⟨mk, m1, m2, m3⟩ := HM.out.at' i hlt
      have hsm : ∃ sT sl, sms.getD i zSm = ⟨K, sT, sl⟩ := ⟨_, _, by rw [← mk]⟩
      obtain ⟨sT, sl, hsm⟩ := hsm
      rw [hsm] at hcall
      have hfl := flat_len (fun j hj => (HM.out.at' j (by have := HM.out.len2; have h3 : [l0, l1, l2].length = 3 := rfl; omega)).2.2.2) i (by have := HM.out.len2; have h3 : [l0, l1, l2].length = 3 := rfl; omega)
      have htf := take_flat (als := als) (i := i) (by have := HM.out.len2; have h3 : [l0, l1, l2].length = 3 := rfl; omega)
      generalize (als.take i).flatten = acc at *
      generalize als.getD i [] = come at *
      have HCALL := Aside0.mk hcall
      have HSM := Aside0.mk hsm
      have HTF := Aside0.mk htf
      clear hA hV hb hcall m1 m2 mk hsm htf
      go_upto_region 8 with (first
        | (go_at_call 14; refine (HCALL.out _ (Below.refl _ _)).mono ?_; rintro e w5 ⟨A3, c3, A4, c4, rfl, hR3, hR4, hb3⟩
           have HR3 := Aside0.mk hR3
           have HR4 := Aside0.mk hR4
           have HB3 := Aside0.mk hb3
           have n0 : (w5.alloc (.cells #[.int .i64 K, .int .u64 sT, .slice A3 sl.length c3] 30)).cell? ⟨w5.heap.size, 0, none⟩ = some (.int .i64 K) := blk_cell (World.alloc_heap_new w5 _) 0
           clear hR3 hb3 hR4))
      have hb5 : Below wr.heap.size wr (w5.alloc (.cells #[.int .i64 K, .int .u64 sT, .slice A3 sl.length c3] 30)) := HB3.out.alloc HB3.out.size _
      have HR5 := Aside0.mk (Kd.R_alloc HR3.out (.cells #[.int .i64 K, .int .u64 sT, .slice A3 sl.length c3] 30))
      have HR6 := Aside0.mk (Kd.R_alloc HR4.out (.cells #[.int .i64 K, .int .u64 sT, .slice A3 sl.length c3] 30))
      replace hb5 := Aside0.mk hb5
      have hn1 := blk_cell (World.alloc_heap_new w5 (.cells #[.int .i64 K, .int .u64 sT, .slice A3 sl.length c3] 30)) 1
      have hn2 := blk_cell (World.alloc_heap_new w5 (.cells #[.int .i64 K, .int .u64 sT, .slice A3 sl.length c3] 30)) 2
      simp only [List.getElem?_toArray, List.getElem?_cons_zero, List.getElem?_cons_succ] at hn1 hn2
      generalize (w5.alloc (.cells #[.int .i64 K, .int .u64 sT, .slice A3 sl.length c3] 30)) = w6 at *
      go_upto_region 9 with (first
        | (go_at_call 15; refine (made18 _ _ _ _ _ _).mono ?_; rintro e w7 ⟨rfl, hb7⟩
           have hA7 := (HA.out.below hb5.out).below hb7
           obtain ⟨v0, o0⟩ := hA7.ar.old (j := i * 3) (by omega)
           obtain ⟨v1, o1⟩ := hA7.ar.old (j := i * 3 + 1) (by omega)
           obtain ⟨v2, o2⟩ := hA7.ar.old (j := i * 3 + 2) (by omega)
           have g0 := hA7.ar.frozen (i * 3)
           have g1 := hA7.ar.frozen (i * 3 + 1)
           have g2 := hA7.ar.frozen (i * 3 + 2)
           have HA7 := Aside0.mk hA7
           have HB7 := Aside0.mk hb7
           clear hA7 hb7))
      obtain ⟨cur, hblk, _, _⟩ := HA7.out.blk
      have hb7w : Below wr.heap.size wr w7 := hb5.out.trans (HB7.out.mono hb5.out.size)
      have hV7 := Kd.R_below HV.out hb7w
      have hV8 := far3 (i := i) (u0 := .int .i64 K) (u1 := .int .u64 sT) (u2 := .slice A3 sl.length c3) hblk (by decide) hV7
      have hC8 := (Kd.R_reads' (far3 (i := i) (u0 := .int .i64 K) (u1 := .int .u64 sT) (u2 := .slice A3 sl.length c3) hblk (by decide) (Kd.R_below HR6.out HB7.out))).2.2
      have hA8 := HA7.out.step hlt (by decide) HSM.out (Kd.R_lower (R_apart_new HV.out (Kd.R_below HR5.out HB7.out)) (by omega))
      have h2 : Below w1.heap.size w1 w7 := HB.out.trans (hb7w.mono hsb)
      have hb8 := ((h2.setCell (p := ⟨w1.heap.size, i * 3, none⟩) (Nat.le_refl _) (.int .i64 K)).setCell (p := ⟨w1.heap.size, i * 3 + 1, none⟩) (Nat.le_refl _) (.int .u64 sT)).setCell (p := ⟨w1.heap.size, i * 3 + 2, none⟩) (Nat.le_refl _) (.slice A3 sl.length c3)
      clear hblk hV7 h2 hb7w o0 o1 o2 g0 g1 g2 n0 hn1 hn2 hcell
      generalize (((w7.setCell ⟨w1.heap.size, i * 3, none⟩ (.int .i64 K)).setCell ⟨w1.heap.size, i * 3 + 1, none⟩ (.int .u64 sT)).setCell ⟨w1.heap.size, i * 3 + 2, none⟩ (.slice A3 sl.length c3)) = w8 at *
      replace hV8 := Aside0.mk hV8
      replace hC8 := Aside0.mk hC8
      replace hA8 := Aside0.mk hA8
      replace hb8 := Aside0.mk hb8
      go_wp2_with (first
        | (at_builtin; refine Kd.R_append_rows k51 (w0 := w1) w1.heap.size rfl (.tmp 33) (.tmp 34) 28 51 (.agg #[(.int .u64 0), (.int .u64 0)]) 16 rfl Try.underlying28 info51 rfl (by decide) (by omega) (.slice Av acc.length cv) acc come _ _ _ (fun _ => True) (fun _ => False) rfl rfl hV8.out hC8.out (fun _ _ h => h) (fun _ h => h.elim) (fun _ _ => trivial) hb8.out hb8.out.size (by omega) ?_; intro v9 w9 hr9 hb9 hg9 hat9
           have HR9 := Aside0.mk hr9
           have HB9 := Aside0.mk hb9
           have HA9 := Aside0.mk (hA8.out.after (by decide) hV8.out hg9 hat9)
           clear hr9 hb9 hg9 hat9))
      exact ⟨⟨i + 1, by simp, by omega, HA9.out, by rw [HTF.out]; exact HR9.out, HB9.out⟩, by simp [intOf]; omega⟩
    · obtain rfl : i = 3 := by omega
      have hG := fun j (hj : j < 3) => HM.out.gs (j := j) hj
      have h40 := fun j (hj : j < 3) => (HM.out.at' j hj).2.2.2
      obtain ⟨T0, q0, b0, T1, q1, b1, T2, q2, b2, rfl, rfl, _, _, _⟩ := HM.out.three
      have g0 := hG 0 (by omega)
      have g1 := hG 1 (by omega)
      have g2 := hG 2 (by omega)
      have n0 := h40 0 (by omega)
      have n1 := h40 1 (by omega)
      have n2 := h40 2 (by omega)
      simp only [List.getD_cons_zero, List.getD_cons_succ] at g0 g1 g2 n0 n1 n2
      have hacc : (List.take 3 [b0, b1, b2]).flatten = b0 ++ (b1 ++ b2) := by simp
      generalize (List.take 3 [b0, b1, b2]).flatten = acc at *
      obtain ⟨S0, d0, x0, x1, x2, r0⟩ := hA.ar.at (j := 0) (by omega)
      obtain ⟨S1, d1, y0, y1, y2, r1⟩ := hA.ar.at (j := 1) (by omega)
      obtain ⟨S2, d2, z0, z1, z2, r2⟩ := hA.ar.at (j := 2) (by omega)
      simp only [List.getD_cons_zero, List.getD_cons_succ, Nat.zero_mul, Nat.one_mul, Nat.reduceMul, Nat.zero_add, Nat.reduceAdd] at x0 x1 x2 y0 y1 y2 z0 z1 z2 r0 r1 r2
      have HV := Aside0.mk hV
      have HBw := Aside0.mk (hB1.out.trans (hb.mono hs1))
      have R0 := Aside0.mk r0
      have R1 := Aside0.mk r1
      have R2 := Aside0.mk r2
      have hww := HBw.out.size
      have HG0 := Aside0.mk g0
      have HG1 := Aside0.mk g1
      have HG2 := Aside0.mk g2
      have hal : acc.length ≤ 120 := by rw [hacc]; simp only [List.length_append]; omega
      have HACC := Aside0.mk hacc
      clear hA hb r0 r1 r2 hT HM hG h40 hlt hi hV g0 g1 g2 n0 n1 n2 hB1 hacc
      rcases mrg2_cases hK1 HG0.out HG1.out with ⟨⟨K3, T3, q3⟩, hm3, gs3⟩ | hm3
      · obtain rfl : K3 = K := gs3.keys
        have HM3 := Aside0.mk hm3
        have HG3 := Aside0.mk gs3
        clear hm3 gs3
        go_upto_region 11 with (first
          | (go_at_call 16; refine (merge_any _ _ 2 [⟨K3, T0, q0⟩, ⟨K3, T1, q1⟩] _ (sx2g rfl R0.out R1.out) (mok2 hK1 hK8 HG0.out HG1.out) rfl).mono ?_; rw [HM3.out]; rintro e w6 ⟨A6, c6, rfl, hR6, hb6⟩
             have hw6 := Aside0.mk (((Below.refl _ wr).alloc (Nat.le_refl _) _).trans (hb6.mono (by simp)))
             replace hR6 := Aside0.mk (Kd.R_lower (base' := wr.heap.size) hR6 (by simp))
             clear hb6))
        have hX := World.alloc_heap_new w6 (.cells #[.int .i64 K3, .int .u64 T3, .slice A6 q3.length c6] 33)
        have hW1 : Below wr.heap.size wr (w6.alloc (.cells #[.int .i64 K3, .int .u64 T3, .slice A6 q3.length c6] 33)) := hw6.out.alloc hw6.out.size _
        have hRA := Kd.R_alloc hR6.out (.cells #[.int .i64 K3, .int .u64 T3, .slice A6 q3.length c6] 33)
        generalize hgAe : w6.heap.size = gA at *
        clear hgAe hw6 hR6
        generalize (w6.alloc (.cells #[.int .i64 K3, .int .u64 T3, .slice A6 q3.length c6] 33)) = W1 at *
        have k0 := blk_cell hX 0
        have k1 := blk_cell hX 1
        have k2 := blk_cell hX 2
        simp only [List.getElem?_toArray, List.getElem?_cons_zero, List.getElem?_cons_succ] at k0 k1 k2
        replace z0 := (hW1.cell (World.block_lt_of_cell? wr _ z0)).trans z0
        replace z1 := (hW1.cell (World.block_lt_of_cell? wr _ z1)).trans z1
        replace z2 := (hW1.cell (World.block_lt_of_cell? wr _ z2)).trans z2
        have hws := hW1.size
        replace hRA := Aside0.mk (Kd.R_lower (base' := w.heap.size) hRA hww)
        have R2' := Aside0.mk (Kd.R_below R2.out hW1)
        replace hW1 := Aside0.mk hW1
        clear hX x0 x1 x2 y0 y1 y2 R0 R1 R2
        rcases mrg2_cases hK1 HG2.out HG3.out with ⟨⟨K4, T4, q4⟩, hm4, gs4⟩ | hm4
        · obtain rfl : K4 = K3 := gs4.keys
          have HM4 := Aside0.mk hm4
          have HG4 := Aside0.mk gs4
          clear hm4 gs4
          go_upto_region 12 with (first
            | (go_at_call 16; refine (merge_any _ _ 2 [⟨K4, T2, q2⟩, ⟨K4, T3, q3⟩] _ (sx2g rfl R2'.out hRA.out) (mok2 hK1 hK8 HG2.out HG3.out) rfl).mono ?_; rw [HM4.out]; rintro e w8 ⟨A8, c8, rfl, hR8, hb8⟩
               have hw8 := Aside0.mk (((Below.refl _ W1).alloc (Nat.le_refl _) _).trans (hb8.mono (by simp)))
               replace hR8 := Aside0.mk (Kd.R_lower (base' := W1.heap.size) hR8 (by simp))
               clear hb8))
          have hX := World.alloc_heap_new w8 (.cells #[.int .i64 K4, .int .u64 T4, .slice A8 q4.length c8] 33)
          have hW2 : Below W1.heap.size W1 (w8.alloc (.cells #[.int .i64 K4, .int .u64 T4, .slice A8 q4.length c8] 33)) := hw8.out.alloc hw8.out.size _
          have hRC := Kd.R_alloc hR8.out (.cells #[.int .i64 K4, .int .u64 T4, .slice A8 q4.length c8] 33)
          generalize hgCe : w8.heap.size = gC at *
          clear hgCe hw8 hR8 k0 k1 k2 z0 z1 z2
          generalize (w8.alloc (.cells #[.int .i64 K4, .int .u64 T4, .slice A8 q4.length c8] 33)) = W2 at *
          have hb2 := Aside0.mk (HBw.out.trans ((hW1.out.trans (hW2.mono hws)).mono hww))
          have HV2 := Aside0.mk (Kd.R_below HV.out (hW1.out.trans (hW2.mono hws)))
          have KX := Aside0.mk (fun W (hW : Below W2.heap.size W2 W) => (show W.cell? ⟨gC, 0, none⟩ = some (.int .i64 K4) ∧ W.cell? ⟨gC, 1, none⟩ = some (.int .u64 T4) ∧ W.cell? ⟨gC, 2, none⟩ = some (.slice A8 q4.length c8) from by
            have e1 := (hW.block gC (Array.getElem?_eq_some_iff.1 hX).1).trans hX
            exact ⟨blk_cell e1 0, blk_cell e1 1, blk_cell e1 2⟩))
          have HRC := Aside0.mk hRC
          clear hX hW2 hRC hW1 hRA R2' HV HM3 HM4 HG0 HG1 HG2 HG3 HBw
          go_wp2_with (fail)
          go_loopw [15] (fun jv wr => ∃ j : Nat, jv = .int .i64 j ∧ j ≤ acc.length ∧ Below W2.heap.size W2 wr) (fun jv _ => acc.length - (intOf jv).toNat)
          case atStart => exact ⟨0, rfl, Nat.zero_le _, Below.refl _ _⟩
          case round =>
            obtain ⟨j, rfl, hj, hb⟩ := hrel
            obtain ⟨p0, p1, p2⟩ := KX.out _ hb
            by_cases hlt : j < acc.length
            · obtain ⟨ad, rfl, k0, _⟩ := at_T51 (Kd.R_reads' HV2.out).2.2 (j : Int) (by omega) (by omega)
              rw [show rd_T51 acc (j : Int) = acc.getD j z51 from rfl, Int.toNat_natCast] at k0
              obtain ⟨hpos, hsum, hreal⟩ := acc_facts HACC.out HG4.out
              have htop := HG4.out.top
              have hT0 := HG4.out.nonneg
              simp only at hsum htop hT0
              have HRe := Aside0.mk (fun W (hW : Below W2.heap.size W2 W) => (skylightref17_Real.calls 400 (some ad) cv acc (acc.getD j z51).f0 _ W (Kd.C_below (Kd.R_reads' HV2.out).2.2 hW) (Kd.R_reads' HV2.out).2.1 (real_is (by omega) hpos (by omega) (acc.getD j z51).f0)).mono fun e w' h => (⟨h.1, h.2.below⟩ : _ ∧ Below W.heap.size W w'))
              have HOf := Aside0.mk (fun W (hW : Below W2.heap.size W2 W) => heavy_Of.calls 200 K4 T4 A8 c8 q4 (acc.getD j z51).f0 _ W (Kd.C_below (Kd.R_reads' HRC.out).2.2 hW) (Kd.R_reads' HRC.out).2.1 (hOf_eq HG4.out.rise (by have := HG4.out.len; simp only at this; omega) (by omega)))
              have hrl := real_le HG4.out (acc.getD j z51).f0
              have hfi := fun h => gs_finds hK1 HG4.out (key := (acc.getD j z51).f0) h
              have hgt := gs_get HG4.out (acc.getD j z51).f0
              rw [← hreal] at hrl hfi
              simp only at hrl hfi hgt
              generalize (acc.getD j z51).f0 = zk at *
              generalize realL acc zk = r at *
              generalize getk q4 zk = g at *
              have hKp : K4 + 1 ≠ 0 := by omega
              have hdiv : Int.tdiv T4 (K4 + 1) = T4 / (K4 + 1) := Int.tdiv_eq_ediv_of_nonneg hT0
              have hd0 : 0 ≤ T4 / (K4 + 1) := Int.ediv_nonneg hT0 (by omega)
              have hd1 : T4 / (K4 + 1) ≤ T4 := Int.ediv_le_self _ hT0
              generalize T4 / (K4 + 1) = Q at *
              have ew0 : IntKind.u64.wrap K4 = K4 := by rw [IntKind.wrap_u64]; omega
              have ew1 : IntKind.u64.wrap (K4 + 1) = K4 + 1 := by rw [IntKind.wrap_u64]; omega
              have ew2 : IntKind.u64.wrap Q = Q := by rw [IntKind.wrap_u64]; omega
              have hKb : (K4 + 1 == 0) = false := beq_eq_false_iff_ne.2 hKp
              have KZ := Aside0.mk (fun W (hW : Below W2.heap.size W2 W) => (hW.cell (World.block_lt_of_cell? W2 _ k0)).trans k0)
              clear k0 hpos hsum hreal
              have k0 := KZ.out wr hb
              have hq := hb
              have i0 : (0 : Int) ≤ (j : Int) := by omega
              have i1 : (j : Int) < (acc.length : Int) := by omega
              go_upto_region 17 with (fail)
              clear hb
              go_cut [90] (fun s90 wy => s90 = .bool false ∧ Below W2.heap.size W2 wy)
              case first =>
                by_cases hgr : Q < r
                · have hg1 := hfi hgr
                  have hgb : (g == 0) = false := beq_eq_false_iff_ne.2 (by omega)
                  have hdc : decide (Q < r) = true := decide_eq_true hgr
                  go_region_held3 (fun W => (W.cell? ⟨gC, 0, none⟩ = some (.int .i64 K4) ∧ W.cell? ⟨gC, 1, none⟩ = some (.int .u64 T4) ∧ W.cell? ⟨gC, 2, none⟩ = some (.slice A8 q4.length c8)) ∧ W.cell? (ad.add (j * 2)) = some (.int .u64 zk)) (go_keep)
                    (first
                      | (go_at_call 23; refine (HRe.out _ (by repeat (first | assumption | exact Below.refl _ _ | apply below_drew1))).mono ?_; rintro e w9 ⟨rfl, hb9⟩; have hq9 : Below W2.heap.size W2 w9 := Below.trans (by repeat (first | assumption | exact Below.refl _ _ | apply below_drew1)) (hb9.mono hq.size); clear hq hb9 p0 p1 p2 k0; have hq := hq9; clear hq9; obtain ⟨p0, p1, p2⟩ := KX.out _ hq; have k0 := KZ.out _ hq)
                      | (go_at_call 24; refine (HOf.out _ (by repeat (first | assumption | exact Below.refl _ _ | apply below_drew1))).mono ?_; rintro e w9 ⟨rfl, hb9⟩; have hq9 : Below W2.heap.size W2 w9 := Below.trans (by repeat (first | assumption | exact Below.refl _ _ | apply below_drew1)) (hb9.mono hq.size); clear hq hb9 p0 p1 p2 k0; have hq := hq9; clear hq9; obtain ⟨p0, p1, p2⟩ := KX.out _ hq; have k0 := KZ.out _ hq))
                  all_goals (go_wp2_with fail)
                  go_meet
                  exact ⟨rfl, hq⟩
                · have hdc : decide (Q < r) = false := decide_eq_false hgr
                  have hle : r ≤ Q := by omega
                  refine wp_region_held_drew (S := (fun W => (W.cell? ⟨gC, 0, none⟩ = some (.int .i64 K4) ∧ W.cell? ⟨gC, 1, none⟩ = some (.int .u64 T4) ∧ W.cell? ⟨gC, 2, none⟩ = some (.slice A8 q4.length c8)) ∧ W.cell? (ad.add (j * 2)) = some (.int .u64 zk))) (by kernel_rfl) (by (try dsimp only); go_keep) (fun hHeld => ?_)
                  refine wpAnyH_take (i := 0) (oi := { dst := some 66, op := Go.Op.move (Go.Operand.tmp 7), type := 28, pos := "law.go:116", after := #[], guard := none }) (v := ?_) rfl (by kernel_rfl) (by kernel_rfl) (by kernel_rfl) (fun _ _ _ h => h) (Or.inl ⟨by rfl, ?_⟩) (by assumption) ?_
                  rotate_left 1
                  · (intro w hSw; (try dsimp only at hSw); go_simp; (try (with_reducible rfl)))
                  (try simp only [Act.put, List.setIfInBounds_toArray, List.set_cons_zero, List.set_cons_succ])
                  refine wpAnyH_take (i := 1) (oi := { dst := some 67, op := Go.Op.move (Go.Operand.tmp 7), type := 28, pos := "law.go:116", after := #[], guard := none }) (v := ?_) rfl (by kernel_rfl) (by kernel_rfl) (by kernel_rfl) (fun _ _ _ h => h) (Or.inl ⟨by rfl, ?_⟩) (by assumption) ?_
                  rotate_left 1
                  · (intro w hSw; (try dsimp only at hSw); go_simp; (try (with_reducible rfl)))
                  (try simp only [Act.put, List.setIfInBounds_toArray, List.set_cons_zero, List.set_cons_succ])
                  refine wpAnyH_take (i := 2) (oi := { dst := some 68, op := Go.Op.move (Go.Operand.tmp 15), type := 3, pos := "law.go:116", after := #[], guard := none }) (v := ?_) rfl (by kernel_rfl) (by kernel_rfl) (by kernel_rfl) (fun _ _ _ h => h) (Or.inl ⟨by rfl, ?_⟩) (by assumption) ?_
                  rotate_left 1
                  · (intro w hSw; (try dsimp only at hSw); go_simp; (try (with_reducible rfl)))
                  (try simp only [Act.put, List.setIfInBounds_toArray, List.set_cons_zero, List.set_cons_succ])
                  refine wpAnyH_take (i := 3) (oi := { dst := some 69, op := Go.Op.indexAddr 28 (Go.Operand.tmp 67) (Go.Operand.tmp 68), type := 0, pos := "law.go:116", after := #[{ on := 1, ground := Go.Ground.data }, { on := 2, ground := Go.Ground.data }], guard := none }) (v := ?_) rfl (by kernel_rfl) (by kernel_rfl) (by kernel_rfl) (fun _ _ _ h => h) (Or.inl ⟨by rfl, ?_⟩) (by assumption) ?_
                  rotate_left 1
                  · (intro w hSw; (try dsimp only at hSw); go_simp; (try (with_reducible rfl)))
                  (try simp only [Act.put, List.setIfInBounds_toArray, List.set_cons_zero, List.set_cons_succ])
                  refine wpAnyH_take (i := 4) (oi := { dst := some 70, op := Go.Op.fieldAddr 51 (Go.Operand.tmp 69) 0, type := 0, pos := "law.go:116", after := #[{ on := 3, ground := Go.Ground.data }], guard := none }) (v := ?_) rfl (by kernel_rfl) (by kernel_rfl) (by kernel_rfl) (fun _ _ _ h => h) (Or.inl ⟨by rfl, ?_⟩) (by assumption) ?_
                  rotate_left 1
                  · (intro w hSw; (try dsimp only at hSw); go_simp; (try (with_reducible rfl)))
                  (try simp only [Act.put, List.setIfInBounds_toArray, List.set_cons_zero, List.set_cons_succ])
                  refine wpAnyH_take (i := 5) (oi := { dst := some 71, op := Go.Op.load 27 (Go.Operand.tmp 70), type := 27, pos := "law.go:116", after := #[{ on := 4, ground := Go.Ground.data }], guard := none }) (v := ?_) rfl (by kernel_rfl) (by kernel_rfl) (by kernel_rfl) (fun _ _ _ h => h) (Or.inl ⟨by rfl, ?_⟩) (by assumption) ?_
                  rotate_left 1
                  · (intro w hSw; (try dsimp only at hSw); go_simp; (try (with_reducible rfl)))
                  (try simp only [Act.put, List.setIfInBounds_toArray, List.set_cons_zero, List.set_cons_succ])
                  refine wpAnyH_take (i := 7) (oi := { dst := some 73, op := Go.Op.fieldAddr 33 (Go.Operand.tmp 13) 1, type := 0, pos := "law.go:116", after := #[], guard := none }) (v := ?_) rfl (by kernel_rfl) (by kernel_rfl) (by kernel_rfl) (fun _ _ _ h => h) (Or.inl ⟨by rfl, ?_⟩) (by assumption) ?_
                  rotate_left 1
                  · (intro w hSw; (try dsimp only at hSw); go_simp; (try (with_reducible rfl)))
                  (try simp only [Act.put, List.setIfInBounds_toArray, List.set_cons_zero, List.set_cons_succ])
                  refine wpAnyH_take (i := 8) (oi := { dst := some 74, op := Go.Op.load 27 (Go.Operand.tmp 73), type := 27, pos := "law.go:116", after := #[{ on := 7, ground := Go.Ground.data }], guard := none }) (v := ?_) rfl (by kernel_rfl) (by kernel_rfl) (by kernel_rfl) (fun _ _ _ h => h) (Or.inl ⟨by rfl, ?_⟩) (by assumption) ?_
                  rotate_left 1
                  · (intro w hSw; (try dsimp only at hSw); go_simp; (try (with_reducible rfl)))
                  (try simp only [Act.put, List.setIfInBounds_toArray, List.set_cons_zero, List.set_cons_succ])
                  refine wpAnyH_take (i := 9) (oi := { dst := some 75, op := Go.Op.fieldAddr 33 (Go.Operand.tmp 13) 0, type := 0, pos := "law.go:116", after := #[], guard := none }) (v := ?_) rfl (by kernel_rfl) (by kernel_rfl) (by kernel_rfl) (fun _ _ _ h => h) (Or.inl ⟨by rfl, ?_⟩) (by assumption) ?_
                  rotate_left 1
                  · (intro w hSw; (try dsimp only at hSw); go_simp; (try (with_reducible rfl)))
                  (try simp only [Act.put, List.setIfInBounds_toArray, List.set_cons_zero, List.set_cons_succ])
                  refine wpAnyH_take (i := 10) (oi := { dst := some 76, op := Go.Op.load 3 (Go.Operand.tmp 75), type := 3, pos := "law.go:116", after := #[{ on := 9, ground := Go.Ground.data }], guard := none }) (v := ?_) rfl (by kernel_rfl) (by kernel_rfl) (by kernel_rfl) (fun _ _ _ h => h) (Or.inl ⟨by rfl, ?_⟩) (by assumption) ?_
                  rotate_left 1
                  · (intro w hSw; (try dsimp only at hSw); go_simp; (try (with_reducible rfl)))
                  (try simp only [Act.put, List.setIfInBounds_toArray, List.set_cons_zero, List.set_cons_succ])
                  refine wpAnyH_take (i := 11) (oi := { dst := some 77, op := Go.Op.convert 3 27 (Go.Operand.tmp 76), type := 27, pos := "law.go:116", after := #[{ on := 10, ground := Go.Ground.data }], guard := none }) (v := ?_) rfl (by kernel_rfl) (by kernel_rfl) (by kernel_rfl) (fun _ _ _ h => h) (Or.inl ⟨by rfl, ?_⟩) (by assumption) ?_
                  rotate_left 1
                  · (intro w hSw; (try dsimp only at hSw); go_simp; (try (with_reducible rfl)))
                  (try simp only [Act.put, List.setIfInBounds_toArray, List.set_cons_zero, List.set_cons_succ])
                  refine wpAnyH_take (i := 12) (oi := { dst := some 78, op := Go.Op.binOp Go.BinOp.add 27 (Go.Operand.tmp 77) (Go.Operand.const (Go.Value.int Go.IntKind.u64 1)) 27, type := 27, pos := "law.go:116", after := #[{ on := 11, ground := Go.Ground.data }], guard := none }) (v := ?_) rfl (by kernel_rfl) (by kernel_rfl) (by kernel_rfl) (fun _ _ _ h => h) (Or.inl ⟨by rfl, ?_⟩) (by assumption) ?_
                  rotate_left 1
                  · (intro w hSw; (try dsimp only at hSw); go_simp; (try (with_reducible rfl)))
                  (try simp only [Act.put, List.setIfInBounds_toArray, List.set_cons_zero, List.set_cons_succ])
                  refine wpAnyH_take (i := 13) (oi := { dst := some 79, op := Go.Op.binOp Go.BinOp.quo 27 (Go.Operand.tmp 74) (Go.Operand.tmp 78) 27, type := 27, pos := "law.go:116", after := #[{ on := 8, ground := Go.Ground.data }, { on := 12, ground := Go.Ground.data }], guard := none }) (v := ?_) rfl (by kernel_rfl) (by kernel_rfl) (by kernel_rfl) (fun _ _ _ h => h) (Or.inl ⟨by rfl, ?_⟩) (by assumption) ?_
                  rotate_left 1
                  · (intro w hSw; (try dsimp only at hSw); go_simp; (try (with_reducible rfl)))
                  (try simp only [Act.put, List.setIfInBounds_toArray, List.set_cons_zero, List.set_cons_succ])
                  refine wpAnyH_ready (rs := [6]) (by kernel_rfl) (by simp) ?_
                  refine AllReadyH.cons (o := { dst := some 72, op := Go.Op.call { callee := Go.Callee.value (Go.Operand.func 23), args := #[Go.Operand.tmp 66, Go.Operand.tmp 71], argTypes := #[28, 27] }, type := 27, pos := "law.go:116", after := #[{ on := 0, ground := Go.Ground.data }, { on := 5, ground := Go.Ground.data }], guard := none }) rfl (fun KK_ hKK_ => ?_) AllReadyH.nil
                  go_simp
                  (first | (go_at_call 23; refine (HRe.out _ (by repeat (first | assumption | exact Below.refl _ _ | apply below_drew1))).mono ?_; rintro e w9 ⟨rfl, hb9⟩; have hq9 : Below W2.heap.size W2 w9 := Below.trans (by repeat (first | assumption | exact Below.refl _ _ | apply below_drew1)) (hb9.mono hq.size); clear hq hb9 p0 p1 p2 k0; have hq := hq9; clear hq9; obtain ⟨p0, p1, p2⟩ := KX.out _ hq; have k0 := KZ.out _ hq) | (go_at_call 24; refine (HOf.out _ (by repeat (first | assumption | exact Below.refl _ _ | apply below_drew1))).mono ?_; rintro e w9 ⟨rfl, hb9⟩; have hq9 : Below W2.heap.size W2 w9 := Below.trans (by repeat (first | assumption | exact Below.refl _ _ | apply below_drew1)) (hb9.mono hq.size); clear hq hb9 p0 p1 p2 k0; have hq := hq9; clear hq9; obtain ⟨p0, p1, p2⟩ := KX.out _ hq; have k0 := KZ.out _ hq))
                  (try go_wp2_with fail)
                  refine hKK_.out _ _ (by (try dsimp only); go_keep) (fun hHeld => ?_)
                  clear hKK_ KK_
                  (try simp only [Act.put, List.setIfInBounds_toArray, List.set_cons_zero, List.set_cons_succ])
                  refine wpAnyH_take (i := 14) (oi := { dst := some 80, op := Go.Op.binOp Go.BinOp.gtr 27 (Go.Operand.tmp 72) (Go.Operand.tmp 79) 27, type := 4, pos := "law.go:116", after := #[{ on := 6, ground := Go.Ground.data }, { on := 13, ground := Go.Ground.data }], guard := none }) (v := ?_) rfl (by kernel_rfl) (by kernel_rfl) (by kernel_rfl) (fun _ _ _ h => h) (Or.inl ⟨by rfl, ?_⟩) (by assumption) ?_
                  rotate_left 1
                  · (intro w hSw; (try dsimp only at hSw); go_simp; (try (with_reducible rfl)))
                  (try simp only [Act.put, List.setIfInBounds_toArray, List.set_cons_zero, List.set_cons_succ])
                  refine wpAnyH_take (i := 15) (oi := { dst := some 81, op := Go.Op.move (Go.Operand.tmp 80), type := 4, pos := "law.go:116", after := #[{ on := 14, ground := Go.Ground.data }, { on := 6, ground := Go.Ground.chain }], guard := none }) (v := ?_) rfl (by kernel_rfl) (by kernel_rfl) (by kernel_rfl) (fun _ _ _ h => h) (Or.inl ⟨by rfl, ?_⟩) (by assumption) ?_
                  rotate_left 1
                  · (intro w hSw; (try dsimp only at hSw); go_simp; (try (with_reducible rfl)))
                  (try simp only [Act.put, List.setIfInBounds_toArray, List.set_cons_zero, List.set_cons_succ])
                  refine wpAnyH_take (i := 16) (oi := { dst := some 82, op := Go.Op.load 33 (Go.Operand.tmp 13), type := 33, pos := "law.go:116", after := #[{ on := 15, ground := Go.Ground.guard }], guard := some (15, true) }) (v := undef) rfl (by kernel_rfl) (by kernel_rfl) (by kernel_rfl) (fun _ _ _ h => h) (Or.inr ⟨by rfl, rfl⟩) (by assumption) ?_
                  (try simp only [Act.put, List.setIfInBounds_toArray, List.set_cons_zero, List.set_cons_succ])
                  refine wpAnyH_take (i := 17) (oi := { dst := some 83, op := Go.Op.move (Go.Operand.tmp 7), type := 28, pos := "law.go:116", after := #[{ on := 15, ground := Go.Ground.guard }], guard := some (15, true) }) (v := undef) rfl (by kernel_rfl) (by kernel_rfl) (by kernel_rfl) (fun _ _ _ h => h) (Or.inr ⟨by rfl, rfl⟩) (by assumption) ?_
                  (try simp only [Act.put, List.setIfInBounds_toArray, List.set_cons_zero, List.set_cons_succ])
                  refine wpAnyH_take (i := 18) (oi := { dst := some 84, op := Go.Op.move (Go.Operand.tmp 15), type := 3, pos := "law.go:116", after := #[{ on := 15, ground := Go.Ground.guard }], guard := some (15, true) }) (v := undef) rfl (by kernel_rfl) (by kernel_rfl) (by kernel_rfl) (fun _ _ _ h => h) (Or.inr ⟨by rfl, rfl⟩) (by assumption) ?_
                  (try simp only [Act.put, List.setIfInBounds_toArray, List.set_cons_zero, List.set_cons_succ])
                  refine wpAnyH_take (i := 19) (oi := { dst := some 85, op := Go.Op.indexAddr 28 (Go.Operand.tmp 83) (Go.Operand.tmp 84), type := 0, pos := "law.go:116", after := #[{ on := 17, ground := Go.Ground.data }, { on := 18, ground := Go.Ground.data }, { on := 15, ground := Go.Ground.guard }], guard := some (15, true) }) (v := undef) rfl (by kernel_rfl) (by kernel_rfl) (by kernel_rfl) (fun _ _ _ h => h) (Or.inr ⟨by rfl, rfl⟩) (by assumption) ?_
                  (try simp only [Act.put, List.setIfInBounds_toArray, List.set_cons_zero, List.set_cons_succ])
                  refine wpAnyH_take (i := 20) (oi := { dst := some 86, op := Go.Op.fieldAddr 51 (Go.Operand.tmp 85) 0, type := 0, pos := "law.go:116", after := #[{ on := 19, ground := Go.Ground.data }, { on := 15, ground := Go.Ground.guard }], guard := some (15, true) }) (v := undef) rfl (by kernel_rfl) (by kernel_rfl) (by kernel_rfl) (fun _ _ _ h => h) (Or.inr ⟨by rfl, rfl⟩) (by assumption) ?_
                  (try simp only [Act.put, List.setIfInBounds_toArray, List.set_cons_zero, List.set_cons_succ])
                  refine wpAnyH_take (i := 21) (oi := { dst := some 87, op := Go.Op.load 27 (Go.Operand.tmp 86), type := 27, pos := "law.go:116", after := #[{ on := 20, ground := Go.Ground.data }, { on := 15, ground := Go.Ground.guard }], guard := some (15, true) }) (v := undef) rfl (by kernel_rfl) (by kernel_rfl) (by kernel_rfl) (fun _ _ _ h => h) (Or.inr ⟨by rfl, rfl⟩) (by assumption) ?_
                  (try simp only [Act.put, List.setIfInBounds_toArray, List.set_cons_zero, List.set_cons_succ])
                  refine wpAnyH_take (i := 22) (oi := { dst := some 88, op := Go.Op.call { callee := Go.Callee.value (Go.Operand.func 24), args := #[Go.Operand.tmp 82, Go.Operand.tmp 87], argTypes := #[33, 27] }, type := 27, pos := "law.go:116", after := #[{ on := 16, ground := Go.Ground.data }, { on := 21, ground := Go.Ground.data }, { on := 15, ground := Go.Ground.chain }, { on := 15, ground := Go.Ground.guard }], guard := some (15, true) }) (v := undef) rfl (by kernel_rfl) (by kernel_rfl) (by kernel_rfl) (fun _ _ _ h => h) (Or.inr ⟨by rfl, rfl⟩) (by assumption) ?_
                  (try simp only [Act.put, List.setIfInBounds_toArray, List.set_cons_zero, List.set_cons_succ])
                  refine wpAnyH_take (i := 23) (oi := { dst := some 89, op := Go.Op.binOp Go.BinOp.eql 27 (Go.Operand.tmp 88) (Go.Operand.const (Go.Value.int Go.IntKind.u64 0)) 27, type := 4, pos := "law.go:116", after := #[{ on := 22, ground := Go.Ground.data }, { on := 15, ground := Go.Ground.guard }], guard := some (15, true) }) (v := undef) rfl (by kernel_rfl) (by kernel_rfl) (by kernel_rfl) (fun _ _ _ h => h) (Or.inr ⟨by rfl, rfl⟩) (by assumption) ?_
                  (try simp only [Act.put, List.setIfInBounds_toArray, List.set_cons_zero, List.set_cons_succ])
                  refine wpAnyH_take (i := 24) (oi := { dst := some 90, op := Go.Op.pick (Go.Operand.tmp 81) (Go.Operand.tmp 89) (Go.Operand.const (Go.Value.bool false)), type := 4, pos := "law.go:116", after := #[{ on := 15, ground := Go.Ground.data }, { on := 23, ground := Go.Ground.data }], guard := none }) (v := ?_) rfl (by kernel_rfl) (by kernel_rfl) (by kernel_rfl) (fun _ _ _ h => h) (Or.inl ⟨by rfl, ?_⟩) (by assumption) ?_
                  rotate_left 1
                  · (intro w hSw; (try dsimp only at hSw); go_simp; (try (with_reducible rfl)))
                  (try simp only [Act.put, List.setIfInBounds_toArray, List.set_cons_zero, List.set_cons_succ])
                  refine wpAnyH_done (by kernel_rfl) ?_ _
                  all_goals (go_wp2_with fail)
                  go_meet
                  exact ⟨rfl, hq⟩
              case rest =>
                clear p0 p1 p2 k0 hq
                obtain ⟨rfl, hq⟩ := hcut
                go_wp2
                exact ⟨⟨j + 1, by simp, by omega, hq⟩, by simp [intOf]; omega⟩
            · obtain rfl : j = acc.length := by omega
              have hle : (q4.length : Int) ≤ K4 := HG4.out.len
              go_wp2
              all_goals (go_ret; exact ⟨rfl, hb2.out.trans (hb.mono hb2.out.size)⟩)
        · have HM4 := Aside0.mk hm4
          clear hm4
          go_wp2_with (first
            | (go_at_call 16; refine (merge_any _ _ 2 [⟨K3, T2, q2⟩, ⟨K3, T3, q3⟩] _ (sx2g rfl R2'.out hRA.out) (mok2 hK1 hK8 HG2.out HG3.out) rfl).mono ?_; rw [HM4.out]; rintro e w8 ⟨A8, c8, rfl, hR8, hb8⟩
               have hw8 := Aside0.mk (((Below.refl _ W1).alloc (Nat.le_refl _) _).trans (hb8.mono (by simp)))
               clear hb8 hR8))
          go_ret
          exact ⟨rfl, HBw.out.trans ((hW1.out.trans ((hw8.out.alloc hw8.out.size _).mono hws)).mono hww)⟩
      · have HM3 : Aside0 (mrg [⟨K, T0, q0⟩, ⟨K, T1, q1⟩] = (⟨0, 0, []⟩, 5)) := ⟨hm3⟩
        clear hm3
        go_upto_region 11 with (first
          | (go_at_call 16; refine (merge_any _ _ 2 [⟨K, T0, q0⟩, ⟨K, T1, q1⟩] _ (sx2g rfl R0.out R1.out) (mok2 hK1 hK8 HG0.out HG1.out) rfl).mono ?_; rw [HM3.out]; rintro e w6 ⟨A6, c6, rfl, hR6, hb6⟩
             have hw6 := Aside0.mk (((Below.refl _ wr).alloc (Nat.le_refl _) _).trans (hb6.mono (by simp)))
             replace hR6 := Aside0.mk (Kd.R_lower (base' := wr.heap.size) hR6 (by simp))
             clear hb6))
        have hX := World.alloc_heap_new w6 (.cells #[.int .i64 0, .int .u64 0, .slice A6 0 c6] 33)
        have hW1 : Below wr.heap.size wr (w6.alloc (.cells #[.int .i64 0, .int .u64 0, .slice A6 0 c6] 33)) := hw6.out.alloc hw6.out.size _
        have hRA := Kd.R_alloc hR6.out (.cells #[.int .i64 0, .int .u64 0, .slice A6 0 c6] 33)
        generalize hgAe : w6.heap.size = gA at *
        clear hgAe hw6 hR6
        generalize (w6.alloc (.cells #[.int .i64 0, .int .u64 0, .slice A6 0 c6] 33)) = W1 at *
        have k0 := blk_cell hX 0
        have k1 := blk_cell hX 1
        have k2 := blk_cell hX 2
        simp only [List.getElem?_toArray, List.getElem?_cons_zero, List.getElem?_cons_succ] at k0 k1 k2
        replace z0 := (hW1.cell (World.block_lt_of_cell? wr _ z0)).trans z0
        replace z1 := (hW1.cell (World.block_lt_of_cell? wr _ z1)).trans z1
        replace z2 := (hW1.cell (World.block_lt_of_cell? wr _ z2)).trans z2
        have hws := hW1.size
        replace hRA := Aside0.mk (Kd.R_lower (base' := w.heap.size) hRA hww)
        have R2' := Aside0.mk (Kd.R_below R2.out hW1)
        replace hW1 := Aside0.mk hW1
        clear hX x0 x1 x2 y0 y1 y2 R0 R1 R2
        have hmz : MOk [⟨K, T2, q2⟩, ⟨0, 0, []⟩] := mok_z hK1 hK8 HG2.out
        have HMZ := Aside0.mk hmz
        clear hmz
        generalize hmr : mrg [⟨K, T2, q2⟩, ⟨0, 0, []⟩] = mr
        obtain ⟨⟨mK, mT, ml⟩, me⟩ := mr
        replace hmr := Aside0.mk hmr
        go_wp2_with (first
          | (go_at_call 16; refine (merge_any _ _ 2 [⟨K, T2, q2⟩, ⟨0, 0, []⟩] _ (sx2g (q1 := []) rfl R2'.out hRA.out) HMZ.out rfl).mono ?_; rw [hmr.out]; rintro e w8 ⟨A8, c8, rfl, hR8, hb8⟩
             have hw8 := Aside0.mk (((Below.refl _ W1).alloc (Nat.le_refl _) _).trans (hb8.mono (by simp)))
             clear hb8 hR8))
        go_ret
        exact ⟨rfl, HBw.out.trans ((hW1.out.trans ((hw8.out.alloc hw8.out.size _).mono hws)).mono hww)⟩
end Go.Proofs.Ytohginlodlijkaa.PH
