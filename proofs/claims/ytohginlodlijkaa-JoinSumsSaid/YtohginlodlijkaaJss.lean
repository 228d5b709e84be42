/- The walk of JoinSums. -/
import Derived.Deep.RegionHeld3
import Derived.Deep.DrawnRows
import Derived.Deep.DeepCutAuto
import Derived.Test.YtohginlodlijkaaJpx
import Derived.Test.YtohginlodlijkaaJmx
namespace Go.Proofs.Ytohginlodlijkaa.PH
open Go.RowKit Go.Proofs.YtohginlodlijkaaW.PrintWords Go.Proofs.YtohginlodlijkaaW.PrintLast Go.Proofs.YtohginlodlijkaaW.PrintMore
set_option maxHeartbeats 8000000 in
set_option maxRecDepth 100000 in
theorem joinSums_true (a0 : Int) (A0 A1 A2 : Option Addr) (c0 c1 c2 : Nat) (l0 l1 l2 : List S51) (w : World) (hC0 : Kd.C k51 w A0 l0.length l0) (hC1 : Kd.C k51 w A1 l1.length l1) (hC2 : Kd.C k51 w A2 l2.length l2) (hc0 : l0.length ≤ c0) (hc1 : l1.length ≤ c1) (hc2 : l2.length ≤ c2)
    (hl : ∀ l ∈ [l0, l1, l2], ∀ t ∈ l, 0 ≤ t.f0 ∧ 0 ≤ t.f1 ∧ t.f1 < 18446744073709551616) :
    Calls Try.prog 6 #[.int .i64 a0, .agg #[.slice A0 l0.length c0, .slice A1 l1.length c1, .slice A2 l2.length c2]] w fun e w' => e = .returned (.bool true) ∧ Below w.heap.size w w' := by
  obtain ⟨sms, als, hM⟩ := made_all a0 [l0, l1, l2] hl
  obtain ⟨hK1, hK8⟩ := keys_range a0
  generalize 1 + (mx a0 0) % 8 = K at *
  have HB0 := (Below.refl _ w).alloc (Nat.le_refl _) (.cells #[.slice A0 l0.length c0, .slice A1 l1.length c1, .slice A2 l2.length c2] 45)
  have HT := Aside0.mk (hM.tri (W0 := w.alloc (.cells #[.slice A0 l0.length c0, .slice A1 l1.length c1, .slice A2 l2.length c2] 45)) (World.alloc_heap_new w _) (fun i hi => by
    have hi3 : i < 3 := hi
    rcases (show i = 0 ∨ i = 1 ∨ i = 2 by omega) with rfl | rfl | rfl
    · exact ⟨A0, c0, rfl, hc0, Kd.C_below hC0 HB0⟩
    · exact ⟨A1, c1, rfl, hc1, Kd.C_below hC1 HB0⟩
    · exact ⟨A2, c2, rfl, hc2, Kd.C_below hC2 HB0⟩))
  replace HB0 := Aside0.mk HB0
  have HM := Aside0.mk hM
  clear hM hC0 hC1 hC2 hc0 hc1 hc2 hl
  go_enter Try.func6, Try.ntmps6
  go_wp2_with (first
    | (go_at_call 13; refine (awake18_true _).mono ?_; rintro e w1 ⟨rfl, hb1⟩; have HB1 := Aside0.mk hb1; clear hb1))
  have hT : ∀ W, Below w1.heap.size w1 W → Tri a0 K w.heap.size 3 sms als W := fun W hW => (HT.out.below HB1.out).below hW
  have hB1 : Below w.heap.size w w1 := HB0.out.trans (HB1.out.mono (by simp))
  have hs1 := hB1.size
  replace hT := Aside0.mk hT
  replace hB1 := Aside0.mk hB1
  clear HT HB0 HB1
  go_loopw [7] (fun iv wr => ∃ i : Nat, iv = .int .i64 i ∧ i ≤ 3 ∧ AR w w1.heap.size 3 46 sms i wr ∧ Below w1.heap.size w1 wr) (fun iv _ => 3 - (intOf iv).toNat)
  case atStart =>
    refine ⟨0, rfl, by omega, ⟨_, World.alloc_heap_new w1 _, rfl, fun j hj => by omega⟩, (Below.refl _ w1).alloc (Nat.le_refl _) _⟩
  case round =>
    obtain ⟨i, rfl, hi, hA, hb⟩ := hrel
    by_cases hlt : i < 3
    · obtain ⟨Aa, m, ca, hcell, hcall⟩ := hT.out wr hb i hlt
      have HA := Aside0.mk hA
      have HB := Aside0.mk hb
      have HCELL := Aside0.mk hcell
      have hsb := hb.size
      have hgl := hA.lt
      obtain ⟨mk, m1, m2, m3⟩ := HM.out.at' i hlt
      have hsm : ∃ sT sl, sms.getD i zSm = ⟨K, sT, sl⟩ := ⟨_, _, by rw [← mk]⟩
      obtain ⟨sT, sl, hsm⟩ := hsm
      rw [hsm] at hcall
      have HCALL := Aside0.mk hcall
      have HSM := Aside0.mk hsm
      clear hA hb hcall m1 m2 m3 mk hsm
      go_upto_region 7 with (first
        | (go_at_call 14; refine (HCALL.out _ (Below.refl _ _)).mono ?_; rintro e w5 ⟨A3, c3, A4, c4, rfl, hR3, hR4, hb3⟩
           have HR3 := Aside0.mk hR3
           have HB3 := Aside0.mk hb3
           have n0 : (w5.alloc (.cells #[.int .i64 K, .int .u64 sT, .slice A3 sl.length c3] 30)).cell? ⟨w5.heap.size, 0, none⟩ = some (.int .i64 K) := blk_cell (World.alloc_heap_new w5 _) 0
           clear hR3 hb3 hR4))
      have hb5 : Below wr.heap.size wr (w5.alloc (.cells #[.int .i64 K, .int .u64 sT, .slice A3 sl.length c3] 30)) := HB3.out.alloc HB3.out.size _
      have HR5 := Aside0.mk (Kd.R_alloc HR3.out (.cells #[.int .i64 K, .int .u64 sT, .slice A3 sl.length c3] 30))
      replace hb5 := Aside0.mk hb5
      have hn1 := blk_cell (World.alloc_heap_new w5 (.cells #[.int .i64 K, .int .u64 sT, .slice A3 sl.length c3] 30)) 1
      have hn2 := blk_cell (World.alloc_heap_new w5 (.cells #[.int .i64 K, .int .u64 sT, .slice A3 sl.length c3] 30)) 2
      simp only [List.getElem?_toArray, List.getElem?_cons_zero, List.getElem?_cons_succ] at hn1 hn2
      generalize (w5.alloc (.cells #[.int .i64 K, .int .u64 sT, .slice A3 sl.length c3] 30)) = w6 at *
      go_wp2_with (first
        | (go_at_call 15; refine (made18 _ _ _ _ _ _).mono ?_; rintro e w7 ⟨rfl, hb7⟩
           have hA7 := (HA.out.below hb5.out).below hb7
           obtain ⟨v0, o0⟩ := hA7.old (j := i * 3) (by omega)
           obtain ⟨v1, o1⟩ := hA7.old (j := i * 3 + 1) (by omega)
           obtain ⟨v2, o2⟩ := hA7.old (j := i * 3 + 2) (by omega)
           have g0 := hA7.frozen (i * 3)
           have g1 := hA7.frozen (i * 3 + 1)
           have g2 := hA7.frozen (i * 3 + 2)
           have HA7 := Aside0.mk hA7
           have HB7 := Aside0.mk hb7
           clear hA7 hb7))
      have hw7 : Below wr.heap.size wr w7 := hb5.out.trans (HB7.out.mono hb5.out.size)
      have h1 := HA7.out.step hlt (by decide) HSM.out (Kd.R_below (Kd.R_lower HR5.out (by omega)) HB7.out)
      have h2 : Below w1.heap.size w1 w7 := HB.out.trans (hw7.mono hsb)
      refine ⟨⟨i + 1, by simp, by omega, ?_, ?_⟩, ?_⟩
      · exact h1
      · exact ((h2.setCell (p := ⟨w1.heap.size, i * 3, none⟩) (Nat.le_refl _) _).setCell (p := ⟨w1.heap.size, i * 3 + 1, none⟩) (Nat.le_refl _) _).setCell (p := ⟨w1.heap.size, i * 3 + 2, none⟩) (Nat.le_refl _) _
      · simp [intOf]; omega
    · obtain rfl : i = 3 := by omega
      obtain ⟨T0, q0, b0, T1, q1, b1, T2, q2, b2, rfl, rfl, hm0, hm1, hm2⟩ := HM.out.three
      obtain ⟨S0, d0, x0, x1, x2, r0⟩ := hA.at (j := 0) (by omega)
      obtain ⟨S1, d1, y0, y1, y2, r1⟩ := hA.at (j := 1) (by omega)
      obtain ⟨S2, d2, z0, z1, z2, r2⟩ := hA.at (j := 2) (by omega)
      simp only [List.getD_cons_zero, List.getD_cons_succ, Nat.zero_mul, Nat.one_mul, Nat.reduceMul, Nat.zero_add, Nat.reduceAdd] at x0 x1 x2 y0 y1 y2 z0 z1 z2 r0 r1 r2
      have HSUM := Aside0.mk (sum3_of hK1 hm0.1 hm1.1 hm2.1)
      have HQ := Aside0.mk (⟨hm0, hm1, hm2⟩ : _ ∧ _ ∧ _)
      have HA := Aside0.mk hA
      have HB := Aside0.mk hb
      have R0 := Aside0.mk r0
      have R1 := Aside0.mk r1
      have R2 := Aside0.mk r2
      clear hm0 hm1 hm2 hA hb r0 r1 r2 hT HM
      have hlen : q0.length ≤ 8 ∧ q1.length ≤ 8 ∧ q2.length ≤ 8 := ⟨by have := HQ.out.1.1.len; omega, by have := HQ.out.2.1.1.len; omega, by have := HQ.out.2.2.1.len; omega⟩
      go_upto_region 9 with (first
        | (go_at_call 20; refine (sums3_call (sx3 R0.out R1.out R2.out) HSUM.out hK8 hlen.1 hlen.2.1 hlen.2.2).mono ?_; rintro e w6 ⟨A6, c6, rfl, hR6, hb6⟩))
      have HB6 := Aside0.mk (((Below.refl _ wr).alloc (Nat.le_refl _) _).trans (hb6.mono (by simp)))
      have R6 := Aside0.mk hR6
      have KQ := Aside0.mk (fun W (hW : Below w6.heap.size w6 W) => (show (W.cell? ⟨w1.heap.size, 0, none⟩ = some (.int .i64 K) ∧ W.cell? ⟨w1.heap.size, 1, none⟩ = some (.int .u64 T0) ∧ W.cell? ⟨w1.heap.size, 2, none⟩ = some (.slice S0 q0.length d0)) ∧ (W.cell? ⟨w1.heap.size, 3, none⟩ = some (.int .i64 K) ∧ W.cell? ⟨w1.heap.size, 4, none⟩ = some (.int .u64 T1) ∧ W.cell? ⟨w1.heap.size, 5, none⟩ = some (.slice S1 q1.length d1)) ∧ (W.cell? ⟨w1.heap.size, 6, none⟩ = some (.int .i64 K) ∧ W.cell? ⟨w1.heap.size, 7, none⟩ = some (.int .u64 T2) ∧ W.cell? ⟨w1.heap.size, 8, none⟩ = some (.slice S2 q2.length d2)) from by
        have kk : ∀ {p : Addr} {v : Value}, wr.cell? p = some v → W.cell? p = some v := fun h => ((HB6.out.trans (hW.mono HB6.out.size)).cell (World.block_lt_of_cell? wr _ h)).trans h
        exact ⟨⟨kk x0, kk x1, kk x2⟩, ⟨kk y0, kk y1, kk y2⟩, ⟨kk z0, kk z1, kk z2⟩⟩))
      clear x0 x1 x2 y0 y1 y2 z0 z1 z2 hR6 hb6
      generalize mergeL [] (q0 ++ (q1 ++ q2)) = mm at *
      have HA6 := Aside0.mk (HA.out.below HB6.out)
      have r0 := Aside0.mk (Kd.R_below R0.out HB6.out)
      have r1 := Aside0.mk (Kd.R_below R1.out HB6.out)
      have r2 := Aside0.mk (Kd.R_below R2.out HB6.out)
      have hB6 := Aside0.mk (hB1.out.trans ((HB.out.trans (HB6.out.mono HB.out.size)).mono hs1))
      clear HA HB HB6 R0 R1 R2 hB1 hs1 hi hlt
      have hml := HSUM.out.le
      go_wp2_with (fail)
      go_loopw [11, 12] (fun nv jv wr => ∃ j : Nat, nv = .int .i64 j ∧ jv = .int .i64 j ∧ j ≤ mm.length ∧ Below w6.heap.size w6 wr) (fun _ jv _ => mm.length - (intOf jv).toNat)
      case atStart => exact ⟨0, rfl, rfl, Nat.zero_le _, Below.refl _ _⟩
      case round =>
        obtain ⟨j, rfl, rfl, hj, hb⟩ := hrel
        have hB := Aside0.mk hb
        by_cases hlt : j < mm.length
        · obtain ⟨ad, rfl, k0, k1⟩ := at_T51 (Kd.R_reads' R6.out).2.2 (j : Int) (by omega) (by omega)
          rw [show rd_T51 mm (j : Int) = mm.getD j z51 from rfl, Int.toNat_natCast] at k0 k1
          obtain ⟨hz, hz1, hz2, hz3, hz4⟩ := HSUM.out.cnt _ (getD_mem hlt)
          obtain ⟨⟨ha0, hb0, hc0⟩, hs0⟩ := HSUM.out.get (mm.getD j z51).f0
          have H0 := Aside0.mk (fun W (hW : Below w6.heap.size w6 W) => heavy_Of.calls 200 K T0 S0 d0 q0 (mm.getD j z51).f0 _ W (Kd.C_below (Kd.R_reads' r0.out).2.2 hW) (Kd.R_reads' r0.out).2.1 (hOf_eq HQ.out.1.1.ok.1 (by omega) (by omega)))
          have H1 := Aside0.mk (fun W (hW : Below w6.heap.size w6 W) => heavy_Of.calls 200 K T1 S1 d1 q1 (mm.getD j z51).f0 _ W (Kd.C_below (Kd.R_reads' r1.out).2.2 hW) (Kd.R_reads' r1.out).2.1 (hOf_eq HQ.out.2.1.1.ok.1 (by omega) (by omega)))
          have H2 := Aside0.mk (fun W (hW : Below w6.heap.size w6 W) => heavy_Of.calls 200 K T2 S2 d2 q2 (mm.getD j z51).f0 _ W (Kd.C_below (Kd.R_reads' r2.out).2.2 hW) (Kd.R_reads' r2.out).2.1 (hOf_eq HQ.out.2.2.1.ok.1 (by omega) (by omega)))
          generalize getk q0 (mm.getD j z51).f0 = ga at *
          generalize getk q1 (mm.getD j z51).f0 = gb at *
          generalize getk q2 (mm.getD j z51).f0 = gc at *
          rcases j with _ | j
          · rw [Nat.zero_mul, add0] at k0 k1
            generalize mm.getD 0 z51 = z at *
            obtain ⟨zk, zc⟩ := z
            simp only at hz hz1 hz2 hz3 hz4 k0 k1 H0 H1 H2
            subst hz
            have KP := Aside0.mk (fun W (hW : Below w6.heap.size w6 W) => And.intro ((hW.cell (World.block_lt_of_cell? w6 _ k0)).trans k0) ((hW.cell (World.block_lt_of_cell? w6 _ k1)).trans k1))
            clear k0 k1
            obtain ⟨⟨x0, x1, x2⟩, ⟨y0, y1, y2⟩, ⟨z0, z1, z2⟩⟩ := KQ.out wr hb
            obtain ⟨k0, k1⟩ := KP.out wr hb
            have hq := hb
            have u0 : IntKind.u64.wrap (ga + gb) = ga + gb := by rw [IntKind.wrap_u64]; omega
            have u1 : IntKind.u64.wrap (ga + gb + gc) = ga + gb + gc := by rw [IntKind.wrap_u64]; omega
            have u2 : (ga + gb + gc == 0) = false := beq_eq_false_iff_ne.2 (by omega)
            have e3 : (0 : Int) < (mm.length : Int) := by omega
            go_upto_region 13 with (fail)
            clear hb
            go_cut [101] (fun s101 wy => s101 = .bool false ∧ Below w6.heap.size w6 wy)
            case first =>
              refine wp_region_held_drew (S := (fun w' => (w'.cell? ⟨w1.heap.size, 0, none⟩ = some (.int .i64 K) ∧ w'.cell? ⟨w1.heap.size, 1, none⟩ = some (.int .u64 T0) ∧ w'.cell? ⟨w1.heap.size, 2, none⟩ = some (.slice S0 q0.length d0)) ∧ (w'.cell? ⟨w1.heap.size, 3, none⟩ = some (.int .i64 K) ∧ w'.cell? ⟨w1.heap.size, 4, none⟩ = some (.int .u64 T1) ∧ w'.cell? ⟨w1.heap.size, 5, none⟩ = some (.slice S1 q1.length d1)) ∧ (w'.cell? ⟨w1.heap.size, 6, none⟩ = some (.int .i64 K) ∧ w'.cell? ⟨w1.heap.size, 7, none⟩ = some (.int .u64 T2) ∧ w'.cell? ⟨w1.heap.size, 8, none⟩ = some (.slice S2 q2.length d2)) ∧ w'.cell? ad = some (.int .u64 zk) ∧ w'.cell? ⟨ad.block, ad.off + 1, none⟩ = some (.int .u64 (ga + gb + gc)))) (by kernel_rfl) (by (try dsimp only); go_keep) (fun hHeld => ?_)
              refine wpAnyH_take (i := 0) (oi := { dst := some 44, op := Go.Op.move (Go.Operand.tmp 12), type := 3, pos := "law.go:134", after := #[], guard := none }) (v := ?_) rfl (by kernel_rfl) (by kernel_rfl) (by kernel_rfl) (fun _ _ _ h => h) (Or.inl ⟨by rfl, ?_⟩) (by assumption) ?_
              rotate_left 1
              · (intro w hSw; (try dsimp only at hSw); go_simp; (try (with_reducible rfl)))
              (try simp only [Act.put, List.setIfInBounds_toArray, List.set_cons_zero, List.set_cons_succ])
              refine wpAnyH_take (i := 1) (oi := { dst := some 45, op := Go.Op.binOp Go.BinOp.gtr 3 (Go.Operand.tmp 44) (Go.Operand.const (Go.Value.int Go.IntKind.i64 0)) 3, type := 4, pos := "law.go:134", after := #[{ on := 0, ground := Go.Ground.data }], guard := none }) (v := ?_) rfl (by kernel_rfl) (by kernel_rfl) (by kernel_rfl) (fun _ _ _ h => h) (Or.inl ⟨by rfl, ?_⟩) (by assumption) ?_
              rotate_left 1
              · (intro w hSw; (try dsimp only at hSw); go_simp; (try (with_reducible rfl)))
              (try simp only [Act.put, List.setIfInBounds_toArray, List.set_cons_zero, List.set_cons_succ])
              refine wpAnyH_take (i := 2) (oi := { dst := some 46, op := Go.Op.move (Go.Operand.tmp 45), type := 4, pos := "law.go:134", after := #[{ on := 1, ground := Go.Ground.data }], guard := none }) (v := ?_) rfl (by kernel_rfl) (by kernel_rfl) (by kernel_rfl) (fun _ _ _ h => h) (Or.inl ⟨by rfl, ?_⟩) (by assumption) ?_
              rotate_left 1
              · (intro w hSw; (try dsimp only at hSw); go_simp; (try (with_reducible rfl)))
              (try simp only [Act.put, List.setIfInBounds_toArray, List.set_cons_zero, List.set_cons_succ])
              refine wpAnyH_take (i := 3) (oi := { dst := some 47, op := Go.Op.move (Go.Operand.tmp 10), type := 28, pos := "law.go:134", after := #[{ on := 2, ground := Go.Ground.guard }], guard := some (2, true) }) (v := undef) rfl (by kernel_rfl) (by kernel_rfl) (by kernel_rfl) (fun _ _ _ h => h) (Or.inr ⟨by rfl, rfl⟩) (by assumption) ?_
              (try simp only [Act.put, List.setIfInBounds_toArray, List.set_cons_zero, List.set_cons_succ])
              refine wpAnyH_take (i := 4) (oi := { dst := some 48, op := Go.Op.move (Go.Operand.tmp 12), type := 3, pos := "law.go:134", after := #[{ on := 2, ground := Go.Ground.guard }], guard := some (2, true) }) (v := undef) rfl (by kernel_rfl) (by kernel_rfl) (by kernel_rfl) (fun _ _ _ h => h) (Or.inr ⟨by rfl, rfl⟩) (by assumption) ?_
              (try simp only [Act.put, List.setIfInBounds_toArray, List.set_cons_zero, List.set_cons_succ])
              refine wpAnyH_take (i := 5) (oi := { dst := some 49, op := Go.Op.indexAddr 28 (Go.Operand.tmp 47) (Go.Operand.tmp 48), type := 0, pos := "law.go:134", after := #[{ on := 3, ground := Go.Ground.data }, { on := 4, ground := Go.Ground.data }, { on := 2, ground := Go.Ground.guard }], guard := some (2, true) }) (v := undef) rfl (by kernel_rfl) (by kernel_rfl) (by kernel_rfl) (fun _ _ _ h => h) (Or.inr ⟨by rfl, rfl⟩) (by assumption) ?_
              (try simp only [Act.put, List.setIfInBounds_toArray, List.set_cons_zero, List.set_cons_succ])
              refine wpAnyH_take (i := 6) (oi := { dst := some 50, op := Go.Op.fieldAddr 51 (Go.Operand.tmp 49) 0, type := 0, pos := "law.go:134", after := #[{ on := 5, ground := Go.Ground.data }, { on := 2, ground := Go.Ground.guard }], guard := some (2, true) }) (v := undef) rfl (by kernel_rfl) (by kernel_rfl) (by kernel_rfl) (fun _ _ _ h => h) (Or.inr ⟨by rfl, rfl⟩) (by assumption) ?_
              (try simp only [Act.put, List.setIfInBounds_toArray, List.set_cons_zero, List.set_cons_succ])
              refine wpAnyH_take (i := 7) (oi := { dst := some 51, op := Go.Op.load 27 (Go.Operand.tmp 50), type := 27, pos := "law.go:134", after := #[{ on := 6, ground := Go.Ground.data }, { on := 2, ground := Go.Ground.guard }], guard := some (2, true) }) (v := undef) rfl (by kernel_rfl) (by kernel_rfl) (by kernel_rfl) (fun _ _ _ h => h) (Or.inr ⟨by rfl, rfl⟩) (by assumption) ?_
              (try simp only [Act.put, List.setIfInBounds_toArray, List.set_cons_zero, List.set_cons_succ])
              refine wpAnyH_take (i := 8) (oi := { dst := some 52, op := Go.Op.move (Go.Operand.tmp 10), type := 28, pos := "law.go:134", after := #[{ on := 2, ground := Go.Ground.guard }], guard := some (2, true) }) (v := undef) rfl (by kernel_rfl) (by kernel_rfl) (by kernel_rfl) (fun _ _ _ h => h) (Or.inr ⟨by rfl, rfl⟩) (by assumption) ?_
              (try simp only [Act.put, List.setIfInBounds_toArray, List.set_cons_zero, List.set_cons_succ])
              refine wpAnyH_take (i := 9) (oi := { dst := some 53, op := Go.Op.move (Go.Operand.tmp 12), type := 3, pos := "law.go:134", after := #[{ on := 2, ground := Go.Ground.guard }], guard := some (2, true) }) (v := undef) rfl (by kernel_rfl) (by kernel_rfl) (by kernel_rfl) (fun _ _ _ h => h) (Or.inr ⟨by rfl, rfl⟩) (by assumption) ?_
              (try simp only [Act.put, List.setIfInBounds_toArray, List.set_cons_zero, List.set_cons_succ])
              refine wpAnyH_take (i := 10) (oi := { dst := some 54, op := Go.Op.binOp Go.BinOp.sub 3 (Go.Operand.tmp 53) (Go.Operand.const (Go.Value.int Go.IntKind.i64 1)) 3, type := 3, pos := "law.go:134", after := #[{ on := 9, ground := Go.Ground.data }, { on := 2, ground := Go.Ground.guard }], guard := some (2, true) }) (v := undef) rfl (by kernel_rfl) (by kernel_rfl) (by kernel_rfl) (fun _ _ _ h => h) (Or.inr ⟨by rfl, rfl⟩) (by assumption) ?_
              (try simp only [Act.put, List.setIfInBounds_toArray, List.set_cons_zero, List.set_cons_succ])
              refine wpAnyH_take (i := 11) (oi := { dst := some 55, op := Go.Op.indexAddr 28 (Go.Operand.tmp 52) (Go.Operand.tmp 54), type := 0, pos := "law.go:134", after := #[{ on := 8, ground := Go.Ground.data }, { on := 10, ground := Go.Ground.data }, { on := 2, ground := Go.Ground.guard }], guard := some (2, true) }) (v := undef) rfl (by kernel_rfl) (by kernel_rfl) (by kernel_rfl) (fun _ _ _ h => h) (Or.inr ⟨by rfl, rfl⟩) (by assumption) ?_
              (try simp only [Act.put, List.setIfInBounds_toArray, List.set_cons_zero, List.set_cons_succ])
              refine wpAnyH_take (i := 12) (oi := { dst := some 56, op := Go.Op.fieldAddr 51 (Go.Operand.tmp 55) 0, type := 0, pos := "law.go:134", after := #[{ on := 11, ground := Go.Ground.data }, { on := 2, ground := Go.Ground.guard }], guard := some (2, true) }) (v := undef) rfl (by kernel_rfl) (by kernel_rfl) (by kernel_rfl) (fun _ _ _ h => h) (Or.inr ⟨by rfl, rfl⟩) (by assumption) ?_
              (try simp only [Act.put, List.setIfInBounds_toArray, List.set_cons_zero, List.set_cons_succ])
              refine wpAnyH_take (i := 13) (oi := { dst := some 57, op := Go.Op.load 27 (Go.Operand.tmp 56), type := 27, pos := "law.go:134", after := #[{ on := 12, ground := Go.Ground.data }, { on := 2, ground := Go.Ground.guard }], guard := some (2, true) }) (v := undef) rfl (by kernel_rfl) (by kernel_rfl) (by kernel_rfl) (fun _ _ _ h => h) (Or.inr ⟨by rfl, rfl⟩) (by assumption) ?_
              (try simp only [Act.put, List.setIfInBounds_toArray, List.set_cons_zero, List.set_cons_succ])
              refine wpAnyH_take (i := 14) (oi := { dst := some 58, op := Go.Op.binOp Go.BinOp.leq 27 (Go.Operand.tmp 51) (Go.Operand.tmp 57) 27, type := 4, pos := "law.go:134", after := #[{ on := 7, ground := Go.Ground.data }, { on := 13, ground := Go.Ground.data }, { on := 2, ground := Go.Ground.guard }], guard := some (2, true) }) (v := undef) rfl (by kernel_rfl) (by kernel_rfl) (by kernel_rfl) (fun _ _ _ h => h) (Or.inr ⟨by rfl, rfl⟩) (by assumption) ?_
              (try simp only [Act.put, List.setIfInBounds_toArray, List.set_cons_zero, List.set_cons_succ])
              refine wpAnyH_take (i := 15) (oi := { dst := some 59, op := Go.Op.pick (Go.Operand.tmp 46) (Go.Operand.tmp 58) (Go.Operand.const (Go.Value.bool false)), type := 4, pos := "law.go:134", after := #[{ on := 2, ground := Go.Ground.data }, { on := 14, ground := Go.Ground.data }], guard := none }) (v := ?_) rfl (by kernel_rfl) (by kernel_rfl) (by kernel_rfl) (fun _ _ _ h => h) (Or.inl ⟨by rfl, ?_⟩) (by assumption) ?_
              rotate_left 1
              · (intro w hSw; (try dsimp only at hSw); go_simp; (try (with_reducible rfl)))
              (try simp only [Act.put, List.setIfInBounds_toArray, List.set_cons_zero, List.set_cons_succ])
              refine wpAnyH_take (i := 16) (oi := { dst := some 60, op := Go.Op.move (Go.Operand.tmp 59), type := 4, pos := "law.go:134", after := #[{ on := 15, ground := Go.Ground.data }, { on := 2, ground := Go.Ground.chain }], guard := none }) (v := ?_) rfl (by kernel_rfl) (by kernel_rfl) (by kernel_rfl) (fun _ _ _ h => h) (Or.inl ⟨by rfl, ?_⟩) (by assumption) ?_
              rotate_left 1
              · (intro w hSw; (try dsimp only at hSw); go_simp; (try (with_reducible rfl)))
              (try simp only [Act.put, List.setIfInBounds_toArray, List.set_cons_zero, List.set_cons_succ])
              refine wpAnyH_take (i := 17) (oi := { dst := some 61, op := Go.Op.move (Go.Operand.tmp 10), type := 28, pos := "law.go:134", after := #[{ on := 16, ground := Go.Ground.guard }], guard := some (16, false) }) (v := ?_) rfl (by kernel_rfl) (by kernel_rfl) (by kernel_rfl) (fun _ _ _ h => h) (Or.inl ⟨by rfl, ?_⟩) (by assumption) ?_
              rotate_left 1
              · (intro w hSw; (try dsimp only at hSw); go_simp; (try (with_reducible rfl)))
              (try simp only [Act.put, List.setIfInBounds_toArray, List.set_cons_zero, List.set_cons_succ])
              refine wpAnyH_take (i := 18) (oi := { dst := some 62, op := Go.Op.move (Go.Operand.tmp 12), type := 3, pos := "law.go:134", after := #[{ on := 16, ground := Go.Ground.guard }], guard := some (16, false) }) (v := ?_) rfl (by kernel_rfl) (by kernel_rfl) (by kernel_rfl) (fun _ _ _ h => h) (Or.inl ⟨by rfl, ?_⟩) (by assumption) ?_
              rotate_left 1
              · (intro w hSw; (try dsimp only at hSw); go_simp; (try (with_reducible rfl)))
              (try simp only [Act.put, List.setIfInBounds_toArray, List.set_cons_zero, List.set_cons_succ])
              refine wpAnyH_take (i := 19) (oi := { dst := some 63, op := Go.Op.indexAddr 28 (Go.Operand.tmp 61) (Go.Operand.tmp 62), type := 0, pos := "law.go:134", after := #[{ on := 17, ground := Go.Ground.data }, { on := 18, ground := Go.Ground.data }, { on := 16, ground := Go.Ground.guard }], guard := some (16, false) }) (v := ?_) rfl (by kernel_rfl) (by kernel_rfl) (by kernel_rfl) (fun _ _ _ h => h) (Or.inl ⟨by rfl, ?_⟩) (by assumption) ?_
              rotate_left 1
              · (intro w hSw; (try dsimp only at hSw); go_simp; (try (with_reducible rfl)))
              (try simp only [Act.put, List.setIfInBounds_toArray, List.set_cons_zero, List.set_cons_succ])
              refine wpAnyH_take (i := 20) (oi := { dst := some 64, op := Go.Op.fieldAddr 51 (Go.Operand.tmp 63) 1, type := 0, pos := "law.go:134", after := #[{ on := 19, ground := Go.Ground.data }, { on := 16, ground := Go.Ground.guard }], guard := some (16, false) }) (v := ?_) rfl (by kernel_rfl) (by kernel_rfl) (by kernel_rfl) (fun _ _ _ h => h) (Or.inl ⟨by rfl, ?_⟩) (by assumption) ?_
              rotate_left 1
              · (intro w hSw; (try dsimp only at hSw); go_simp; (try (with_reducible rfl)))
              (try simp only [Act.put, List.setIfInBounds_toArray, List.set_cons_zero, List.set_cons_succ])
              refine wpAnyH_take (i := 21) (oi := { dst := some 65, op := Go.Op.load 27 (Go.Operand.tmp 64), type := 27, pos := "law.go:134", after := #[{ on := 20, ground := Go.Ground.data }, { on := 16, ground := Go.Ground.guard }], guard := some (16, false) }) (v := ?_) rfl (by kernel_rfl) (by kernel_rfl) (by kernel_rfl) (fun _ _ _ h => h) (Or.inl ⟨by rfl, ?_⟩) (by assumption) ?_
              rotate_left 1
              · (intro w hSw; (try dsimp only at hSw); go_simp; (try (with_reducible rfl)))
              (try simp only [Act.put, List.setIfInBounds_toArray, List.set_cons_zero, List.set_cons_succ])
              refine wpAnyH_take (i := 22) (oi := { dst := some 66, op := Go.Op.indexAddr 46 (Go.Operand.tmp 6) (Go.Operand.const (Go.Value.int Go.IntKind.i64 0)), type := 0, pos := "law.go:134", after := #[{ on := 16, ground := Go.Ground.guard }], guard := some (16, false) }) (v := ?_) rfl (by kernel_rfl) (by kernel_rfl) (by kernel_rfl) (fun _ _ _ h => h) (Or.inl ⟨by rfl, ?_⟩) (by assumption) ?_
              rotate_left 1
              · (intro w hSw; (try dsimp only at hSw); go_simp; (try (with_reducible rfl)))
              (try simp only [Act.put, List.setIfInBounds_toArray, List.set_cons_zero, List.set_cons_succ])
              refine wpAnyH_take (i := 23) (oi := { dst := some 67, op := Go.Op.load 33 (Go.Operand.tmp 66), type := 33, pos := "law.go:134", after := #[{ on := 22, ground := Go.Ground.data }, { on := 16, ground := Go.Ground.guard }], guard := some (16, false) }) (v := ?_) rfl (by kernel_rfl) (by kernel_rfl) (by kernel_rfl) (fun _ _ _ h => h) (Or.inl ⟨by rfl, ?_⟩) (by assumption) ?_
              rotate_left 1
              · (intro w hSw; (try dsimp only at hSw); go_simp; (try (with_reducible rfl)))
              (try simp only [Act.put, List.setIfInBounds_toArray, List.set_cons_zero, List.set_cons_succ])
              refine wpAnyH_take (i := 24) (oi := { dst := some 68, op := Go.Op.move (Go.Operand.tmp 10), type := 28, pos := "law.go:134", after := #[{ on := 16, ground := Go.Ground.guard }], guard := some (16, false) }) (v := ?_) rfl (by kernel_rfl) (by kernel_rfl) (by kernel_rfl) (fun _ _ _ h => h) (Or.inl ⟨by rfl, ?_⟩) (by assumption) ?_
              rotate_left 1
              · (intro w hSw; (try dsimp only at hSw); go_simp; (try (with_reducible rfl)))
              (try simp only [Act.put, List.setIfInBounds_toArray, List.set_cons_zero, List.set_cons_succ])
              refine wpAnyH_take (i := 25) (oi := { dst := some 69, op := Go.Op.move (Go.Operand.tmp 12), type := 3, pos := "law.go:134", after := #[{ on := 16, ground := Go.Ground.guard }], guard := some (16, false) }) (v := ?_) rfl (by kernel_rfl) (by kernel_rfl) (by kernel_rfl) (fun _ _ _ h => h) (Or.inl ⟨by rfl, ?_⟩) (by assumption) ?_
              rotate_left 1
              · (intro w hSw; (try dsimp only at hSw); go_simp; (try (with_reducible rfl)))
              (try simp only [Act.put, List.setIfInBounds_toArray, List.set_cons_zero, List.set_cons_succ])
              refine wpAnyH_take (i := 26) (oi := { dst := some 70, op := Go.Op.indexAddr 28 (Go.Operand.tmp 68) (Go.Operand.tmp 69), type := 0, pos := "law.go:134", after := #[{ on := 24, ground := Go.Ground.data }, { on := 25, ground := Go.Ground.data }, { on := 16, ground := Go.Ground.guard }], guard := some (16, false) }) (v := ?_) rfl (by kernel_rfl) (by kernel_rfl) (by kernel_rfl) (fun _ _ _ h => h) (Or.inl ⟨by rfl, ?_⟩) (by assumption) ?_
              rotate_left 1
              · (intro w hSw; (try dsimp only at hSw); go_simp; (try (with_reducible rfl)))
              (try simp only [Act.put, List.setIfInBounds_toArray, List.set_cons_zero, List.set_cons_succ])
              refine wpAnyH_take (i := 27) (oi := { dst := some 71, op := Go.Op.fieldAddr 51 (Go.Operand.tmp 70) 0, type := 0, pos := "law.go:134", after := #[{ on := 26, ground := Go.Ground.data }, { on := 16, ground := Go.Ground.guard }], guard := some (16, false) }) (v := ?_) rfl (by kernel_rfl) (by kernel_rfl) (by kernel_rfl) (fun _ _ _ h => h) (Or.inl ⟨by rfl, ?_⟩) (by assumption) ?_
              rotate_left 1
              · (intro w hSw; (try dsimp only at hSw); go_simp; (try (with_reducible rfl)))
              (try simp only [Act.put, List.setIfInBounds_toArray, List.set_cons_zero, List.set_cons_succ])
              refine wpAnyH_take (i := 28) (oi := { dst := some 72, op := Go.Op.load 27 (Go.Operand.tmp 71), type := 27, pos := "law.go:134", after := #[{ on := 27, ground := Go.Ground.data }, { on := 16, ground := Go.Ground.guard }], guard := some (16, false) }) (v := ?_) rfl (by kernel_rfl) (by kernel_rfl) (by kernel_rfl) (fun _ _ _ h => h) (Or.inl ⟨by rfl, ?_⟩) (by assumption) ?_
              rotate_left 1
              · (intro w hSw; (try dsimp only at hSw); go_simp; (try (with_reducible rfl)))
              (try simp only [Act.put, List.setIfInBounds_toArray, List.set_cons_zero, List.set_cons_succ])
              refine wpAnyH_take (i := 30) (oi := { dst := some 74, op := Go.Op.indexAddr 46 (Go.Operand.tmp 6) (Go.Operand.const (Go.Value.int Go.IntKind.i64 1)), type := 0, pos := "law.go:134", after := #[{ on := 16, ground := Go.Ground.guard }], guard := some (16, false) }) (v := ?_) rfl (by kernel_rfl) (by kernel_rfl) (by kernel_rfl) (fun _ _ _ h => h) (Or.inl ⟨by rfl, ?_⟩) (by assumption) ?_
              rotate_left 1
              · (intro w hSw; (try dsimp only at hSw); go_simp; (try (with_reducible rfl)))
              (try simp only [Act.put, List.setIfInBounds_toArray, List.set_cons_zero, List.set_cons_succ])
              refine wpAnyH_take (i := 31) (oi := { dst := some 75, op := Go.Op.load 33 (Go.Operand.tmp 74), type := 33, pos := "law.go:134", after := #[{ on := 30, ground := Go.Ground.data }, { on := 16, ground := Go.Ground.guard }], guard := some (16, false) }) (v := ?_) rfl (by kernel_rfl) (by kernel_rfl) (by kernel_rfl) (fun _ _ _ h => h) (Or.inl ⟨by rfl, ?_⟩) (by assumption) ?_
              rotate_left 1
              · (intro w hSw; (try dsimp only at hSw); go_simp; (try (with_reducible rfl)))
              (try simp only [Act.put, List.setIfInBounds_toArray, List.set_cons_zero, List.set_cons_succ])
              refine wpAnyH_take (i := 32) (oi := { dst := some 76, op := Go.Op.move (Go.Operand.tmp 10), type := 28, pos := "law.go:134", after := #[{ on := 16, ground := Go.Ground.guard }], guard := some (16, false) }) (v := ?_) rfl (by kernel_rfl) (by kernel_rfl) (by kernel_rfl) (fun _ _ _ h => h) (Or.inl ⟨by rfl, ?_⟩) (by assumption) ?_
              rotate_left 1
              · (intro w hSw; (try dsimp only at hSw); go_simp; (try (with_reducible rfl)))
              (try simp only [Act.put, List.setIfInBounds_toArray, List.set_cons_zero, List.set_cons_succ])
              refine wpAnyH_take (i := 33) (oi := { dst := some 77, op := Go.Op.move (Go.Operand.tmp 12), type := 3, pos := "law.go:134", after := #[{ on := 16, ground := Go.Ground.guard }], guard := some (16, false) }) (v := ?_) rfl (by kernel_rfl) (by kernel_rfl) (by kernel_rfl) (fun _ _ _ h => h) (Or.inl ⟨by rfl, ?_⟩) (by assumption) ?_
              rotate_left 1
              · (intro w hSw; (try dsimp only at hSw); go_simp; (try (with_reducible rfl)))
              (try simp only [Act.put, List.setIfInBounds_toArray, List.set_cons_zero, List.set_cons_succ])
              refine wpAnyH_take (i := 34) (oi := { dst := some 78, op := Go.Op.indexAddr 28 (Go.Operand.tmp 76) (Go.Operand.tmp 77), type := 0, pos := "law.go:134", after := #[{ on := 32, ground := Go.Ground.data }, { on := 33, ground := Go.Ground.data }, { on := 16, ground := Go.Ground.guard }], guard := some (16, false) }) (v := ?_) rfl (by kernel_rfl) (by kernel_rfl) (by kernel_rfl) (fun _ _ _ h => h) (Or.inl ⟨by rfl, ?_⟩) (by assumption) ?_
              rotate_left 1
              · (intro w hSw; (try dsimp only at hSw); go_simp; (try (with_reducible rfl)))
              (try simp only [Act.put, List.setIfInBounds_toArray, List.set_cons_zero, List.set_cons_succ])
              refine wpAnyH_take (i := 35) (oi := { dst := some 79, op := Go.Op.fieldAddr 51 (Go.Operand.tmp 78) 0, type := 0, pos := "law.go:134", after := #[{ on := 34, ground := Go.Ground.data }, { on := 16, ground := Go.Ground.guard }], guard := some (16, false) }) (v := ?_) rfl (by kernel_rfl) (by kernel_rfl) (by kernel_rfl) (fun _ _ _ h => h) (Or.inl ⟨by rfl, ?_⟩) (by assumption) ?_
              rotate_left 1
              · (intro w hSw; (try dsimp only at hSw); go_simp; (try (with_reducible rfl)))
              (try simp only [Act.put, List.setIfInBounds_toArray, List.set_cons_zero, List.set_cons_succ])
              refine wpAnyH_take (i := 36) (oi := { dst := some 80, op := Go.Op.load 27 (Go.Operand.tmp 79), type := 27, pos := "law.go:134", after := #[{ on := 35, ground := Go.Ground.data }, { on := 16, ground := Go.Ground.guard }], guard := some (16, false) }) (v := ?_) rfl (by kernel_rfl) (by kernel_rfl) (by kernel_rfl) (fun _ _ _ h => h) (Or.inl ⟨by rfl, ?_⟩) (by assumption) ?_
              rotate_left 1
              · (intro w hSw; (try dsimp only at hSw); go_simp; (try (with_reducible rfl)))
              (try simp only [Act.put, List.setIfInBounds_toArray, List.set_cons_zero, List.set_cons_succ])
              refine wpAnyH_take (i := 39) (oi := { dst := some 83, op := Go.Op.indexAddr 46 (Go.Operand.tmp 6) (Go.Operand.const (Go.Value.int Go.IntKind.i64 2)), type := 0, pos := "law.go:134", after := #[{ on := 16, ground := Go.Ground.guard }], guard := some (16, false) }) (v := ?_) rfl (by kernel_rfl) (by kernel_rfl) (by kernel_rfl) (fun _ _ _ h => h) (Or.inl ⟨by rfl, ?_⟩) (by assumption) ?_
              rotate_left 1
              · (intro w hSw; (try dsimp only at hSw); go_simp; (try (with_reducible rfl)))
              (try simp only [Act.put, List.setIfInBounds_toArray, List.set_cons_zero, List.set_cons_succ])
              refine wpAnyH_take (i := 40) (oi := { dst := some 84, op := Go.Op.load 33 (Go.Operand.tmp 83), type := 33, pos := "law.go:134", after := #[{ on := 39, ground := Go.Ground.data }, { on := 16, ground := Go.Ground.guard }], guard := some (16, false) }) (v := ?_) rfl (by kernel_rfl) (by kernel_rfl) (by kernel_rfl) (fun _ _ _ h => h) (Or.inl ⟨by rfl, ?_⟩) (by assumption) ?_
              rotate_left 1
              · (intro w hSw; (try dsimp only at hSw); go_simp; (try (with_reducible rfl)))
              (try simp only [Act.put, List.setIfInBounds_toArray, List.set_cons_zero, List.set_cons_succ])
              refine wpAnyH_take (i := 41) (oi := { dst := some 85, op := Go.Op.move (Go.Operand.tmp 10), type := 28, pos := "law.go:134", after := #[{ on := 16, ground := Go.Ground.guard }], guard := some (16, false) }) (v := ?_) rfl (by kernel_rfl) (by kernel_rfl) (by kernel_rfl) (fun _ _ _ h => h) (Or.inl ⟨by rfl, ?_⟩) (by assumption) ?_
              rotate_left 1
              · (intro w hSw; (try dsimp only at hSw); go_simp; (try (with_reducible rfl)))
              (try simp only [Act.put, List.setIfInBounds_toArray, List.set_cons_zero, List.set_cons_succ])
              refine wpAnyH_take (i := 42) (oi := { dst := some 86, op := Go.Op.move (Go.Operand.tmp 12), type := 3, pos := "law.go:134", after := #[{ on := 16, ground := Go.Ground.guard }], guard := some (16, false) }) (v := ?_) rfl (by kernel_rfl) (by kernel_rfl) (by kernel_rfl) (fun _ _ _ h => h) (Or.inl ⟨by rfl, ?_⟩) (by assumption) ?_
              rotate_left 1
              · (intro w hSw; (try dsimp only at hSw); go_simp; (try (with_reducible rfl)))
              (try simp only [Act.put, List.setIfInBounds_toArray, List.set_cons_zero, List.set_cons_succ])
              refine wpAnyH_take (i := 43) (oi := { dst := some 87, op := Go.Op.indexAddr 28 (Go.Operand.tmp 85) (Go.Operand.tmp 86), type := 0, pos := "law.go:134", after := #[{ on := 41, ground := Go.Ground.data }, { on := 42, ground := Go.Ground.data }, { on := 16, ground := Go.Ground.guard }], guard := some (16, false) }) (v := ?_) rfl (by kernel_rfl) (by kernel_rfl) (by kernel_rfl) (fun _ _ _ h => h) (Or.inl ⟨by rfl, ?_⟩) (by assumption) ?_
              rotate_left 1
              · (intro w hSw; (try dsimp only at hSw); go_simp; (try (with_reducible rfl)))
              (try simp only [Act.put, List.setIfInBounds_toArray, List.set_cons_zero, List.set_cons_succ])
              refine wpAnyH_take (i := 44) (oi := { dst := some 88, op := Go.Op.fieldAddr 51 (Go.Operand.tmp 87) 0, type := 0, pos := "law.go:134", after := #[{ on := 43, ground := Go.Ground.data }, { on := 16, ground := Go.Ground.guard }], guard := some (16, false) }) (v := ?_) rfl (by kernel_rfl) (by kernel_rfl) (by kernel_rfl) (fun _ _ _ h => h) (Or.inl ⟨by rfl, ?_⟩) (by assumption) ?_
              rotate_left 1
              · (intro w hSw; (try dsimp only at hSw); go_simp; (try (with_reducible rfl)))
              (try simp only [Act.put, List.setIfInBounds_toArray, List.set_cons_zero, List.set_cons_succ])
              refine wpAnyH_take (i := 45) (oi := { dst := some 89, op := Go.Op.load 27 (Go.Operand.tmp 88), type := 27, pos := "law.go:134", after := #[{ on := 44, ground := Go.Ground.data }, { on := 16, ground := Go.Ground.guard }], guard := some (16, false) }) (v := ?_) rfl (by kernel_rfl) (by kernel_rfl) (by kernel_rfl) (fun _ _ _ h => h) (Or.inl ⟨by rfl, ?_⟩) (by assumption) ?_
              rotate_left 1
              · (intro w hSw; (try dsimp only at hSw); go_simp; (try (with_reducible rfl)))
              (try simp only [Act.put, List.setIfInBounds_toArray, List.set_cons_zero, List.set_cons_succ])
              refine wpAnyH_ready (rs := [29]) (by kernel_rfl) (by simp) ?_
              refine AllReadyH.cons (o := { dst := some 73, op := Go.Op.call { callee := Go.Callee.value (Go.Operand.func 24), args := #[Go.Operand.tmp 67, Go.Operand.tmp 72], argTypes := #[33, 27] }, type := 27, pos := "law.go:134", after := #[{ on := 23, ground := Go.Ground.data }, { on := 28, ground := Go.Ground.data }, { on := 16, ground := Go.Ground.chain }, { on := 16, ground := Go.Ground.guard }], guard := some (16, false) }) rfl (fun KK_ hKK_ => ?_) AllReadyH.nil
              go_simp
              (first | (go_at_call_of 24 (Value.agg #[Value.int .i64 K, Value.int .u64 T0, Value.slice S0 q0.length d0]); refine (H0.out _ (by repeat (first | assumption | exact Below.refl _ _ | apply below_drew1))).mono ?_; rintro e w5 ⟨rfl, hb⟩; have hq5 : Below w6.heap.size w6 w5 := Below.trans (by repeat (first | assumption | exact Below.refl _ _ | apply below_drew1)) (hb.mono hq.size); clear hq hb x0 x1 x2 y0 y1 y2 z0 z1 z2 k0 k1; have hq := hq5; clear hq5; obtain ⟨⟨x0, x1, x2⟩, ⟨y0, y1, y2⟩, ⟨z0, z1, z2⟩⟩ := KQ.out _ hq; obtain ⟨k0, k1⟩ := KP.out _ hq) | (go_at_call_of 24 (Value.agg #[Value.int .i64 K, Value.int .u64 T1, Value.slice S1 q1.length d1]); refine (H1.out _ (by repeat (first | assumption | exact Below.refl _ _ | apply below_drew1))).mono ?_; rintro e w5 ⟨rfl, hb⟩; have hq5 : Below w6.heap.size w6 w5 := Below.trans (by repeat (first | assumption | exact Below.refl _ _ | apply below_drew1)) (hb.mono hq.size); clear hq hb x0 x1 x2 y0 y1 y2 z0 z1 z2 k0 k1; have hq := hq5; clear hq5; obtain ⟨⟨x0, x1, x2⟩, ⟨y0, y1, y2⟩, ⟨z0, z1, z2⟩⟩ := KQ.out _ hq; obtain ⟨k0, k1⟩ := KP.out _ hq) | (go_at_call_of 24 (Value.agg #[Value.int .i64 K, Value.int .u64 T2, Value.slice S2 q2.length d2]); refine (H2.out _ (by repeat (first | assumption | exact Below.refl _ _ | apply below_drew1))).mono ?_; rintro e w5 ⟨rfl, hb⟩; have hq5 : Below w6.heap.size w6 w5 := Below.trans (by repeat (first | assumption | exact Below.refl _ _ | apply below_drew1)) (hb.mono hq.size); clear hq hb x0 x1 x2 y0 y1 y2 z0 z1 z2 k0 k1; have hq := hq5; clear hq5; obtain ⟨⟨x0, x1, x2⟩, ⟨y0, y1, y2⟩, ⟨z0, z1, z2⟩⟩ := KQ.out _ hq; obtain ⟨k0, k1⟩ := KP.out _ hq))
              (try go_wp2_with fail)
              refine hKK_.out _ _ (by (try dsimp only); go_keep) (fun hHeld => ?_)
              clear hKK_ KK_
              (try simp only [Act.put, List.setIfInBounds_toArray, List.set_cons_zero, List.set_cons_succ])
              refine wpAnyH_ready (rs := [37]) (by kernel_rfl) (by simp) ?_
              refine AllReadyH.cons (o := { dst := some 81, op := Go.Op.call { callee := Go.Callee.value (Go.Operand.func 24), args := #[Go.Operand.tmp 75, Go.Operand.tmp 80], argTypes := #[33, 27] }, type := 27, pos := "law.go:134", after := #[{ on := 31, ground := Go.Ground.data }, { on := 36, ground := Go.Ground.data }, { on := 29, ground := Go.Ground.chain }, { on := 16, ground := Go.Ground.guard }], guard := some (16, false) }) rfl (fun KK_ hKK_ => ?_) AllReadyH.nil
              go_simp
              (first | (go_at_call_of 24 (Value.agg #[Value.int .i64 K, Value.int .u64 T0, Value.slice S0 q0.length d0]); refine (H0.out _ (by repeat (first | assumption | exact Below.refl _ _ | apply below_drew1))).mono ?_; rintro e w5 ⟨rfl, hb⟩; have hq5 : Below w6.heap.size w6 w5 := Below.trans (by repeat (first | assumption | exact Below.refl _ _ | apply below_drew1)) (hb.mono hq.size); clear hq hb x0 x1 x2 y0 y1 y2 z0 z1 z2 k0 k1; have hq := hq5; clear hq5; obtain ⟨⟨x0, x1, x2⟩, ⟨y0, y1, y2⟩, ⟨z0, z1, z2⟩⟩ := KQ.out _ hq; obtain ⟨k0, k1⟩ := KP.out _ hq) | (go_at_call_of 24 (Value.agg #[Value.int .i64 K, Value.int .u64 T1, Value.slice S1 q1.length d1]); refine (H1.out _ (by repeat (first | assumption | exact Below.refl _ _ | apply below_drew1))).mono ?_; rintro e w5 ⟨rfl, hb⟩; have hq5 : Below w6.heap.size w6 w5 := Below.trans (by repeat (first | assumption | exact Below.refl _ _ | apply below_drew1)) (hb.mono hq.size); clear hq hb x0 x1 x2 y0 y1 y2 z0 z1 z2 k0 k1; have hq := hq5; clear hq5; obtain ⟨⟨x0, x1, x2⟩, ⟨y0, y1, y2⟩, ⟨z0, z1, z2⟩⟩ := KQ.out _ hq; obtain ⟨k0, k1⟩ := KP.out _ hq) | (go_at_call_of 24 (Value.agg #[Value.int .i64 K, Value.int .u64 T2, Value.slice S2 q2.length d2]); refine (H2.out _ (by repeat (first | assumption | exact Below.refl _ _ | apply below_drew1))).mono ?_; rintro e w5 ⟨rfl, hb⟩; have hq5 : Below w6.heap.size w6 w5 := Below.trans (by repeat (first | assumption | exact Below.refl _ _ | apply below_drew1)) (hb.mono hq.size); clear hq hb x0 x1 x2 y0 y1 y2 z0 z1 z2 k0 k1; have hq := hq5; clear hq5; obtain ⟨⟨x0, x1, x2⟩, ⟨y0, y1, y2⟩, ⟨z0, z1, z2⟩⟩ := KQ.out _ hq; obtain ⟨k0, k1⟩ := KP.out _ hq))
              (try go_wp2_with fail)
              refine hKK_.out _ _ (by (try dsimp only); go_keep) (fun hHeld => ?_)
              clear hKK_ KK_
              (try simp only [Act.put, List.setIfInBounds_toArray, List.set_cons_zero, List.set_cons_succ])
              refine wpAnyH_take (i := 38) (oi := { dst := some 82, op := Go.Op.binOp Go.BinOp.add 27 (Go.Operand.tmp 73) (Go.Operand.tmp 81) 27, type := 27, pos := "law.go:134", after := #[{ on := 29, ground := Go.Ground.data }, { on := 37, ground := Go.Ground.data }, { on := 16, ground := Go.Ground.guard }], guard := some (16, false) }) (v := ?_) rfl (by kernel_rfl) (by kernel_rfl) (by kernel_rfl) (fun _ _ _ h => h) (Or.inl ⟨by rfl, ?_⟩) (by assumption) ?_
              rotate_left 1
              · (intro w hSw; (try dsimp only at hSw); go_simp; (try (with_reducible rfl)))
              (try simp only [Act.put, List.setIfInBounds_toArray, List.set_cons_zero, List.set_cons_succ])
              refine wpAnyH_ready (rs := [46]) (by kernel_rfl) (by simp) ?_
              refine AllReadyH.cons (o := { dst := some 90, op := Go.Op.call { callee := Go.Callee.value (Go.Operand.func 24), args := #[Go.Operand.tmp 84, Go.Operand.tmp 89], argTypes := #[33, 27] }, type := 27, pos := "law.go:134", after := #[{ on := 40, ground := Go.Ground.data }, { on := 45, ground := Go.Ground.data }, { on := 37, ground := Go.Ground.chain }, { on := 16, ground := Go.Ground.guard }], guard := some (16, false) }) rfl (fun KK_ hKK_ => ?_) AllReadyH.nil
              go_simp
              (first | (go_at_call_of 24 (Value.agg #[Value.int .i64 K, Value.int .u64 T0, Value.slice S0 q0.length d0]); refine (H0.out _ (by repeat (first | assumption | exact Below.refl _ _ | apply below_drew1))).mono ?_; rintro e w5 ⟨rfl, hb⟩; have hq5 : Below w6.heap.size w6 w5 := Below.trans (by repeat (first | assumption | exact Below.refl _ _ | apply below_drew1)) (hb.mono hq.size); clear hq hb x0 x1 x2 y0 y1 y2 z0 z1 z2 k0 k1; have hq := hq5; clear hq5; obtain ⟨⟨x0, x1, x2⟩, ⟨y0, y1, y2⟩, ⟨z0, z1, z2⟩⟩ := KQ.out _ hq; obtain ⟨k0, k1⟩ := KP.out _ hq) | (go_at_call_of 24 (Value.agg #[Value.int .i64 K, Value.int .u64 T1, Value.slice S1 q1.length d1]); refine (H1.out _ (by repeat (first | assumption | exact Below.refl _ _ | apply below_drew1))).mono ?_; rintro e w5 ⟨rfl, hb⟩; have hq5 : Below w6.heap.size w6 w5 := Below.trans (by repeat (first | assumption | exact Below.refl _ _ | apply below_drew1)) (hb.mono hq.size); clear hq hb x0 x1 x2 y0 y1 y2 z0 z1 z2 k0 k1; have hq := hq5; clear hq5; obtain ⟨⟨x0, x1, x2⟩, ⟨y0, y1, y2⟩, ⟨z0, z1, z2⟩⟩ := KQ.out _ hq; obtain ⟨k0, k1⟩ := KP.out _ hq) | (go_at_call_of 24 (Value.agg #[Value.int .i64 K, Value.int .u64 T2, Value.slice S2 q2.length d2]); refine (H2.out _ (by repeat (first | assumption | exact Below.refl _ _ | apply below_drew1))).mono ?_; rintro e w5 ⟨rfl, hb⟩; have hq5 : Below w6.heap.size w6 w5 := Below.trans (by repeat (first | assumption | exact Below.refl _ _ | apply below_drew1)) (hb.mono hq.size); clear hq hb x0 x1 x2 y0 y1 y2 z0 z1 z2 k0 k1; have hq := hq5; clear hq5; obtain ⟨⟨x0, x1, x2⟩, ⟨y0, y1, y2⟩, ⟨z0, z1, z2⟩⟩ := KQ.out _ hq; obtain ⟨k0, k1⟩ := KP.out _ hq))
              (try go_wp2_with fail)
              refine hKK_.out _ _ (by (try dsimp only); go_keep) (fun hHeld => ?_)
              clear hKK_ KK_
              (try simp only [Act.put, List.setIfInBounds_toArray, List.set_cons_zero, List.set_cons_succ])
              refine wpAnyH_take (i := 47) (oi := { dst := some 91, op := Go.Op.binOp Go.BinOp.add 27 (Go.Operand.tmp 82) (Go.Operand.tmp 90) 27, type := 27, pos := "law.go:134", after := #[{ on := 38, ground := Go.Ground.data }, { on := 46, ground := Go.Ground.data }, { on := 16, ground := Go.Ground.guard }], guard := some (16, false) }) (v := ?_) rfl (by kernel_rfl) (by kernel_rfl) (by kernel_rfl) (fun _ _ _ h => h) (Or.inl ⟨by rfl, ?_⟩) (by assumption) ?_
              rotate_left 1
              · (intro w hSw; (try dsimp only at hSw); go_simp; (try (with_reducible rfl)))
              (try simp only [Act.put, List.setIfInBounds_toArray, List.set_cons_zero, List.set_cons_succ])
              refine wpAnyH_take (i := 48) (oi := { dst := some 92, op := Go.Op.binOp Go.BinOp.neq 27 (Go.Operand.tmp 65) (Go.Operand.tmp 91) 27, type := 4, pos := "law.go:134", after := #[{ on := 21, ground := Go.Ground.data }, { on := 47, ground := Go.Ground.data }, { on := 16, ground := Go.Ground.guard }], guard := some (16, false) }) (v := ?_) rfl (by kernel_rfl) (by kernel_rfl) (by kernel_rfl) (fun _ _ _ h => h) (Or.inl ⟨by rfl, ?_⟩) (by assumption) ?_
              rotate_left 1
              · (intro w hSw; (try dsimp only at hSw); go_simp; (try (with_reducible rfl)))
              (try simp only [Act.put, List.setIfInBounds_toArray, List.set_cons_zero, List.set_cons_succ])
              refine wpAnyH_take (i := 49) (oi := { dst := some 93, op := Go.Op.pick (Go.Operand.tmp 60) (Go.Operand.const (Go.Value.bool true)) (Go.Operand.tmp 92), type := 4, pos := "law.go:134", after := #[{ on := 16, ground := Go.Ground.data }, { on := 48, ground := Go.Ground.data }], guard := none }) (v := ?_) rfl (by kernel_rfl) (by kernel_rfl) (by kernel_rfl) (fun _ _ _ h => h) (Or.inl ⟨by rfl, ?_⟩) (by assumption) ?_
              rotate_left 1
              · (intro w hSw; (try dsimp only at hSw); go_simp; (try (with_reducible rfl)))
              (try simp only [Act.put, List.setIfInBounds_toArray, List.set_cons_zero, List.set_cons_succ])
              refine wpAnyH_take (i := 50) (oi := { dst := some 94, op := Go.Op.move (Go.Operand.tmp 93), type := 4, pos := "law.go:134", after := #[{ on := 49, ground := Go.Ground.data }, { on := 46, ground := Go.Ground.chain }], guard := none }) (v := ?_) rfl (by kernel_rfl) (by kernel_rfl) (by kernel_rfl) (fun _ _ _ h => h) (Or.inl ⟨by rfl, ?_⟩) (by assumption) ?_
              rotate_left 1
              · (intro w hSw; (try dsimp only at hSw); go_simp; (try (with_reducible rfl)))
              (try simp only [Act.put, List.setIfInBounds_toArray, List.set_cons_zero, List.set_cons_succ])
              refine wpAnyH_take (i := 51) (oi := { dst := some 95, op := Go.Op.move (Go.Operand.tmp 10), type := 28, pos := "law.go:134", after := #[{ on := 50, ground := Go.Ground.guard }], guard := some (50, false) }) (v := ?_) rfl (by kernel_rfl) (by kernel_rfl) (by kernel_rfl) (fun _ _ _ h => h) (Or.inl ⟨by rfl, ?_⟩) (by assumption) ?_
              rotate_left 1
              · (intro w hSw; (try dsimp only at hSw); go_simp; (try (with_reducible rfl)))
              (try simp only [Act.put, List.setIfInBounds_toArray, List.set_cons_zero, List.set_cons_succ])
              refine wpAnyH_take (i := 52) (oi := { dst := some 96, op := Go.Op.move (Go.Operand.tmp 12), type := 3, pos := "law.go:134", after := #[{ on := 50, ground := Go.Ground.guard }], guard := some (50, false) }) (v := ?_) rfl (by kernel_rfl) (by kernel_rfl) (by kernel_rfl) (fun _ _ _ h => h) (Or.inl ⟨by rfl, ?_⟩) (by assumption) ?_
              rotate_left 1
              · (intro w hSw; (try dsimp only at hSw); go_simp; (try (with_reducible rfl)))
              (try simp only [Act.put, List.setIfInBounds_toArray, List.set_cons_zero, List.set_cons_succ])
              refine wpAnyH_take (i := 53) (oi := { dst := some 97, op := Go.Op.indexAddr 28 (Go.Operand.tmp 95) (Go.Operand.tmp 96), type := 0, pos := "law.go:134", after := #[{ on := 51, ground := Go.Ground.data }, { on := 52, ground := Go.Ground.data }, { on := 50, ground := Go.Ground.guard }], guard := some (50, false) }) (v := ?_) rfl (by kernel_rfl) (by kernel_rfl) (by kernel_rfl) (fun _ _ _ h => h) (Or.inl ⟨by rfl, ?_⟩) (by assumption) ?_
              rotate_left 1
              · (intro w hSw; (try dsimp only at hSw); go_simp; (try (with_reducible rfl)))
              (try simp only [Act.put, List.setIfInBounds_toArray, List.set_cons_zero, List.set_cons_succ])
              refine wpAnyH_take (i := 54) (oi := { dst := some 98, op := Go.Op.fieldAddr 51 (Go.Operand.tmp 97) 1, type := 0, pos := "law.go:134", after := #[{ on := 53, ground := Go.Ground.data }, { on := 50, ground := Go.Ground.guard }], guard := some (50, false) }) (v := ?_) rfl (by kernel_rfl) (by kernel_rfl) (by kernel_rfl) (fun _ _ _ h => h) (Or.inl ⟨by rfl, ?_⟩) (by assumption) ?_
              rotate_left 1
              · (intro w hSw; (try dsimp only at hSw); go_simp; (try (with_reducible rfl)))
              (try simp only [Act.put, List.setIfInBounds_toArray, List.set_cons_zero, List.set_cons_succ])
              refine wpAnyH_take (i := 55) (oi := { dst := some 99, op := Go.Op.load 27 (Go.Operand.tmp 98), type := 27, pos := "law.go:134", after := #[{ on := 54, ground := Go.Ground.data }, { on := 50, ground := Go.Ground.guard }], guard := some (50, false) }) (v := ?_) rfl (by kernel_rfl) (by kernel_rfl) (by kernel_rfl) (fun _ _ _ h => h) (Or.inl ⟨by rfl, ?_⟩) (by assumption) ?_
              rotate_left 1
              · (intro w hSw; (try dsimp only at hSw); go_simp; (try (with_reducible rfl)))
              (try simp only [Act.put, List.setIfInBounds_toArray, List.set_cons_zero, List.set_cons_succ])
              refine wpAnyH_take (i := 56) (oi := { dst := some 100, op := Go.Op.binOp Go.BinOp.eql 27 (Go.Operand.tmp 99) (Go.Operand.const (Go.Value.int Go.IntKind.u64 0)) 27, type := 4, pos := "law.go:134", after := #[{ on := 55, ground := Go.Ground.data }, { on := 50, ground := Go.Ground.guard }], guard := some (50, false) }) (v := ?_) rfl (by kernel_rfl) (by kernel_rfl) (by kernel_rfl) (fun _ _ _ h => h) (Or.inl ⟨by rfl, ?_⟩) (by assumption) ?_
              rotate_left 1
              · (intro w hSw; (try dsimp only at hSw); go_simp; (try (with_reducible rfl)))
              (try simp only [Act.put, List.setIfInBounds_toArray, List.set_cons_zero, List.set_cons_succ])
              refine wpAnyH_take (i := 57) (oi := { dst := some 101, op := Go.Op.pick (Go.Operand.tmp 94) (Go.Operand.const (Go.Value.bool true)) (Go.Operand.tmp 100), type := 4, pos := "law.go:134", after := #[{ on := 50, ground := Go.Ground.data }, { on := 56, ground := Go.Ground.data }], guard := none }) (v := ?_) rfl (by kernel_rfl) (by kernel_rfl) (by kernel_rfl) (fun _ _ _ h => h) (Or.inl ⟨by rfl, ?_⟩) (by assumption) ?_
              rotate_left 1
              · (intro w hSw; (try dsimp only at hSw); go_simp; (try (with_reducible rfl)))
              (try simp only [Act.put, List.setIfInBounds_toArray, List.set_cons_zero, List.set_cons_succ])
              refine wpAnyH_done (by kernel_rfl) ?_ _
              all_goals (go_wp2_with fail)
              go_meet
              exact ⟨rfl, hq⟩
            case rest =>
              clear x0 x1 x2 y0 y1 y2 z0 z1 z2 k0 k1 hq
              obtain ⟨rfl, hq⟩ := hcut
              go_wp2
              exact ⟨⟨0 + 1, by simp, by simp, by omega, hq⟩, by simp [intOf]; omega⟩
          · have hj1 : j < mm.length := by omega
            obtain ⟨ad', e', p0, p1⟩ := at_T51 (Kd.R_reads' R6.out).2.2 (j : Int) (by omega) (by omega)
            cases e'
            rw [show rd_T51 mm (j : Int) = mm.getD j z51 from rfl, Int.toNat_natCast] at p0 p1
            have hlt2 := rise_at HSUM.out.rise hlt
            generalize mm.getD (j + 1) z51 = z at *
            generalize mm.getD j z51 = y at *
            obtain ⟨zk, zc⟩ := z
            obtain ⟨yk, yc⟩ := y
            simp only at hz hz1 hz2 hz3 hz4 hlt2 k0 k1 p0 p1 H0 H1 H2
            subst hz
            have KP := Aside0.mk (fun W (hW : Below w6.heap.size w6 W) => And.intro ((hW.cell (World.block_lt_of_cell? w6 _ k0)).trans k0) (And.intro ((hW.cell (World.block_lt_of_cell? w6 _ k1)).trans k1) ((hW.cell (World.block_lt_of_cell? w6 _ p0)).trans p0)))
            clear k0 k1 p0 p1
            obtain ⟨⟨x0, x1, x2⟩, ⟨y0, y1, y2⟩, ⟨z0, z1, z2⟩⟩ := KQ.out wr hb
            obtain ⟨k0, k1, p0⟩ := KP.out wr hb
            have hq := hb
            have hle : decide (zk ≤ yk) = false := by simp; omega
            have e0 : (0 : Int) ≤ (j : Int) := by omega
            have u0 : IntKind.u64.wrap (ga + gb) = ga + gb := by rw [IntKind.wrap_u64]; omega
            have u1 : IntKind.u64.wrap (ga + gb + gc) = ga + gb + gc := by rw [IntKind.wrap_u64]; omega
            have u2 : (ga + gb + gc == 0) = false := beq_eq_false_iff_ne.2 (by omega)
            have ew : IntKind.i64.wrap (j : Int) = (j : Int) := by rw [IntKind.wrap_i64]; omega
            have ev : IntKind.i64.wrap ((j : Int) + 1 - 1) = (j : Int) := by rw [Int.add_sub_cancel]; exact ew
            have e1 : (j : Int) < (mm.length : Int) := by omega
            have e2 : (0 : Int) ≤ (j : Int) + 1 := by omega
            have e3 : (j : Int) + 1 < (mm.length : Int) := by omega
            go_upto_region 13 with (fail)
            clear hb
            go_cut [101] (fun s101 wy => s101 = .bool false ∧ Below w6.heap.size w6 wy)
            case first =>
              go_region_held3 (fun w' => (w'.cell? ⟨w1.heap.size, 0, none⟩ = some (.int .i64 K) ∧ w'.cell? ⟨w1.heap.size, 1, none⟩ = some (.int .u64 T0) ∧ w'.cell? ⟨w1.heap.size, 2, none⟩ = some (.slice S0 q0.length d0)) ∧ (w'.cell? ⟨w1.heap.size, 3, none⟩ = some (.int .i64 K) ∧ w'.cell? ⟨w1.heap.size, 4, none⟩ = some (.int .u64 T1) ∧ w'.cell? ⟨w1.heap.size, 5, none⟩ = some (.slice S1 q1.length d1)) ∧ (w'.cell? ⟨w1.heap.size, 6, none⟩ = some (.int .i64 K) ∧ w'.cell? ⟨w1.heap.size, 7, none⟩ = some (.int .u64 T2) ∧ w'.cell? ⟨w1.heap.size, 8, none⟩ = some (.slice S2 q2.length d2)) ∧ w'.cell? (ad.add ((j + 1) * 2)) = some (.int .u64 zk) ∧ w'.cell? ⟨(ad.add ((j + 1) * 2)).block, (ad.add ((j + 1) * 2)).off + 1, none⟩ = some (.int .u64 (ga + gb + gc)) ∧ w'.cell? (ad.add (j * 2)) = some (.int .u64 yk)) (go_keep)
                (first
                  | (go_at_call_of 24 (Value.agg #[Value.int .i64 K, Value.int .u64 T0, Value.slice S0 q0.length d0]); refine (H0.out _ (by repeat (first | assumption | exact Below.refl _ _ | apply below_drew1))).mono ?_; rintro e w5 ⟨rfl, hb⟩; have hq5 : Below w6.heap.size w6 w5 := Below.trans (by repeat (first | assumption | exact Below.refl _ _ | apply below_drew1)) (hb.mono hq.size); clear hq hb x0 x1 x2 y0 y1 y2 z0 z1 z2 k0 k1 p0; have hq := hq5; clear hq5; obtain ⟨⟨x0, x1, x2⟩, ⟨y0, y1, y2⟩, ⟨z0, z1, z2⟩⟩ := KQ.out _ hq; obtain ⟨k0, k1, p0⟩ := KP.out _ hq)
                  | (go_at_call_of 24 (Value.agg #[Value.int .i64 K, Value.int .u64 T1, Value.slice S1 q1.length d1]); refine (H1.out _ (by repeat (first | assumption | exact Below.refl _ _ | apply below_drew1))).mono ?_; rintro e w5 ⟨rfl, hb⟩; have hq5 : Below w6.heap.size w6 w5 := Below.trans (by repeat (first | assumption | exact Below.refl _ _ | apply below_drew1)) (hb.mono hq.size); clear hq hb x0 x1 x2 y0 y1 y2 z0 z1 z2 k0 k1 p0; have hq := hq5; clear hq5; obtain ⟨⟨x0, x1, x2⟩, ⟨y0, y1, y2⟩, ⟨z0, z1, z2⟩⟩ := KQ.out _ hq; obtain ⟨k0, k1, p0⟩ := KP.out _ hq)
                  | (go_at_call_of 24 (Value.agg #[Value.int .i64 K, Value.int .u64 T2, Value.slice S2 q2.length d2]); refine (H2.out _ (by repeat (first | assumption | exact Below.refl _ _ | apply below_drew1))).mono ?_; rintro e w5 ⟨rfl, hb⟩; have hq5 : Below w6.heap.size w6 w5 := Below.trans (by repeat (first | assumption | exact Below.refl _ _ | apply below_drew1)) (hb.mono hq.size); clear hq hb x0 x1 x2 y0 y1 y2 z0 z1 z2 k0 k1 p0; have hq := hq5; clear hq5; obtain ⟨⟨x0, x1, x2⟩, ⟨y0, y1, y2⟩, ⟨z0, z1, z2⟩⟩ := KQ.out _ hq; obtain ⟨k0, k1, p0⟩ := KP.out _ hq))
              all_goals (go_wp2_with fail)
              go_meet
              exact ⟨rfl, hq⟩
            case rest =>
              clear x0 x1 x2 y0 y1 y2 z0 z1 z2 k0 k1 p0 hq
              obtain ⟨rfl, hq⟩ := hcut
              go_wp2
              exact ⟨⟨j + 1 + 1, by simp, by simp, by omega, hq⟩, by simp [intOf]; omega⟩
        · obtain rfl : j = mm.length := by omega
          obtain ⟨⟨x0, x1, x2⟩, _, _⟩ := KQ.out wr hb
          have e0 : IntKind.i64.wrap (3 * K) = 3 * K := by rw [IntKind.wrap_i64]; omega
          have e2 := HSUM.out.ge
          have hB7 := Aside0.mk (hB6.out.trans (hb.mono hB6.out.size))
          go_wp2_with (go_at_call 20; refine (sums0_call _).mono ?_; rintro e w7 ⟨A7, c7, rfl, hb7⟩)
          all_goals first
            | (exfalso; omega)
            | (go_ret; exact ⟨rfl, hB7.out.trans (hb7.mono hB7.out.size)⟩)
end Go.Proofs.Ytohginlodlijkaa.PH
