/- The walk of JoinMerges. -/
import Derived.Test.YtohginlodlijkaaJwl
namespace Go.Proofs.Ytohginlodlijkaa.PH
open Go.RowKit Go.Proofs.YtohginlodlijkaaW.PrintWords Go.Proofs.YtohginlodlijkaaW.PrintLast Go.Proofs.YtohginlodlijkaaW.PrintMore
theorem below_call {w0 X w9 : World} (h : Below w0.heap.size w0 X) (hb : Below X.heap.size X w9) : Below w0.heap.size w0 w9 := h.trans (hb.mono h.size)
set_option maxHeartbeats 8000000 in
set_option maxRecDepth 100000 in
theorem joinMerges_true (Ak Al : Option Addr) (ck cl : Nat) (keys : List Int) (lls : List (List S51)) (w : World) (hk : Kd.C (Kd.int .i64) w Ak keys.length keys) (hl : Kd.C (Kd.slice 51 k51) w Al lls.length lls)
    (hr : ∀ l ∈ lls, ∀ t ∈ l, 0 ≤ t.f0 ∧ 0 ≤ t.f1 ∧ t.f1 < 18446744073709551616) :
    Calls Try.prog 3 #[.slice Ak keys.length ck, .slice Al lls.length cl] w fun e w' => e = .returned (.bool true) ∧ Below w.heap.size w w' := by
  have HK := Aside0.mk hk
  have HL := Aside0.mk hl
  obtain ⟨sms, hsl, hms⟩ := made_each lls (fun i => if i < keys.length then keys.getD i 0 else 0) hr
  have HMS := Aside0.mk hms
  clear hk hl hr hms
  by_cases h6 : 6 < lls.length
  · have h6' : (6 : Int) < (lls.length : Int) := by omega
    go_enter Try.func3, Try.ntmps3
    go_wp2_with (go_at_call 13; refine (awake18_true _).mono ?_; rintro e w1 ⟨rfl, hb1⟩)
    all_goals (go_ret; exact ⟨rfl, hb1⟩)
  · have h6' : ¬ (6 : Int) < (lls.length : Int) := by omega
    go_enter Try.func3, Try.ntmps3
    go_wp2_with (go_at_call 13; refine (awake18_true _).mono ?_; rintro e w1 ⟨rfl, hb1⟩)
    have HB1 := Aside0.mk hb1
    have hs1 := hb1.size
    clear hb1
    go_loopw [6, 7, 8] (fun va vm iv wr => ∃ i : Nat, iv = .int .i64 i ∧ i ≤ lls.length ∧ RW2 w1.heap.size sms va vm i wr ∧ (i = 0 → vm = .slice none 0 0) ∧ Below w1.heap.size w1 wr) (fun _ _ iv _ => lls.length - (intOf iv).toNat)
    case atStart => exact ⟨0, rfl, Nat.zero_le _, ⟨[], rfl, Kd.R_nil _ _ _ _ _, Kd.R_nil _ _ _ _ _, fun j hj => by omega⟩, fun _ => rfl, Below.refl _ _⟩
    case round =>
      obtain ⟨i, rfl, hi, hRW, hz, hb⟩ := hrel
      have HRW := Aside0.mk hRW
      have HB := Aside0.mk hb
      have hsb := hb.size
      clear hRW hb
      by_cases hlt : i < lls.length
      · obtain ⟨all, hmade, hmg, hK1, hK8⟩ := HMS.out i hlt
        have hlt2 : (i : Int) < (lls.length : Int) := by omega
        have hi0 : (0 : Int) ≤ (i : Int) := by omega
        obtain ⟨adl, cs, e1, _, hKs, hcs⟩ := Kd.C_get HL.out [] (i : Int) hi0 hlt2
        subst e1
        obtain ⟨A0, c0, e2, hcap, hC0⟩ := hKs
        subst e2
        have hcl := hcs 0 _ rfl
        rw [Int.toNat_natCast, show (Kd.slice 51 k51).sz = 1 from rfl, Nat.mul_one, Nat.add_zero] at hcl
        replace hcl := ((HB1.out.trans (HB.out.mono hs1)).cell (World.block_lt_of_cell? w _ hcl)).trans hcl
        rw [Int.toNat_natCast] at hcap hC0
        have HCALL := Aside0.mk (fun W (hW : Below wr.heap.size wr W) => (skylightref17_Made.calls 600 _ A0 c0 _ _ _ _ _ W (Kd.C_below hC0 ((HB1.out.trans (HB.out.mono hs1)).trans (hW.mono (HB1.out.trans (HB.out.mono hs1)).size))) hcap hmade).mono (R' := fun e w' => ∃ A c v3, e = .returned (.tuple #[.agg #[.int .i64 (sms.getD i zSm).K, .int .u64 (sms.getD i zSm).T, .slice A (sms.getD i zSm).l.length c], v3]) ∧ Kd.R k51 51 w' W.heap.size (fun _ => True) (.slice A (sms.getD i zSm).l.length c) (sms.getD i zSm).l ∧ Below W.heap.size W w') (fun e w' h => by
          obtain ⟨v2, v3, rfl, hR2, hR3, hb⟩ := h
          obtain ⟨A2, c2, rfl⟩ := Kd.R_slice hR2
          exact ⟨A2, c2, v3, rfl, Kd.R_mono hR2 (fun _ _ => trivial), hb⟩))
        generalize lls.getD i [] = lq at *
        generalize hsm : sms.getD i zSm = sm at *
        obtain ⟨sK, sT, sl⟩ := sm
        have HSM := Aside0.mk hsm
        clear hsm hcs hC0 hmade hmg hcap
        by_cases hki : i < keys.length
        · rw [if_pos hki] at HCALL
          obtain ⟨adk, rfl, hck⟩ := Kd.at_int HK.out (i : Int) hi0 (by omega)
          rw [show rd keys (i : Int) = keys.getD i 0 by simp [rd], Int.toNat_natCast] at hck
          replace hck := ((HB1.out.trans (HB.out.mono hs1)).cell (World.block_lt_of_cell? w _ hck)).trans hck
          have hki2 : (i : Int) < (keys.length : Int) := by omega
          generalize keys.getD i 0 = kv at *
          go_upto_region 13 with (first
            | (go_at_call 14; refine (HCALL.out _ (Below.refl _ _)).mono ?_; rintro e w5 ⟨A3, c3, v4, rfl, hR3, hb3⟩
               have HR3 := Aside0.mk hR3
               have HB3 := Aside0.mk hb3
               clear hR3 hb3))
          have hX := World.alloc_heap_new w5 (.cells #[.int .i64 sK, .int .u64 sT, .slice A3 sl.length c3] 30)
          have hW1 : Below wr.heap.size wr (w5.alloc (.cells #[.int .i64 sK, .int .u64 sT, .slice A3 sl.length c3] 30)) := HB3.out.alloc HB3.out.size _
          have hRI := Kd.R_lower (base' := w1.heap.size) (Kd.R_alloc HR3.out (.cells #[.int .i64 sK, .int .u64 sT, .slice A3 sl.length c3] 30)) hsb
          have hgX : wr.heap.size ≤ w5.heap.size := HB3.out.size
          generalize hge : w5.heap.size = gX at *
          clear hge HR3 HB3
          generalize (w5.alloc (.cells #[.int .i64 sK, .int .u64 sT, .slice A3 sl.length c3] 30)) = w6 at *
          have k0 := blk_cell hX 0
          have k1 := blk_cell hX 1
          have k2 := blk_cell hX 2
          simp only [List.getElem?_toArray, List.getElem?_cons_zero, List.getElem?_cons_succ] at k0 k1 k2
          obtain ⟨rows, hrl, hA, hMM, hri⟩ := (HRW.out.below hW1).rows
          have hneA : some gX ≠ u6.ownBlock := fun e => by
            obtain ⟨rows', _, hA', _, _⟩ := HRW.out.rows
            have := (Kd.R_bound hA').1 gX e.symm
            omega
          have hneM : some gX ≠ u7.ownBlock := fun e => by
            obtain ⟨rows', _, _, hM', _⟩ := HRW.out.rows
            have := (Kd.R_bound hM').1 gX e.symm
            omega
          have hb6 := HB.out.trans (hW1.mono hsb)
          have HA := Aside0.mk hA
          have HM := Aside0.mk hMM
          have HI := Aside0.mk hri
          have HX := Aside0.mk hX
          have HRI := Aside0.mk hRI
          have HB6 := Aside0.mk hb6
          clear hA hMM hri hX hRI hb6 hW1
          go_upto_region 14 with (first
            | (at_builtin
               have hbo : Below w6.heap.size w6 (w6.alloc (.cells #[.int .i64 sK, .int .u64 sT, .slice A3 sl.length c3] 30)) := (Below.refl _ w6).alloc (Nat.le_refl _) _
               refine Kd.R_append_rows (Kd.raw 3) (w0 := w1) w1.heap.size rfl (.tmp 44) (.tmp 46) 25 30 (.agg #[(.int .i64 0), (.int .u64 0), (.slice none 0 0)]) 40 rfl Try.underlying25 info30 rfl (by decide) (by omega) u6 rows [[.int .i64 sK, .int .u64 sT, .slice A3 sl.length c3]] _ _ _ (fun _ => True) (fun _ => False) rfl rfl (Kd.R_below HA.out hbo) (raw_one (World.alloc_heap_new w6 _)) (fun _ _ h => h) (fun _ h => h.elim) (fun _ _ => trivial) (HB6.out.alloc HB6.out.size _) (by have := HB6.out.size; simp; omega) (by rw [hrl]; omega) ?_
               intro v9 w9 hr9 hb9 hg9 hat9
               have hX9 := blk_grown ((hbo.block gX (Array.getElem?_eq_some_iff.1 HX.out).1).trans HX.out) hg9 hneA
               have hM9 := Kd.R_over (Kd.R_below HM.out hbo) (Kd.R_below HA.out hbo) (by decide) hg9
               have hI9 := fun j hj => (HI.out j hj).imp fun A h => h.imp fun c h => (And.intro h.1 (Kd.R_over (Kd.R_below h.2 hbo) (Kd.R_below HA.out hbo) (by decide) hg9))
               have hN9 := Kd.R_over (Kd.R_below HRI.out hbo) (Kd.R_below HA.out hbo) (by decide) hg9
               have HA9 := Aside0.mk hr9
               have HB9 := Aside0.mk hb9
               replace hX9 := Aside0.mk hX9
               replace hM9 := Aside0.mk hM9
               replace hI9 := Aside0.mk hI9
               replace hN9 := Aside0.mk hN9
               clear hr9 hb9 hg9 hat9 k0 k1 k2 hbo))
          have k0 := blk_cell hX9.out 0
          have k1 := blk_cell hX9.out 1
          have k2 := blk_cell hX9.out 2
          simp only [List.getElem?_toArray, List.getElem?_cons_zero, List.getElem?_cons_succ] at k0 k1 k2
          go_wp2_with (first
            | (go_at_call 15; refine (made18 _ _ _ _ _ _).mono ?_; rintro e w10 ⟨rfl, hb10⟩
               have hA10 := Aside0.mk (Kd.R_below HA9.out hb10)
               have hM10 := Aside0.mk (Kd.R_below hM9.out hb10)
               have hI10 := Aside0.mk (fun j hj => (hI9.out j hj).imp fun A h => h.imp fun c h => (And.intro h.1 (Kd.R_below h.2 hb10)))
               have hN10 := Aside0.mk (Kd.R_below hN9.out hb10)
               have HB10 := Aside0.mk (HB9.out.trans (hb10.mono HB9.out.size))
               clear hb10 k0 k1 k2)
            | (at_builtin
               have hbo : Below w10.heap.size w10 (w10.alloc (.cells #[.int .i64 sK, .int .u64 sT, .slice A3 sl.length c3] 33)) := (Below.refl _ w10).alloc (Nat.le_refl _) _
               refine Kd.R_append_rows (Kd.raw 3) (w0 := w1) w1.heap.size rfl (.tmp 48) (.tmp 51) 26 33 (.agg #[(.int .i64 0), (.int .u64 0), (.slice none 0 0)]) 40 rfl Try.underlying26 info33r rfl (by decide) (by omega) u7 rows [[.int .i64 sK, .int .u64 sT, .slice A3 sl.length c3]] _ _ _ (fun _ => True) (fun _ => False) rfl rfl (Kd.R_below hM10.out hbo) (raw_one (World.alloc_heap_new w10 _)) (fun _ _ h => h) (fun _ h => h.elim) (fun _ _ => trivial) (HB10.out.alloc HB10.out.size _) (by have := HB10.out.size; simp; omega) (by rw [hrl]; omega) ?_
               intro v11 w11 hr11 hb11 hg11 hat11
               have hA11 := Kd.R_over (Kd.R_below hA10.out hbo) (Kd.R_below hM10.out hbo) (by decide) hg11
               have hI11 := fun j hj => (hI10.out j hj).imp fun A h => h.imp fun c h => (And.intro h.1 (Kd.R_over (Kd.R_below h.2 hbo) (Kd.R_below hM10.out hbo) (by decide) hg11))
               have hN11 := Kd.R_over (Kd.R_below hN10.out hbo) (Kd.R_below hM10.out hbo) (by decide) hg11
               have HNX := Aside0.mk (RW2.next hrl hA11 hr11 hI11 HSM.out hN11)
               have HB11 := Aside0.mk hb11
               clear hr11 hb11 hg11 hat11 hA11 hI11 hN11 hbo))
          exact ⟨⟨i + 1, by simp, by omega, HNX.out, by intro h; omega, HB11.out⟩, by simp [intOf]; omega⟩
        · rw [if_neg hki] at HCALL
          have hki2 : ¬ (i : Int) < (keys.length : Int) := by omega
          go_upto_region 13 with (first
            | (go_at_call 14; refine (HCALL.out _ (Below.refl _ _)).mono ?_; rintro e w5 ⟨A3, c3, v4, rfl, hR3, hb3⟩
               have HR3 := Aside0.mk hR3
               have HB3 := Aside0.mk hb3
               clear hR3 hb3))
          have hX := World.alloc_heap_new w5 (.cells #[.int .i64 sK, .int .u64 sT, .slice A3 sl.length c3] 30)
          have hW1 : Below wr.heap.size wr (w5.alloc (.cells #[.int .i64 sK, .int .u64 sT, .slice A3 sl.length c3] 30)) := HB3.out.alloc HB3.out.size _
          have hRI := Kd.R_lower (base' := w1.heap.size) (Kd.R_alloc HR3.out (.cells #[.int .i64 sK, .int .u64 sT, .slice A3 sl.length c3] 30)) hsb
          have hgX : wr.heap.size ≤ w5.heap.size := HB3.out.size
          generalize hge : w5.heap.size = gX at *
          clear hge HR3 HB3
          generalize (w5.alloc (.cells #[.int .i64 sK, .int .u64 sT, .slice A3 sl.length c3] 30)) = w6 at *
          have k0 := blk_cell hX 0
          have k1 := blk_cell hX 1
          have k2 := blk_cell hX 2
          simp only [List.getElem?_toArray, List.getElem?_cons_zero, List.getElem?_cons_succ] at k0 k1 k2
          obtain ⟨rows, hrl, hA, hMM, hri⟩ := (HRW.out.below hW1).rows
          have hneA : some gX ≠ u6.ownBlock := fun e => by
            obtain ⟨rows', _, hA', _, _⟩ := HRW.out.rows
            have := (Kd.R_bound hA').1 gX e.symm
            omega
          have hneM : some gX ≠ u7.ownBlock := fun e => by
            obtain ⟨rows', _, _, hM', _⟩ := HRW.out.rows
            have := (Kd.R_bound hM').1 gX e.symm
            omega
          have hb6 := HB.out.trans (hW1.mono hsb)
          have HA := Aside0.mk hA
          have HM := Aside0.mk hMM
          have HI := Aside0.mk hri
          have HX := Aside0.mk hX
          have HRI := Aside0.mk hRI
          have HB6 := Aside0.mk hb6
          clear hA hMM hri hX hRI hb6 hW1
          go_upto_region 14 with (first
            | (at_builtin
               have hbo : Below w6.heap.size w6 (w6.alloc (.cells #[.int .i64 sK, .int .u64 sT, .slice A3 sl.length c3] 30)) := (Below.refl _ w6).alloc (Nat.le_refl _) _
               refine Kd.R_append_rows (Kd.raw 3) (w0 := w1) w1.heap.size rfl (.tmp 44) (.tmp 46) 25 30 (.agg #[(.int .i64 0), (.int .u64 0), (.slice none 0 0)]) 40 rfl Try.underlying25 info30 rfl (by decide) (by omega) u6 rows [[.int .i64 sK, .int .u64 sT, .slice A3 sl.length c3]] _ _ _ (fun _ => True) (fun _ => False) rfl rfl (Kd.R_below HA.out hbo) (raw_one (World.alloc_heap_new w6 _)) (fun _ _ h => h) (fun _ h => h.elim) (fun _ _ => trivial) (HB6.out.alloc HB6.out.size _) (by have := HB6.out.size; simp; omega) (by rw [hrl]; omega) ?_
               intro v9 w9 hr9 hb9 hg9 hat9
               have hX9 := blk_grown ((hbo.block gX (Array.getElem?_eq_some_iff.1 HX.out).1).trans HX.out) hg9 hneA
               have hM9 := Kd.R_over (Kd.R_below HM.out hbo) (Kd.R_below HA.out hbo) (by decide) hg9
               have hI9 := fun j hj => (HI.out j hj).imp fun A h => h.imp fun c h => (And.intro h.1 (Kd.R_over (Kd.R_below h.2 hbo) (Kd.R_below HA.out hbo) (by decide) hg9))
               have hN9 := Kd.R_over (Kd.R_below HRI.out hbo) (Kd.R_below HA.out hbo) (by decide) hg9
               have HA9 := Aside0.mk hr9
               have HB9 := Aside0.mk hb9
               replace hX9 := Aside0.mk hX9
               replace hM9 := Aside0.mk hM9
               replace hI9 := Aside0.mk hI9
               replace hN9 := Aside0.mk hN9
               clear hr9 hb9 hg9 hat9 k0 k1 k2 hbo))
          have k0 := blk_cell hX9.out 0
          have k1 := blk_cell hX9.out 1
          have k2 := blk_cell hX9.out 2
          simp only [List.getElem?_toArray, List.getElem?_cons_zero, List.getElem?_cons_succ] at k0 k1 k2
          go_wp2_with (first
            | (go_at_call 15; refine (made18 _ _ _ _ _ _).mono ?_; rintro e w10 ⟨rfl, hb10⟩
               have hA10 := Aside0.mk (Kd.R_below HA9.out hb10)
               have hM10 := Aside0.mk (Kd.R_below hM9.out hb10)
               have hI10 := Aside0.mk (fun j hj => (hI9.out j hj).imp fun A h => h.imp fun c h => (And.intro h.1 (Kd.R_below h.2 hb10)))
               have hN10 := Aside0.mk (Kd.R_below hN9.out hb10)
               have HB10 := Aside0.mk (HB9.out.trans (hb10.mono HB9.out.size))
               clear hb10 k0 k1 k2)
            | (at_builtin
               have hbo : Below w10.heap.size w10 (w10.alloc (.cells #[.int .i64 sK, .int .u64 sT, .slice A3 sl.length c3] 33)) := (Below.refl _ w10).alloc (Nat.le_refl _) _
               refine Kd.R_append_rows (Kd.raw 3) (w0 := w1) w1.heap.size rfl (.tmp 48) (.tmp 51) 26 33 (.agg #[(.int .i64 0), (.int .u64 0), (.slice none 0 0)]) 40 rfl Try.underlying26 info33r rfl (by decide) (by omega) u7 rows [[.int .i64 sK, .int .u64 sT, .slice A3 sl.length c3]] _ _ _ (fun _ => True) (fun _ => False) rfl rfl (Kd.R_below hM10.out hbo) (raw_one (World.alloc_heap_new w10 _)) (fun _ _ h => h) (fun _ h => h.elim) (fun _ _ => trivial) (HB10.out.alloc HB10.out.size _) (by have := HB10.out.size; simp; omega) (by rw [hrl]; omega) ?_
               intro v11 w11 hr11 hb11 hg11 hat11
               have hA11 := Kd.R_over (Kd.R_below hA10.out hbo) (Kd.R_below hM10.out hbo) (by decide) hg11
               have hI11 := fun j hj => (hI10.out j hj).imp fun A h => h.imp fun c h => (And.intro h.1 (Kd.R_over (Kd.R_below h.2 hbo) (Kd.R_below hM10.out hbo) (by decide) hg11))
               have hN11 := Kd.R_over (Kd.R_below hN10.out hbo) (Kd.R_below hM10.out hbo) (by decide) hg11
               have HNX := Aside0.mk (RW2.next hrl hA11 hr11 hI11 HSM.out hN11)
               have HB11 := Aside0.mk hb11
               clear hr11 hb11 hg11 hat11 hA11 hI11 hN11 hbo))
          exact ⟨⟨i + 1, by simp, by omega, HNX.out, by intro h; omega, HB11.out⟩, by simp [intOf]; omega⟩
      · obtain rfl : i = lls.length := by omega
        have heach : ∀ s ∈ sms, ∃ all, MG s.K s.T s.l all ∧ 1 ≤ s.K ∧ s.K ≤ 8 := fun s hs => by
          obtain ⟨j, hj, rfl⟩ := List.getElem_of_mem hs
          obtain ⟨all, _, hM, h1, h8⟩ := HMS.out j (by omega)
          have e : sms.getD j zSm = sms[j] := by simp [hj]
          rw [e] at hM h1 h8
          exact ⟨all, hM, h1, h8⟩
        rw [← hsl] at HRW hz hlt
        obtain ⟨Aa, ca, rfl, hca, hk30⟩ := HRW.out.k30
        obtain ⟨Am, cm, rfl, hsx⟩ := HRW.out.sx
        obtain ⟨rK, rT, rl, re, hrl, hm1, hm2⟩ := merges_both heach (by omega) hsx (fun h => by have := hz h; injection this with a1 a2 a3; exact ⟨a1, a3⟩) hca hk30
        obtain ⟨mm, hml, hs1', hs2'⟩ := sums_both (cm := cm) (ca := ca) heach (by omega) hsx hca hk30
        have HM1 := Aside0.mk hm1
        have HM2 := Aside0.mk hm2
        have HS1 := Aside0.mk hs1'
        have HS2 := Aside0.mk hs2'
        clear hk30 hsx hm1 hm2 hs1' hs2' heach HRW HMS hsl hz
        go_wp2_with (first
          | (go_at_call 16; refine (HM1.out _ (Below.refl _ _)).mono ?_; rintro e w5 ⟨A3, c3, rfl, hR3, hb3⟩
             have hb5 := Aside0.mk (hb3.alloc hb3.size (.cells #[.int .i64 rK, .int .u64 rT, .slice A3 rl.length c3] 33))
             have hX5 := Aside0.mk (World.alloc_heap_new w5 (.cells #[.int .i64 rK, .int .u64 rT, .slice A3 rl.length c3] 33))
             have hR5 := Aside0.mk (Kd.R_alloc hR3 (.cells #[.int .i64 rK, .int .u64 rT, .slice A3 rl.length c3] 33))
             have hz5 : w5.heap.size < (w5.alloc (.cells #[.int .i64 rK, .int .u64 rT, .slice A3 rl.length c3] 33)).heap.size := by simp
             clear hR3 hb3)
          | (go_at_call 17; refine (HM2.out _ hb5.out).mono ?_; rintro e w6 ⟨A4, c4, rfl, hR4, hb4⟩
             have hb6 := Aside0.mk (hb5.out.trans ((hb4.alloc hb4.size (.cells #[.int .i64 rK, .int .u64 rT, .slice A4 rl.length c4] 30)).mono hb5.out.size))
             have e5 := ((hb4.alloc hb4.size (.cells #[.int .i64 rK, .int .u64 rT, .slice A4 rl.length c4] 30)).block _ hz5).trans hX5.out
             have e6 := World.alloc_heap_new w6 (.cells #[.int .i64 rK, .int .u64 rT, .slice A4 rl.length c4] 30)
             have hR6 := Aside0.mk (Kd.R_below hR5.out (hb4.alloc hb4.size (.cells #[.int .i64 rK, .int .u64 rT, .slice A4 rl.length c4] 30)))
             have hR7 := Aside0.mk (Kd.R_alloc hR4 (.cells #[.int .i64 rK, .int .u64 rT, .slice A4 rl.length c4] 30))
             have x0 := blk_cell e5 0
             have x1 := blk_cell e5 1
             have x2 := blk_cell e5 2
             have y0 := blk_cell e6 0
             have y1 := blk_cell e6 1
             have y2 := blk_cell e6 2
             simp only [List.getElem?_toArray, List.getElem?_cons_zero, List.getElem?_cons_succ] at x0 x1 x2 y0 y1 y2
             clear hR4 hb4 e5 e6)
          | (go_at_call 18; refine (skylightlaw18_same.calls 400 rK rT A3 c3 rl rK rT A4 c4 rl true _ (Kd.R_reads' hR6.out).2.2 (Kd.R_reads' hR6.out).2.1 (Kd.R_reads' hR7.out).2.2 (Kd.R_reads' hR7.out).2.1 (same18_eq hrl)).mono ?_; rintro e w7 ⟨rfl, hb7⟩
             have hb8 := Aside0.mk (below_call hb6.out hb7)
             clear hb7)
          | (go_at_call 20; refine (HS1.out _ hb8.out).mono ?_; rintro e w9 ⟨A5, c5, rfl, hR8, hb9⟩
             have hb10 := Aside0.mk (below_call hb8.out hb9)
             replace hR8 := Aside0.mk hR8
             clear hb9)
          | (go_at_call 21; refine (HS2.out _ hb10.out).mono ?_; rintro e w11 ⟨A6, c6, rfl, hR9, hb11⟩
             have hb12 := Aside0.mk (below_call hb10.out hb11)
             have hR10 := Aside0.mk (Kd.R_below hR8.out hb11)
             replace hR9 := Aside0.mk hR9
             clear hb11)
          | (go_at_call 19; refine (skylightref13_Items.calls 400 A5 c5 mm A6 c6 mm true _ (Kd.R_reads' hR10.out).2.2 (Kd.R_reads' hR10.out).2.1 (Kd.R_reads' hR9.out).2.2 (Kd.R_reads' hR9.out).2.1 (items13_eq hml)).mono ?_; rintro e w13 ⟨rfl, hb13⟩
             have hb14 := Aside0.mk (below_call hb12.out hb13.below)
             clear hb13))
        all_goals (go_ret; exact ⟨rfl, HB1.out.trans ((HB.out.trans (hb14.out.mono hsb)).mono hs1)⟩)
end Go.Proofs.Ytohginlodlijkaa.PH
