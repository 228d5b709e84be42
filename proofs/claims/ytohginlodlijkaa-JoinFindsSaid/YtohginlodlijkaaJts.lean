/- The walk of JoinTurns. -/
import Derived.Deep.RegionHeld3
import Derived.Deep.DrawnRows
import Derived.Deep.DeepCutAuto
import Derived.Test.YtohginlodlijkaaJmg
namespace Go.Proofs.Ytohginlodlijkaa.PH
open Go.RowKit Go.Proofs.YtohginlodlijkaaW.PrintWords Go.Proofs.YtohginlodlijkaaW.PrintLast Go.Proofs.YtohginlodlijkaaW.PrintMore
theorem Mades.gs {a0 K : Int} {lst als : List (List S51)} {sms : List Sm} (h : Mades a0 K lst sms als) {j : Nat} (hj : j < lst.length) : GS K (sms.getD j zSm) (als.getD j []) := by
  obtain ⟨e, _, hm, _⟩ := h.at' j hj
  have := hm.gs
  rw [show (⟨K, (sms.getD j zSm).T, (sms.getD j zSm).l⟩ : Sm) = sms.getD j zSm by rw [← e]] at this
  exact this
theorem mok3 {K : Int} (hK1 : 1 ≤ K) (hK8 : K ≤ 8) {s0 s1 s2 : Sm} {b0 b1 b2 : List S51} (h0 : GS K s0 b0) (h1 : GS K s1 b1) (h2 : GS K s2 b2) : MOk [s0, s1, s2] :=
  mok_all hK1 hK8 (ps := [(s0, b0), (s1, b1), (s2, b2)]) (by simp; exact ⟨h0, h1, h2⟩) (by simp) (by simp)
theorem mok2 {K : Int} (hK1 : 1 ≤ K) (hK8 : K ≤ 8) {s0 s1 : Sm} {b0 b1 : List S51} (h0 : GS K s0 b0) (h1 : GS K s1 b1) : MOk [s0, s1] :=
  mok_all hK1 hK8 (ps := [(s0, b0), (s1, b1)]) (by simp; exact ⟨h0, h1⟩) (by simp) (by simp)
theorem mok1 {K : Int} (hK1 : 1 ≤ K) (hK8 : K ≤ 8) {s0 : Sm} {b0 : List S51} (h0 : GS K s0 b0) : MOk [s0] :=
  mok_all hK1 hK8 (ps := [(s0, b0)]) (by simp; exact h0) (by simp) (by simp)
theorem sx1 {W : World} {base : Nat} {K0 T0 : Int} {q0 : List S51} {S0 : Option Addr} {d0 : Nat} (r0 : Kd.R k51 51 W base (fun _ => True) (.slice S0 q0.length d0) q0) :
    SX (W.alloc (.cells #[.int .i64 K0, .int .u64 T0, .slice S0 q0.length d0] 33)) (some ⟨W.heap.size, 0, none⟩) [⟨K0, T0, q0⟩] := by
  have hb := (Below.refl _ W).alloc (Nat.le_refl _) (.cells #[.int .i64 K0, .int .u64 T0, .slice S0 q0.length d0] 33)
  refine SX.of_block (World.alloc_heap_new W _) (fun i hi => ?_)
  have hi3 : i < 1 := hi
  obtain rfl : i = 0 := by omega
  exact ⟨S0, d0, rfl, rfl, rfl, Kd.C_below (Kd.R_reads' r0).2.2 hb⟩
theorem sx3g {W : World} {g base : Nat} {K0 K1 K2 T0 T1 T2 : Int} {q0 q1 q2 : List S51} {S0 S1 S2 : Option Addr} {d0 d1 d2 : Nat} (hg : g = W.heap.size) (r0 : Kd.R k51 51 W base (fun _ => True) (.slice S0 q0.length d0) q0) (r1 : Kd.R k51 51 W base (fun _ => True) (.slice S1 q1.length d1) q1) (r2 : Kd.R k51 51 W base (fun _ => True) (.slice S2 q2.length d2) q2) :
    SX (W.alloc (.cells #[.int .i64 K0, .int .u64 T0, .slice S0 q0.length d0, .int .i64 K1, .int .u64 T1, .slice S1 q1.length d1, .int .i64 K2, .int .u64 T2, .slice S2 q2.length d2] 33)) (some ⟨g, 0, none⟩) [⟨K0, T0, q0⟩, ⟨K1, T1, q1⟩, ⟨K2, T2, q2⟩] := hg ▸ sx3 r0 r1 r2
theorem SX.drew {W : World} {Al : Option Addr} {ls : List Sm} (h : SX W Al ls) : SX W.drew Al ls := h
theorem SX.alloc {W : World} {Al : Option Addr} {ls : List Sm} (h : SX W Al ls) (o : Obj) : SX (W.alloc o) Al ls := h.kept (KeepsCells.of_below ((Below.refl _ W).alloc (Nat.le_refl _) o))
set_option maxHeartbeats 8000000 in
set_option maxRecDepth 100000 in
theorem joinTurns_true (a0 y : Int) (A0 A1 A2 : Option Addr) (c0 c1 c2 : Nat) (l0 l1 l2 : List S51) (w : World) (hy : (Lit.int .u8 y).wf = true) (hC0 : Kd.C k51 w A0 l0.length l0) (hC1 : Kd.C k51 w A1 l1.length l1) (hC2 : Kd.C k51 w A2 l2.length l2) (hc0 : l0.length ≤ c0) (hc1 : l1.length ≤ c1) (hc2 : l2.length ≤ c2)
    (hl : ∀ l ∈ [l0, l1, l2], ∀ t ∈ l, 0 ≤ t.f0 ∧ 0 ≤ t.f1 ∧ t.f1 < 18446744073709551616) :
    Calls Try.prog 4 #[.int .i64 a0, .agg #[.slice A0 l0.length c0, .slice A1 l1.length c1, .slice A2 l2.length c2], .int .u8 y] w fun e w' => e = .returned (.bool true) ∧ Below w.heap.size w w' := by
  obtain ⟨sms, als, hM⟩ := made_all a0 [l0, l1, l2] hl
  obtain ⟨hK1, hK8⟩ := keys_range a0
  have hy0 : 0 ≤ y ∧ y < 256 := by simp [Lit.wf, IntKind.min, IntKind.max, IntKind.signed, IntKind.bits] at hy; omega
  obtain ⟨n, hn⟩ : ∃ n : Nat, y % 3 = (n : Int) := ⟨(y % 3).toNat, by omega⟩
  have hn3 : n < 3 := by omega
  have hnt : y.tmod 3 = (n : Int) := by rw [Int.tmod_eq_emod_of_nonneg hy0.1]; exact hn
  clear hy
  generalize 1 + (mx a0 0) % 8 = K at *
  have HB0 := (Below.refl _ w).alloc (Nat.le_refl _) (.cells #[.slice A0 l0.length c0, .slice A1 l1.length c1, .slice A2 l2.length c2] 45)
  have HT := Aside0.mk (hM.tri (W0 := w.alloc (.cells #[.slice A0 l0.length c0, .slice A1 l1.length c1, .slice A2 l2.length c2] 45)) (World.alloc_heap_new w _) (fun i hi => by
    have hi3 : i < 3 := hi
    rcases (show i = 0 ∨ i = 1 ∨ i = 2 by omega) with rfl | rfl | rfl
    · exact ⟨A0, c0, rfl, hc0, Kd.C_below hC0 HB0⟩
    · exact ⟨A1, c1, rfl, hc1, Kd.C_below hC1 HB0⟩
    · exact ⟨A2, c2, rfl, hc2, Kd.C_below hC2 HB0⟩))
  replace HB0 := Aside0.mk HB0
  have HM := Aside0.mk hM
  clear hM hC0 hC1 hC2 hc0 hc1 hc2 hl
  go_enter Try.func4, Try.ntmps4
  go_wp2_with (first
    | (go_at_call 13; refine (awake18_true _).mono ?_; rintro e w1 ⟨rfl, hb1⟩; have HB1 := Aside0.mk hb1; clear hb1))
  have hT : ∀ W, Below w1.heap.size w1 W → Tri a0 K w.heap.size 3 sms als W := fun W hW => (HT.out.below HB1.out).below hW
  have hB1 : Below w.heap.size w w1 := HB0.out.trans (HB1.out.mono (by simp))
  have hs1 := hB1.size
  replace hT := Aside0.mk hT
  replace hB1 := Aside0.mk hB1
  clear HT HB0 HB1
  go_loopw [9] (fun iv wr => ∃ i : Nat, iv = .int .i64 i ∧ i ≤ 3 ∧ AR w w1.heap.size 3 46 sms i wr ∧ Below w1.heap.size w1 wr) (fun iv _ => 3 - (intOf iv).toNat)
  case atStart =>
    refine ⟨0, rfl, by omega, ⟨_, World.alloc_heap_new w1 _, rfl, fun j hj => by omega⟩, (Below.refl _ w1).alloc (Nat.le_refl _) _⟩
  case round =>
    obtain ⟨i, rfl, hi, hA, hb⟩ := hrel
    by_cases hlt : i < 3
    · obtain ⟨Aa, m, ca, hcell, hcall⟩ := hT.out wr hb i hlt
      have HA := Aside0.mk hA
      have HB := Aside0.mk hb
      have HCELL := Aside0.mk hcell
      have hsb := hb.size
      have hgl := hA.lt
      obtain ⟨mk, m1, m2, m3⟩ := HM.out.at' i hlt
      have hsm : ∃ sT sl, sms.getD i zSm = ⟨K, sT, sl⟩ := ⟨_, _, by rw [← mk]⟩
      obtain ⟨sT, sl, hsm⟩ := hsm
      rw [hsm] at hcall
      have HCALL := Aside0.mk hcall
      have HSM := Aside0.mk hsm
      clear hA hb hcall m1 m2 m3 mk hsm hn hnt
      go_upto_region 7 with (first
        | (go_at_call 14; refine (HCALL.out _ (Below.refl _ _)).mono ?_; rintro e w5 ⟨A3, c3, A4, c4, rfl, hR3, hR4, hb3⟩
           have HR3 := Aside0.mk hR3
           have HB3 := Aside0.mk hb3
           have n0 : (w5.alloc (.cells #[.int .i64 K, .int .u64 sT, .slice A3 sl.length c3] 30)).cell? ⟨w5.heap.size, 0, none⟩ = some (.int .i64 K) := blk_cell (World.alloc_heap_new w5 _) 0
           clear hR3 hb3 hR4))
      have hb5 : Below wr.heap.size wr (w5.alloc (.cells #[.int .i64 K, .int .u64 sT, .slice A3 sl.length c3] 30)) := HB3.out.alloc HB3.out.size _
      have HR5 := Aside0.mk (Kd.R_alloc HR3.out (.cells #[.int .i64 K, .int .u64 sT, .slice A3 sl.length c3] 30))
      replace hb5 := Aside0.mk hb5
      have hn1 := blk_cell (World.alloc_heap_new w5 (.cells #[.int .i64 K, .int .u64 sT, .slice A3 sl.length c3] 30)) 1
      have hn2 := blk_cell (World.alloc_heap_new w5 (.cells #[.int .i64 K, .int .u64 sT, .slice A3 sl.length c3] 30)) 2
      simp only [List.getElem?_toArray, List.getElem?_cons_zero, List.getElem?_cons_succ] at hn1 hn2
      generalize (w5.alloc (.cells #[.int .i64 K, .int .u64 sT, .slice A3 sl.length c3] 30)) = w6 at *
      go_wp2_with (first
        | (go_at_call 15; refine (made18 _ _ _ _ _ _).mono ?_; rintro e w7 ⟨rfl, hb7⟩
           have hA7 := (HA.out.below hb5.out).below hb7
           obtain ⟨v0, o0⟩ := hA7.old (j := i * 3) (by omega)
           obtain ⟨v1, o1⟩ := hA7.old (j := i * 3 + 1) (by omega)
           obtain ⟨v2, o2⟩ := hA7.old (j := i * 3 + 2) (by omega)
           have g0 := hA7.frozen (i * 3)
           have g1 := hA7.frozen (i * 3 + 1)
           have g2 := hA7.frozen (i * 3 + 2)
           have HA7 := Aside0.mk hA7
           have HB7 := Aside0.mk hb7
           clear hA7 hb7))
      have hw7 : Below wr.heap.size wr w7 := hb5.out.trans (HB7.out.mono hb5.out.size)
      have h1 := HA7.out.step hlt (by decide) HSM.out (Kd.R_below (Kd.R_lower HR5.out (by omega)) HB7.out)
      have h2 : Below w1.heap.size w1 w7 := HB.out.trans (hw7.mono hsb)
      refine ⟨⟨i + 1, by simp, by omega, ?_, ?_⟩, ?_⟩
      · exact h1
      · exact ((h2.setCell (p := ⟨w1.heap.size, i * 3, none⟩) (Nat.le_refl _) _).setCell (p := ⟨w1.heap.size, i * 3 + 1, none⟩) (Nat.le_refl _) _).setCell (p := ⟨w1.heap.size, i * 3 + 2, none⟩) (Nat.le_refl _) _
      · simp [intOf]; omega
    · obtain rfl : i = 3 := by omega
      have hG := fun j (hj : j < 3) => HM.out.gs (j := j) hj
      obtain ⟨T0, q0, b0, T1, q1, b1, T2, q2, b2, rfl, rfl, _, _, _⟩ := HM.out.three
      obtain ⟨S0, d0, x0, x1, x2, r0⟩ := hA.at (j := 0) (by omega)
      obtain ⟨S1, d1, y0, y1, y2, r1⟩ := hA.at (j := 1) (by omega)
      obtain ⟨S2, d2, z0, z1, z2, r2⟩ := hA.at (j := 2) (by omega)
      simp only [List.getD_cons_zero, List.getD_cons_succ, Nat.zero_mul, Nat.one_mul, Nat.reduceMul, Nat.zero_add, Nat.reduceAdd] at x0 x1 x2 y0 y1 y2 z0 z1 z2 r0 r1 r2
      have HOK := Aside0.mk (mok3 hK1 hK8 (hG 0 (by omega)) (hG 1 (by omega)) (hG 2 (by omega)))
      simp only [List.getD_cons_zero, List.getD_cons_succ] at HOK
      have HA := Aside0.mk hA
      have HB := Aside0.mk hb
      have R0 := Aside0.mk r0
      have R1 := Aside0.mk r1
      have R2 := Aside0.mk r2
      have HG := Aside0.mk hG
      clear hA hb r0 r1 r2 hT HM hG hlt hi
      have hml := Aside0.mk (mrg_len HOK.out)
      generalize hmr : mrg [⟨K, T0, q0⟩, ⟨K, T1, q1⟩, ⟨K, T2, q2⟩] = mr at *
      obtain ⟨⟨mK, mT, ml⟩, me⟩ := mr
      replace hmr := Aside0.mk hmr
      go_upto_region 10 with (first
        | (go_at_call 16; refine (merge_any _ _ 3 [⟨K, T0, q0⟩, ⟨K, T1, q1⟩, ⟨K, T2, q2⟩] _ (sx3 R0.out R1.out R2.out) HOK.out rfl).mono ?_; rw [hmr.out]; rintro e w6 ⟨A6, c6, rfl, hR6, hb6⟩
           have hw6 := Aside0.mk (((Below.refl _ wr).alloc (Nat.le_refl _) _).trans (hb6.mono (by simp)))
           replace hR6 := Aside0.mk (Kd.R_lower (base' := wr.heap.size) hR6 (by simp))
           clear hb6))
      have hGA := World.alloc_heap_new w6 (.cells #[.int .i64 mK, .int .u64 mT, .slice A6 ml.length c6] 33)
      have hW1 : Below wr.heap.size wr (w6.alloc (.cells #[.int .i64 mK, .int .u64 mT, .slice A6 ml.length c6] 33)) := hw6.out.alloc hw6.out.size _
      have hRA := Kd.R_alloc hR6.out (.cells #[.int .i64 mK, .int .u64 mT, .slice A6 ml.length c6] 33)
      have hgA : w6.heap.size < (w6.alloc (.cells #[.int .i64 mK, .int .u64 mT, .slice A6 ml.length c6] 33)).heap.size := by simp
      generalize hgAe : w6.heap.size = gA at *
      clear hgAe hw6 hR6 x0 x1 x2 y0 y1 y2 z0 z1 z2
      generalize (w6.alloc (.cells #[.int .i64 mK, .int .u64 mT, .slice A6 ml.length c6] 33)) = W1 at *
      have hB2 := Aside0.mk (hB1.out.trans ((HB.out.trans (hW1.mono HB.out.size)).mono hs1))
      have HA1 := HA.out.below hW1
      have hWs := hW1.size
      have hws := hB2.out.size
      replace hGA := Aside0.mk hGA
      replace hRA := Aside0.mk (Kd.R_lower (base' := w.heap.size) hRA (by have := HB.out.size; omega))
      clear HA HB hW1 R0 R1 R2 hB1
      obtain ⟨a, hea⟩ : ∃ a, a = (n + 2) % 3 := ⟨_, rfl⟩
      obtain ⟨b, heb⟩ : ∃ b, b = (n + 1) % 3 := ⟨_, rfl⟩
      have ha3 : a < 3 := by omega
      have hb3 : b < 3 := by omega
      obtain ⟨Sa, da, x0, x1, x2, ra⟩ := HA1.at ha3
      obtain ⟨Sb, db, y0, y1, y2, rb⟩ := HA1.at hb3
      obtain ⟨Sn, dn, z0, z1, z2, rn⟩ := HA1.at hn3
      have hga := HG.out a ha3
      have hgb := HG.out b hb3
      have hgn := HG.out n hn3
      have htu : (([⟨K, T0, q0⟩, ⟨K, T1, q1⟩, ⟨K, T2, q2⟩] : List Sm).getD a zSm = ⟨K, T2, q2⟩ ∧ ([⟨K, T0, q0⟩, ⟨K, T1, q1⟩, ⟨K, T2, q2⟩] : List Sm).getD b zSm = ⟨K, T1, q1⟩ ∧ ([⟨K, T0, q0⟩, ⟨K, T1, q1⟩, ⟨K, T2, q2⟩] : List Sm).getD n zSm = ⟨K, T0, q0⟩) ∨
          (([⟨K, T0, q0⟩, ⟨K, T1, q1⟩, ⟨K, T2, q2⟩] : List Sm).getD a zSm = ⟨K, T0, q0⟩ ∧ ([⟨K, T0, q0⟩, ⟨K, T1, q1⟩, ⟨K, T2, q2⟩] : List Sm).getD b zSm = ⟨K, T2, q2⟩ ∧ ([⟨K, T0, q0⟩, ⟨K, T1, q1⟩, ⟨K, T2, q2⟩] : List Sm).getD n zSm = ⟨K, T1, q1⟩) ∨
          (([⟨K, T0, q0⟩, ⟨K, T1, q1⟩, ⟨K, T2, q2⟩] : List Sm).getD a zSm = ⟨K, T1, q1⟩ ∧ ([⟨K, T0, q0⟩, ⟨K, T1, q1⟩, ⟨K, T2, q2⟩] : List Sm).getD b zSm = ⟨K, T0, q0⟩ ∧ ([⟨K, T0, q0⟩, ⟨K, T1, q1⟩, ⟨K, T2, q2⟩] : List Sm).getD n zSm = ⟨K, T2, q2⟩) := by
        rcases (show n = 0 ∨ n = 1 ∨ n = 2 by omega) with rfl | rfl | rfl
        · subst hea heb; exact .inl ⟨rfl, rfl, rfl⟩
        · subst hea heb; exact .inr (.inl ⟨rfl, rfl, rfl⟩)
        · subst hea heb; exact .inr (.inr ⟨rfl, rfl, rfl⟩)
      have HA1 := Aside0.mk HA1
      generalize ([⟨K, T0, q0⟩, ⟨K, T1, q1⟩, ⟨K, T2, q2⟩] : List Sm).getD a zSm = sa at *
      generalize ([⟨K, T0, q0⟩, ⟨K, T1, q1⟩, ⟨K, T2, q2⟩] : List Sm).getD b zSm = sb at *
      generalize ([⟨K, T0, q0⟩, ⟨K, T1, q1⟩, ⟨K, T2, q2⟩] : List Sm).getD n zSm = sn at *
      have hm2 := (mrg_turn (s0 := ⟨K, T0, q0⟩) (s1 := ⟨K, T1, q1⟩) (s2 := ⟨K, T2, q2⟩) (a := sa) (b := sb) (c := sn) rfl rfl htu).trans hmr.out
      have hok2 := mok3 hK1 hK8 hga hgb hgn
      have hm1 := mrg_one hK1 hgn
      have hok1 := mok1 hK1 hK8 hgn
      obtain ⟨Ka, Ta, qa⟩ := sa
      obtain ⟨Kb, Tb, qb⟩ := sb
      obtain ⟨Kn, Tn, qn⟩ := sn
      simp only at x0 x1 x2 y0 y1 y2 z0 z1 z2 ra rb rn
      obtain rfl : Ka = K := hga.keys
      obtain rfl : Kb = Ka := hgb.keys
      obtain rfl : Kn = Kb := hgn.keys
      have hqn : qn.length ≤ 8 := by have := hgn.len; simp only at this; omega
      replace ra := Aside0.mk (fun W (hW : Below W1.heap.size W1 W) => Kd.R_below ra hW)
      replace rb := Aside0.mk (fun W (hW : Below W1.heap.size W1 W) => Kd.R_below rb hW)
      replace rn := Aside0.mk (fun W (hW : Below W1.heap.size W1 W) => Kd.R_below rn hW)
      replace hm2 := Aside0.mk hm2
      replace hok2 := Aside0.mk hok2
      replace hm1 := Aside0.mk hm1
      replace hok1 := Aside0.mk hok1
      clear hga hgb hgn htu HG HOK hmr HA1
      have KQ := Aside0.mk (fun W (hW : Below W1.heap.size W1 W) => (show (W.cell? ⟨w1.heap.size, a * 3, none⟩ = some (.int .i64 Kn) ∧ W.cell? ⟨w1.heap.size, a * 3 + 1, none⟩ = some (.int .u64 Ta) ∧ W.cell? ⟨w1.heap.size, a * 3 + 2, none⟩ = some (.slice Sa qa.length da)) ∧ (W.cell? ⟨w1.heap.size, b * 3, none⟩ = some (.int .i64 Kn) ∧ W.cell? ⟨w1.heap.size, b * 3 + 1, none⟩ = some (.int .u64 Tb) ∧ W.cell? ⟨w1.heap.size, b * 3 + 2, none⟩ = some (.slice Sb qb.length db)) ∧ (W.cell? ⟨w1.heap.size, n * 3, none⟩ = some (.int .i64 Kn) ∧ W.cell? ⟨w1.heap.size, n * 3 + 1, none⟩ = some (.int .u64 Tn) ∧ W.cell? ⟨w1.heap.size, n * 3 + 2, none⟩ = some (.slice Sn qn.length dn)) from by
        have kk : ∀ {p : Addr} {v : Value}, W1.cell? p = some v → W.cell? p = some v := fun h => (hW.cell (World.block_lt_of_cell? W1 _ h)).trans h
        exact ⟨⟨kk x0, kk x1, kk x2⟩, ⟨kk y0, kk y1, kk y2⟩, ⟨kk z0, kk z1, kk z2⟩⟩))
      have ea : Int.tmod ((n : Int) + 2) 3 = (a : Int) := by rw [Int.tmod_eq_emod_of_nonneg (by omega)]; omega
      have eb : Int.tmod ((n : Int) + 1) 3 = (b : Int) := by rw [Int.tmod_eq_emod_of_nonneg (by omega)]; omega
      have ea' : ((n : Int) + 2) % 3 = (a : Int) := by omega
      have eb' : ((n : Int) + 1) % 3 = (b : Int) := by omega
      have i0 : (0 : Int) ≤ (a : Int) := by omega
      have i1 : (a : Int) < 3 := by omega
      have i2 : (0 : Int) ≤ (b : Int) := by omega
      have i3 : (b : Int) < 3 := by omega
      have i4 : (0 : Int) ≤ (n : Int) := by omega
      have i5 : (n : Int) < 3 := by omega
      have v0 : IntKind.i64.wrap ((n : Int) + 2) = (n : Int) + 2 := by rw [IntKind.wrap_i64]; omega
      have v1 : IntKind.i64.wrap ((n : Int) + 1) = (n : Int) + 1 := by rw [IntKind.wrap_i64]; omega
      have v2 : IntKind.i64.wrap (a : Int) = (a : Int) := by rw [IntKind.wrap_i64]; omega
      have v3 : IntKind.i64.wrap (b : Int) = (b : Int) := by rw [IntKind.wrap_i64]; omega
      clear hn hnt hy0 hea heb
      have m0 := World.new_ne W1 _ x0
      have hl1 : w1.heap.size < W1.heap.size := World.block_lt_of_cell? W1 _ x0
      have m1 : W1.heap.size + 1 ≠ w1.heap.size := by omega
      go_cut [15, 16] (fun s15 s16 wx => ∃ g : Nat, s15 = .pointer (some ⟨g, 0, none⟩) ∧ s16 = .int .i64 me ∧ JB w W1 33 g mK mT ml wx ∧ Below W1.heap.size W1 wx)
      case first =>
        go_region_held3 (fun w' => (w'.cell? ⟨w1.heap.size, a * 3, none⟩ = some (.int .i64 Kn) ∧ w'.cell? ⟨w1.heap.size, a * 3 + 1, none⟩ = some (.int .u64 Ta) ∧ w'.cell? ⟨w1.heap.size, a * 3 + 2, none⟩ = some (.slice Sa qa.length da)) ∧ (w'.cell? ⟨w1.heap.size, b * 3, none⟩ = some (.int .i64 Kn) ∧ w'.cell? ⟨w1.heap.size, b * 3 + 1, none⟩ = some (.int .u64 Tb) ∧ w'.cell? ⟨w1.heap.size, b * 3 + 2, none⟩ = some (.slice Sb qb.length db)) ∧ (w'.cell? ⟨w1.heap.size, n * 3, none⟩ = some (.int .i64 Kn) ∧ w'.cell? ⟨w1.heap.size, n * 3 + 1, none⟩ = some (.int .u64 Tn) ∧ w'.cell? ⟨w1.heap.size, n * 3 + 2, none⟩ = some (.slice Sn qn.length dn))) (go_keep)
          ((go_at_call 16; refine (merge_any _ _ 3 [⟨Kn, Ta, qa⟩, ⟨Kn, Tb, qb⟩, ⟨Kn, Tn, qn⟩] _ (by (repeat (first | (with_reducible refine sx3g ?_ (ra.out _ ?_) (rb.out _ ?_) (rn.out _ ?_)) | (with_reducible apply SX.drew) | (with_reducible apply SX.alloc))) <;> (first | rfl | (simp; done) | (repeat (first | assumption | exact Below.refl _ _ | apply below_drew1 | apply below_alloc)))) hok2.out rfl).mono ?_; rw [hm2.out]; rintro e w5 ⟨A3, c3, rfl, hR3, hb5⟩
            have hz : Below W1.heap.size W1 w5 := (Below.trans (by repeat (first | assumption | exact Below.refl _ _ | apply below_drew1 | apply below_alloc)) (hb5.mono (by first | exact Nat.le_refl _ | (simp; done) | (simp; omega))))
            obtain ⟨⟨x0, x1, x2⟩, ⟨y0, y1, y2⟩, ⟨z0, z1, z2⟩⟩ := KQ.out _ hz
            have n0 := World.new_ne w5 _ x0
            (try first
              | (have k1 : w5.heap[W1.heap.size]? = some (.cells #[.int .i64 0, .int .u64 0, .slice none 0 0] 33 (0, 0)) := (hb5.block W1.heap.size (by simp; try omega)).trans ((Below.heap_alloc _ _ _ (by simp; try omega)).trans (World.alloc_heap_new W1 (.cells #[.int .i64 0, .int .u64 0, .slice none 0 0] 33)))
                 have t0 := blk_cell k1 0
                 have t1 := blk_cell k1 1
                 have t2 := blk_cell k1 2
                 have f0 := blk_frozen k1 0
                 have f1 := blk_frozen k1 1
                 have f2 := blk_frozen k1 2)
              | (have k1 : w5.heap[W1.heap.size + 1]? = some (.cells #[.int .i64 0, .int .u64 0, .slice none 0 0] 33 (0, 0)) := (hb5.block (W1.heap.size + 1) (by simp; try omega)).trans (new_at (o := .cells #[.int .i64 0, .int .u64 0, .slice none 0 0] 33) (by simp; try omega))
                 have t0 := blk_cell k1 0
                 have t1 := blk_cell k1 1
                 have t2 := blk_cell k1 2
                 have f0 := blk_frozen k1 0
                 have f1 := blk_frozen k1 1
                 have f2 := blk_frozen k1 2))))
        · go_wp2_with fail
          go_meet
          exact ⟨w5.heap.size, rfl, rfl, ⟨⟨A3, c3, World.alloc_heap_new w5 _, Kd.R_alloc (Kd.R_lower hR3 (by simp; omega)) _⟩, hz.size⟩, hz.alloc hz.size _⟩
        · go_wp2_with fail
          go_meet
          refine ⟨W1.heap.size + 1, rfl, rfl, ⟨⟨A3, c3, j3_new k1 _ _ _, j3_R (Kd.R_lower hR3 (by simp; omega)) k1 (by decide) _ _ _⟩, by omega⟩, j3_below hz (by omega) _ _ _⟩
        · go_wp2_with fail
          go_meet
          refine ⟨W1.heap.size, rfl, rfl, ⟨⟨A3, c3, j3_new k1 _ _ _, j3_R (Kd.R_lower hR3 (by simp; omega)) k1 (by decide) _ _ _⟩, by omega⟩, j3_below hz (by omega) _ _ _⟩
      case rest =>
        obtain ⟨gB, rfl, rfl, hJB, hzc⟩ := hcut
        have hzC := Aside0.mk hzc
        have hJ := Aside0.mk hJB
        clear x0 x1 x2 y0 y1 y2 z0 z1 z2 m0 m1 hJB ea eb ea' eb' v0 v1 v2 v3 i0 i1 i2 i3
        obtain ⟨_, _, ⟨z0, z1, z2⟩⟩ := KQ.out wc hzc
        clear hzc
        go_upto_region 12 with (first
          | (go_at_call 16; refine (merge_any _ _ 1 [⟨Kn, Tn, qn⟩] _ (sx1 (rn.out _ hzC.out)) hok1.out rfl).mono ?_; rw [hm1.out]; rintro e w7 ⟨A7, c7, rfl, hR7, hb7⟩
             have hw7 := Aside0.mk (((Below.refl _ wc).alloc (Nat.le_refl _) _).trans (hb7.mono (by simp)))
             replace hR7 := Aside0.mk (Kd.R_lower (base' := wc.heap.size) hR7 (by simp))
             clear hb7))
        have hGC := World.alloc_heap_new w7 (.cells #[.int .i64 Kn, .int .u64 Tn, .slice A7 qn.length c7] 33)
        have hW2 : Below wc.heap.size wc (w7.alloc (.cells #[.int .i64 Kn, .int .u64 Tn, .slice A7 qn.length c7] 33)) := hw7.out.alloc hw7.out.size _
        have hRC := Kd.R_alloc hR7.out (.cells #[.int .i64 Kn, .int .u64 Tn, .slice A7 qn.length c7] 33)
        generalize hgCe : w7.heap.size = gC at *
        clear hgCe hw7 hR7 z0 z1 z2
        generalize (w7.alloc (.cells #[.int .i64 Kn, .int .u64 Tn, .slice A7 qn.length c7] 33)) = W2 at *
        have hZ := Aside0.mk (hzC.out.trans (hW2.mono hzC.out.size))
        obtain ⟨⟨A8, c8, hGB, hRB⟩, _⟩ := hJ.out.below hW2
        have hGA2 := (hZ.out.block gA (Array.getElem?_eq_some_iff.1 hGA.out).1).trans hGA.out
        have RA := Aside0.mk (Kd.R_below hRA.out hZ.out)
        have RB := Aside0.mk hRB
        have RC := Aside0.mk hRC
        have RN := Aside0.mk (rn.out W2 hZ.out)
        have KP := Aside0.mk (fun W (hW : Below W2.heap.size W2 W) => (show (W.cell? ⟨gA, 0, none⟩ = some (.int .i64 mK) ∧ W.cell? ⟨gA, 1, none⟩ = some (.int .u64 mT) ∧ W.cell? ⟨gA, 2, none⟩ = some (.slice A6 ml.length c6)) ∧ (W.cell? ⟨gB, 0, none⟩ = some (.int .i64 mK) ∧ W.cell? ⟨gB, 1, none⟩ = some (.int .u64 mT) ∧ W.cell? ⟨gB, 2, none⟩ = some (.slice A8 ml.length c8)) ∧ (W.cell? ⟨gC, 0, none⟩ = some (.int .i64 Kn) ∧ W.cell? ⟨gC, 1, none⟩ = some (.int .u64 Tn) ∧ W.cell? ⟨gC, 2, none⟩ = some (.slice A7 qn.length c7)) ∧ (W.cell? ⟨w1.heap.size, n * 3, none⟩ = some (.int .i64 Kn) ∧ W.cell? ⟨w1.heap.size, n * 3 + 1, none⟩ = some (.int .u64 Tn) ∧ W.cell? ⟨w1.heap.size, n * 3 + 2, none⟩ = some (.slice Sn qn.length dn)) from by
          have e1 := (hW.block gA (Array.getElem?_eq_some_iff.1 hGA2).1).trans hGA2
          have e2 := (hW.block gB (Array.getElem?_eq_some_iff.1 hGB).1).trans hGB
          have e3 := (hW.block gC (Array.getElem?_eq_some_iff.1 hGC).1).trans hGC
          exact ⟨⟨blk_cell e1 0, blk_cell e1 1, blk_cell e1 2⟩, ⟨blk_cell e2 0, blk_cell e2 1, blk_cell e2 2⟩, ⟨blk_cell e3 0, blk_cell e3 1, blk_cell e3 2⟩, (KQ.out W (hZ.out.trans (hW.mono hZ.out.size))).2.2⟩))
        have HS1 := Aside0.mk (fun W (hW : Below W2.heap.size W2 W) => same18_call (s := ⟨mK, mT, ml⟩) hml.out (Kd.R_below RA.out hW) (Kd.R_below RB.out hW))
        have HS2 := Aside0.mk (fun W (hW : Below W2.heap.size W2 W) => same18_call (s := ⟨Kn, Tn, qn⟩) (by show qn.length ≤ 100; omega) (Kd.R_below RC.out hW) (Kd.R_below RN.out hW))
        have hBF := Aside0.mk (hB2.out.trans (hZ.out.mono hB2.out.size))
        clear hGA2 hGB hGC hRB hRC hW2 hZ hzC hJ RA RB RC RN
        obtain ⟨⟨p0, p1, p2⟩, ⟨q0, q1, q2⟩, ⟨t0, t1, t2⟩, ⟨z0, z1, z2⟩⟩ := KP.out W2 (Below.refl _ W2)
        have hq := Below.refl W2.heap.size W2
        go_cut [6] (fun s6 wy => s6 = .bool true ∧ Below W2.heap.size W2 wy)
        case first =>
          go_region_held3 (fun W => (W.cell? ⟨gA, 0, none⟩ = some (.int .i64 mK) ∧ W.cell? ⟨gA, 1, none⟩ = some (.int .u64 mT) ∧ W.cell? ⟨gA, 2, none⟩ = some (.slice A6 ml.length c6)) ∧ (W.cell? ⟨gB, 0, none⟩ = some (.int .i64 mK) ∧ W.cell? ⟨gB, 1, none⟩ = some (.int .u64 mT) ∧ W.cell? ⟨gB, 2, none⟩ = some (.slice A8 ml.length c8)) ∧ (W.cell? ⟨gC, 0, none⟩ = some (.int .i64 Kn) ∧ W.cell? ⟨gC, 1, none⟩ = some (.int .u64 Tn) ∧ W.cell? ⟨gC, 2, none⟩ = some (.slice A7 qn.length c7)) ∧ (W.cell? ⟨w1.heap.size, n * 3, none⟩ = some (.int .i64 Kn) ∧ W.cell? ⟨w1.heap.size, n * 3 + 1, none⟩ = some (.int .u64 Tn) ∧ W.cell? ⟨w1.heap.size, n * 3 + 2, none⟩ = some (.slice Sn qn.length dn))) (go_keep)
            (first
              | (go_at_call_of 22 (Value.agg #[Value.int .i64 mK, Value.int .u64 mT, Value.slice A6 ml.length c6]); refine (HS1.out _ (by repeat (first | assumption | exact Below.refl _ _ | apply below_drew1 | apply below_alloc))).mono ?_; rintro e w9 ⟨rfl, hb9⟩; have hq9 : Below W2.heap.size W2 w9 := Below.trans (by repeat (first | assumption | exact Below.refl _ _ | apply below_drew1 | apply below_alloc)) (hb9.mono hq.size); clear hq hb9 p0 p1 p2 q0 q1 q2 t0 t1 t2 z0 z1 z2; have hq := hq9; clear hq9; obtain ⟨⟨p0, p1, p2⟩, ⟨q0, q1, q2⟩, ⟨t0, t1, t2⟩, ⟨z0, z1, z2⟩⟩ := KP.out _ hq)
              | (go_at_call_of 22 (Value.agg #[Value.int .i64 Kn, Value.int .u64 Tn, Value.slice A7 qn.length c7]); refine (HS2.out _ (by repeat (first | assumption | exact Below.refl _ _ | apply below_drew1 | apply below_alloc))).mono ?_; rintro e w9 ⟨rfl, hb9⟩; have hq9 : Below W2.heap.size W2 w9 := Below.trans (by repeat (first | assumption | exact Below.refl _ _ | apply below_drew1 | apply below_alloc)) (hb9.mono hq.size); clear hq hb9 p0 p1 p2 q0 q1 q2 t0 t1 t2 z0 z1 z2; have hq := hq9; clear hq9; obtain ⟨⟨p0, p1, p2⟩, ⟨q0, q1, q2⟩, ⟨t0, t1, t2⟩, ⟨z0, z1, z2⟩⟩ := KP.out _ hq))
          all_goals (go_wp2_with fail)
          go_meet
          exact ⟨rfl, hq⟩
        case rest =>
          clear p0 p1 p2 q0 q1 q2 t0 t1 t2 z0 z1 z2 hq
          obtain ⟨rfl, hq⟩ := hcut
          go_wp2
          go_ret
          exact ⟨rfl, hBF.out.trans (hq.mono hBF.out.size)⟩
end Go.Proofs.Ytohginlodlijkaa.PH
