/- The walk of HeavyMay. -/
import Derived.Deep.RegionHeld3
import Derived.Deep.DrawnRows
import Derived.Deep.DeepCutAuto
import Derived.Test.YtohginlodlijkaaBrn
import Derived.Test.YtohginlodlijkaaAwake
namespace Go.Proofs.Ytohginlodlijkaa.PH
open Go.RowKit Go.Proofs.YtohginlodlijkaaW.PrintWords Go.Proofs.YtohginlodlijkaaW.PrintLast Go.Proofs.YtohginlodlijkaaW.PrintMore

theorem new_any (K : Int) : heavy_New.f K = some (if 1 ≤ K ∧ K ≤ 256 then (K, 0, [], 0) else (0, 0, [], 9)) := by
  unfold heavy_New.f
  by_cases h0 : K < 1
  · rw [if_pos h0, if_neg (by omega)]
  · rw [if_neg h0]
    by_cases h1 : K > 256
    · rw [if_pos h1, if_neg (by omega)]
    · rw [if_neg h1, if_pos (by omega)]
set_option maxHeartbeats 8000000 in
set_option maxRecDepth 100000 in
theorem made_calls (K T : Int) (A : Option Addr) (n c : Nat) (w : World) : Calls Try.prog 35 #[.agg #[.int .i64 K, .int .u64 T, .slice A n c]] w fun e w' => e = .returned (.agg #[.int .i64 K, .int .u64 T, .slice A n c]) ∧ Below w.heap.size w w' := by
  have HB := Aside0.mk ((Below.refl _ w).alloc (Nat.le_refl _) (.cells #[.int .i64 K, .int .u64 T, .slice A n c] 30))
  have HZ : Aside0 (((w.alloc (.cells #[.int .i64 K, .int .u64 T, .slice A n c] 30)).alloc (.cells #[.int .i64 K, .int .u64 T, .slice A n c] 33)).heap[w.heap.size + 1]? = some (.cells #[.int .i64 K, .int .u64 T, .slice A n c] 33 (0, 0))) := ⟨by have := World.alloc_heap_new (w.alloc (.cells #[.int .i64 K, .int .u64 T, .slice A n c] 30)) (.cells #[.int .i64 K, .int .u64 T, .slice A n c] 33); rwa [World.size_alloc] at this⟩
  go_enter Try.func35, Try.ntmps35
  go_wp2
  refine bodyPost_ret (results_cell_row rfl _ _ (w.heap.size + 1) 33 #[.int .i64 K, .int .u64 T, .slice A n c] (0, 0) _ rfl HZ.out Try.underlying33 rfl (by kernel_rfl)) rfl ?_
  exact ⟨rfl, HB.out.alloc (by simp) _⟩
set_option maxHeartbeats 8000000 in
set_option maxRecDepth 100000 in
theorem conf_calls (K : Int) (w : World) : Calls Try.prog 33 #[.int .i64 K] w fun e w' => e = .returned (.bool (decide (1 ≤ K ∧ K ≤ 256))) ∧ w' = w := by
  go_enter Try.func33, Try.ntmps33
  go_wp2
  all_goals (go_ret; refine ⟨?_, rfl⟩; simp; try omega)
theorem cells6 {W0 W : World} {B C : Nat} {v0 v1 v2 u0 u1 u2 : Value} (k : W0.heap[B]? = some (.cells #[v0, v1, v2] 30 (0, 0))) (j : W0.heap[C]? = some (.cells #[u0, u1, u2] 30 (0, 0))) (hz : Below W0.heap.size W0 W) :
    (W.cell? ⟨B, 0, none⟩ = some v0 ∧ W.cell? ⟨B, 1, none⟩ = some v1 ∧ W.cell? ⟨B, 2, none⟩ = some v2) ∧ (W.cell? ⟨C, 0, none⟩ = some u0 ∧ W.cell? ⟨C, 1, none⟩ = some u1 ∧ W.cell? ⟨C, 2, none⟩ = some u2) := by
  have k' := (hz.block B (Array.getElem?_eq_some_iff.1 k).1).trans k
  have j' := (hz.block C (Array.getElem?_eq_some_iff.1 j).1).trans j
  exact ⟨⟨by simp [World.cell?, k'], by simp [World.cell?, k'], by simp [World.cell?, k']⟩, ⟨by simp [World.cell?, j'], by simp [World.cell?, j'], by simp [World.cell?, j']⟩⟩
/-- The four contracts that the last expression calls, at every later world. -/
structure MayH (W0 : World) (K1 T1 K2 T2 mv : Int) (A1 A2 : Option Addr) (n1 n2 c1 c2 : Nat) (rs : Bool) : Prop where
  h34 : ∀ W, Below W0.heap.size W0 W → Calls Try.prog 34 #[.agg #[.int .i64 K1, .int .u64 T1, .slice A1 n1 c1]] W fun e w' => e = .returned (.int .i64 mv) ∧ Below W.heap.size W w'
  h36 : ∀ W, Below W0.heap.size W0 W → Calls Try.prog 36 #[.agg #[.int .i64 K1, .int .u64 T1, .slice A1 n1 c1]] W fun e w' => e = .returned (.int .i64 mv) ∧ Below W.heap.size W w'
  h22 : ∀ W, Below W0.heap.size W0 W → Calls Try.prog 22 #[.agg #[.int .i64 K1, .int .u64 T1, .slice A1 n1 c1], .agg #[.int .i64 K2, .int .u64 T2, .slice A2 n2 c2]] W fun e w' => e = .returned (.bool rs) ∧ Below W.heap.size W w'
  h37 : ∀ W, Below W0.heap.size W0 W → Calls Try.prog 37 #[.agg #[.int .i64 K1, .int .u64 T1, .slice A1 n1 c1], .agg #[.int .i64 K2, .int .u64 T2, .slice A2 n2 c2]] W fun e w' => e = .returned (.bool rs) ∧ Below W.heap.size W w'
theorem mayH {w : World} (W0 : World) {k : Nat} {K1 T1 K2 T2 : Int} {A1 A2 : Option Addr} {c1 c2 : Nat} {l1 l2 : List S51} {rs : Bool} (hB : Below w.heap.size w W0) (hC1 : Kd.C k51 w A1 l1.length l1) (hn1 : l1.length ≤ c1) (hC2 : Kd.C k51 w A2 l2.length l2) (hn2 : l2.length ≤ c2) (hs : l1.length ≤ 300) (hT : 0 ≤ T1 ∧ T1 < 18446744073709551616 ∧ ∀ t ∈ l1, 0 ≤ t.f1)
    (hr1 : heavy_Same.f k K1 T1 l1 K2 T2 l2 = some rs) (hr2 : skylightref17_Same.f k K1 T1 l1 K2 T2 l2 = some rs) (hk : 1000 ≤ k) : MayH W0 K1 T1 K2 T2 (mayV K1 T1 l1) A1 A2 l1.length l2.length c1 c2 rs :=
  have HL1 := fun W (hW : Below W0.heap.size W0 W) => Kd.C_below hC1 (hB.trans (hW.mono hB.size))
  have HL2 := fun W (hW : Below W0.heap.size W0 W) => Kd.C_below hC2 (hB.trans (hW.mono hB.size))
  ⟨fun W hW => heavy_May.calls k K1 T1 A1 c1 l1 _ W (HL1 W hW) hn1 (heavyMay_eq hk hs hT.1 hT.2.1 hT.2.2),
   fun W hW => skylightref17_May.calls k K1 T1 A1 c1 l1 _ W (HL1 W hW) hn1 (refMay_eq hk hs hT.1 hT.2.2),
   fun W hW => heavy_Same.calls k K1 T1 A1 c1 l1 K2 T2 A2 c2 l2 _ W (HL1 W hW) hn1 (HL2 W hW) hn2 hr1,
   fun W hW => skylightref17_Same.calls k K1 T1 A1 c1 l1 K2 T2 A2 c2 l2 _ W (HL1 W hW) hn1 (HL2 W hW) hn2 hr2⟩
theorem mayV_vals (K T : Int) (l : List S51) : mayV K T l = 0 ∨ mayV K T l = 2 ∨ mayV K T l = 9 := by
  unfold mayV
  repeat (first | (split <;> simp; done) | split)
  all_goals simp
theorem mayL {w : World} (W0 : World) {k : Nat} {K1 T1 : Int} {A1 : Option Addr} {c1 : Nat} {l1 : List S51} (hB : Below w.heap.size w W0) (hC1 : Kd.C k51 w A1 l1.length l1) (hn1 : l1.length ≤ c1) (hs : l1.length ≤ 300) (hT : 0 ≤ T1 ∧ T1 < 18446744073709551616 ∧ ∀ t ∈ l1, 0 ≤ t.f1) (hk : 1000 ≤ k) (hm : mayV K1 T1 l1 = 0) :
    ∃ r : Int, (∀ W, Below W0.heap.size W0 W → Calls Try.prog 31 #[.agg #[.int .i64 K1, .int .u64 T1, .slice A1 l1.length c1]] W fun e w' => e = .returned (.int .u64 r) ∧ Below W.heap.size W w') ∧ (∀ W, Below W0.heap.size W0 W → Calls Try.prog 32 #[.agg #[.int .i64 K1, .int .u64 T1, .slice A1 l1.length c1]] W fun e w' => e = .returned (.int .u64 r) ∧ Below W.heap.size W w') := by
  have HL1 := fun W (hW : Below W0.heap.size W0 W) => Kd.C_below hC1 (hB.trans (hW.mono hB.size))
  obtain ⟨r, hr1, hr2⟩ := lost_both hk hs hT.1 hT.2.2 hm
  exact ⟨r, fun W hW => heavy_Lost.calls k K1 T1 A1 c1 l1 _ W (HL1 W hW) hn1 hr1, fun W hW => skylightref17_Lost.calls k K1 T1 A1 c1 l1 _ W (HL1 W hW) hn1 hr2⟩
/-- Three steps that are passed over where May is not 0, by name: the region's tactic is silent about them so. -/
@[local go_sem] def mwA : Oper := { dst := some 79, op := .load 30 (.tmp 2), type := 30, pos := "law.go:59", after := #[{ on := 27, ground := .guard }], guard := some (27, false) }
@[local go_sem] def mwB : Oper := { dst := some 82, op := .load 30 (.tmp 2), type := 30, pos := "law.go:59", after := #[{ on := 27, ground := .guard }], guard := some (27, false) }
@[local go_sem] def mwC : Oper := { dst := some 84, op := .binOp .eql 27 (.tmp 81) (.tmp 83) 27, type := 4, pos := "law.go:59", after := #[{ on := 30, ground := .data }, { on := 32, ground := .data }, { on := 27, ground := .guard }], guard := some (27, false) }
theorem mwA_eq : ({ dst := some 79, op := .load 30 (.tmp 2), type := 30, pos := "law.go:59", after := #[{ on := 27, ground := .guard }], guard := some (27, false) } : Oper) = mwA := rfl
theorem mwB_eq : ({ dst := some 82, op := .load 30 (.tmp 2), type := 30, pos := "law.go:59", after := #[{ on := 27, ground := .guard }], guard := some (27, false) } : Oper) = mwB := rfl
theorem mwC_eq : ({ dst := some 84, op := .binOp .eql 27 (.tmp 81) (.tmp 83) 27, type := 4, pos := "law.go:59", after := #[{ on := 30, ground := .data }, { on := 32, ground := .data }, { on := 27, ground := .guard }], guard := some (27, false) } : Oper) = mwC := rfl
set_option maxHeartbeats 8000000 in
set_option maxRecDepth 100000 in
theorem may_true (K1 T1 K2 T2 : Int) (A1 A2 : Option Addr) (c1 c2 : Nat) (l1 l2 : List S51) (w : World) (hC1 : Kd.C k51 w A1 l1.length l1) (hn1 : l1.length ≤ c1) (hC2 : Kd.C k51 w A2 l2.length l2) (hn2 : l2.length ≤ c2) (hT0 : 0 ≤ T1) (hT1 : T1 < 18446744073709551616) (hl1 : ∀ t ∈ l1, 0 ≤ t.f1) :
    Calls Try.prog 8 #[.agg #[.int .i64 K1, .int .u64 T1, .slice A1 l1.length c1], .agg #[.int .i64 K2, .int .u64 T2, .slice A2 l2.length c2]] w fun e w' => e = .returned (.bool true) ∧ Below w.heap.size w w' := by
  have hB0 := ((Below.refl _ w).alloc (Nat.le_refl _) (.cells #[.int .i64 K1, .int .u64 T1, .slice A1 l1.length c1] 30)).alloc (by simp) (.cells #[.int .i64 K2, .int .u64 T2, .slice A2 l2.length c2] 30)
  have k1 : ((w.alloc (.cells #[.int .i64 K1, .int .u64 T1, .slice A1 l1.length c1] 30)).alloc (.cells #[.int .i64 K2, .int .u64 T2, .slice A2 l2.length c2] 30)).heap[w.heap.size]? = some (.cells #[.int .i64 K1, .int .u64 T1, .slice A1 l1.length c1] 30 (0, 0)) := (Below.heap_alloc _ _ _ (by simp)).trans (World.alloc_heap_new w _)
  have k2 : ((w.alloc (.cells #[.int .i64 K1, .int .u64 T1, .slice A1 l1.length c1] 30)).alloc (.cells #[.int .i64 K2, .int .u64 T2, .slice A2 l2.length c2] 30)).heap[w.heap.size + 1]? = some (.cells #[.int .i64 K2, .int .u64 T2, .slice A2 l2.length c2] 30 (0, 0)) := by have := World.alloc_heap_new (w.alloc (.cells #[.int .i64 K1, .int .u64 T1, .slice A1 l1.length c1] 30)) (.cells #[.int .i64 K2, .int .u64 T2, .slice A2 l2.length c2] 30); rwa [World.size_alloc] at this
  have KP := Aside0.mk (fun W hW => cells6 (W := W) k1 k2 hW)
  have HC1 := Aside0.mk hC1
  have HC2 := Aside0.mk hC2
  have HB0 := Aside0.mk hB0
  have HT := Aside0.mk (And.intro hT0 (And.intro hT1 hl1))
  have HAW := Aside0.mk (awake_true ((w.alloc (.cells #[.int .i64 K1, .int .u64 T1, .slice A1 l1.length c1] 30)).alloc (.cells #[.int .i64 K2, .int .u64 T2, .slice A2 l2.length c2] 30)))
  clear hB0 k1 k2 hC1 hC2 hl1
  have HN := Aside0.mk (And.intro hn1 hn2)
  clear hn1 hn2
  by_cases hbig : l1.length > 300 ∨ l2.length > 300
  · go_enter Try.func8, Try.ntmps8
    go_wp2_with (go_at_call 25; refine HAW.out.mono ?_; rintro e w1 ⟨rfl, hq⟩; obtain ⟨⟨x0, x1, x2⟩, ⟨y0, y1, y2⟩⟩ := KP.out _ hq)
    all_goals (go_ret; exact ⟨rfl, HB0.out.trans (hq.mono HB0.out.size)⟩)
  · have hs1 : l1.length ≤ 300 := by omega
    have hs2 : l2.length ≤ 300 := by omega
    obtain ⟨rs, hrs1, hrs2⟩ := same_both (K1 := K1) (T1 := T1) (K2 := K2) (T2 := T2) (l1 := l1) (l2 := l2) (k := 2000) (by omega) hs1
    have H := mayH (k := 2000) ((w.alloc (.cells #[.int .i64 K1, .int .u64 T1, .slice A1 l1.length c1] 30)).alloc (.cells #[.int .i64 K2, .int .u64 T2, .slice A2 l2.length c2] 30)) HB0.out HC1.out HN.out.1 HC2.out HN.out.2 hs1 HT.out hrs1 hrs2 (by omega)
    have H31 := mayL (K1 := K1) (k := 2000) ((w.alloc (.cells #[.int .i64 K1, .int .u64 T1, .slice A1 l1.length c1] 30)).alloc (.cells #[.int .i64 K2, .int .u64 T2, .slice A2 l2.length c2] 30)) HB0.out HC1.out HN.out.1 hs1 HT.out (by omega)
    have hmv := mayV_vals K1 T1 l1
    have h9 : ¬ (1 ≤ K1 ∧ K1 ≤ 256) → mayV K1 T1 l1 = 9 := fun h => if_neg h
    generalize mayV K1 T1 l1 = mv at *
    clear hrs1 hrs2 hbig
    by_cases hK : 1 ≤ K1 ∧ K1 ≤ 256
    · clear h9
      go_enter Try.func8, Try.ntmps8
      go_wp2_with (first
        | (go_at_call 25; refine HAW.out.mono ?_; rintro e w1 ⟨rfl, hq⟩; obtain ⟨⟨x0, x1, x2⟩, ⟨y0, y1, y2⟩⟩ := KP.out _ hq)
        | (go_at_call 26; refine (heavy_New.calls K1 _ _ _ _ _ ((new_any K1).trans (by rw [if_pos hK]))).mono ?_; rintro e w2 ⟨v, rfl, hR, hb2⟩; obtain ⟨A3, c3, rfl⟩ := Kd.R_slice hR; rw [List.length_nil] at hR ⊢
           have hq2 := hq.trans (hb2.mono hq.size)
           have hq3 := hq2.alloc hq2.size (.cells #[.int .i64 K1, .int .u64 0, .slice A3 0 c3] 33)
           have B3 := (Below.refl _ w2).alloc (Nat.le_refl _) (.cells #[.int .i64 K1, .int .u64 0, .slice A3 0 c3] 33)
           have gS := Aside0.mk (World.alloc_heap_new w2 (.cells #[.int .i64 K1, .int .u64 0, .slice A3 0 c3] 33))
           have rS := Aside0.mk (Kd.R_below hR B3)
           clear hq hq2 hb2 hR B3 x0 x1 x2 y0 y1 y2
           have hq := hq3
           clear hq3
           obtain ⟨⟨x0, x1, x2⟩, ⟨y0, y1, y2⟩⟩ := KP.out _ hq)
        | (go_at_call 33; refine (conf_calls K1 _).mono ?_; rintro e w3 ⟨rfl, rfl⟩; rw [decide_eq_true hK])
        | (go_at_call 27; refine (skylightlaw17_same.calls 200 K1 0 A3 c3 [] K1 0 none 0 [] true _ (Kd.R_reads' rS.out).2.2 (Nat.zero_le _) (Kd.R_reads' (Kd.R_nil k51 51 _ 0 (fun _ => True))).2.2 (Nat.zero_le _) (same_eq (by simp) (by omega))).mono ?_; rintro e w4 ⟨rfl, hb4⟩
           have hq4 := hq.trans (hb4.mono hq.size)
           clear hq hb4 x0 x1 x2 y0 y1 y2
           have hq := hq4
           clear hq4
           obtain ⟨⟨x0, x1, x2⟩, ⟨y0, y1, y2⟩⟩ := KP.out _ hq))
      clear gS rS
      replace H := Aside0.mk H
      rcases hmv with rfl | rfl | rfl
      · obtain ⟨rl, hla, hlb⟩ := H31 rfl
        have HLa := Aside0.mk hla
        have HLb := Aside0.mk hlb
        clear hla hlb H31
        have hq0 := hq
        go_upto_region 7 with (fail)
        go_cut [4] (fun s4 wy => s4 = .bool true ∧ Below ((w.alloc (.cells #[.int .i64 K1, .int .u64 T1, .slice A1 l1.length c1] 30)).alloc (.cells #[.int .i64 K2, .int .u64 T2, .slice A2 l2.length c2] 30)).heap.size ((w.alloc (.cells #[.int .i64 K1, .int .u64 T1, .slice A1 l1.length c1] 30)).alloc (.cells #[.int .i64 K2, .int .u64 T2, .slice A2 l2.length c2] 30)) wy)
        case first =>
          go_region_held3 (fun w' => (w'.cell? ⟨w.heap.size, 0, none⟩ = some (.int .i64 K1) ∧ w'.cell? ⟨w.heap.size, 1, none⟩ = some (.int .u64 T1) ∧ w'.cell? ⟨w.heap.size, 2, none⟩ = some (.slice A1 l1.length c1)) ∧ (w'.cell? ⟨w.heap.size + 1, 0, none⟩ = some (.int .i64 K2) ∧ w'.cell? ⟨w.heap.size + 1, 1, none⟩ = some (.int .u64 T2) ∧ w'.cell? ⟨w.heap.size + 1, 2, none⟩ = some (.slice A2 l2.length c2))) (go_keep)
            (first
              | (go_at_call 35; refine (made_calls _ _ _ _ _ _).mono ?_; rintro e w5 ⟨rfl, hb⟩; have hq5 := Below.trans (show Below ((w.alloc (.cells #[.int .i64 K1, .int .u64 T1, .slice A1 l1.length c1] 30)).alloc (.cells #[.int .i64 K2, .int .u64 T2, .slice A2 l2.length c2] 30)).heap.size ((w.alloc (.cells #[.int .i64 K1, .int .u64 T1, .slice A1 l1.length c1] 30)).alloc (.cells #[.int .i64 K2, .int .u64 T2, .slice A2 l2.length c2] 30)) _ from (by repeat (first | assumption | exact Below.refl _ _ | apply below_drew1))) (hb.mono hq.size); clear hq hb x0 x1 x2 y0 y1 y2; have hq := hq5; clear hq5; obtain ⟨⟨x0, x1, x2⟩, ⟨y0, y1, y2⟩⟩ := KP.out _ hq)
              | (go_at_call 34; refine (H.out.h34 _ (by repeat (first | assumption | exact Below.refl _ _ | apply below_drew1))).mono ?_; rintro e w5 ⟨rfl, hb⟩; have hq5 := Below.trans (show Below ((w.alloc (.cells #[.int .i64 K1, .int .u64 T1, .slice A1 l1.length c1] 30)).alloc (.cells #[.int .i64 K2, .int .u64 T2, .slice A2 l2.length c2] 30)).heap.size ((w.alloc (.cells #[.int .i64 K1, .int .u64 T1, .slice A1 l1.length c1] 30)).alloc (.cells #[.int .i64 K2, .int .u64 T2, .slice A2 l2.length c2] 30)) _ from (by repeat (first | assumption | exact Below.refl _ _ | apply below_drew1))) (hb.mono hq.size); clear hq hb x0 x1 x2 y0 y1 y2; have hq := hq5; clear hq5; obtain ⟨⟨x0, x1, x2⟩, ⟨y0, y1, y2⟩⟩ := KP.out _ hq)
              | (go_at_call 36; refine (H.out.h36 _ (by repeat (first | assumption | exact Below.refl _ _ | apply below_drew1))).mono ?_; rintro e w5 ⟨rfl, hb⟩; have hq5 := Below.trans (show Below ((w.alloc (.cells #[.int .i64 K1, .int .u64 T1, .slice A1 l1.length c1] 30)).alloc (.cells #[.int .i64 K2, .int .u64 T2, .slice A2 l2.length c2] 30)).heap.size ((w.alloc (.cells #[.int .i64 K1, .int .u64 T1, .slice A1 l1.length c1] 30)).alloc (.cells #[.int .i64 K2, .int .u64 T2, .slice A2 l2.length c2] 30)) _ from (by repeat (first | assumption | exact Below.refl _ _ | apply below_drew1))) (hb.mono hq.size); clear hq hb x0 x1 x2 y0 y1 y2; have hq := hq5; clear hq5; obtain ⟨⟨x0, x1, x2⟩, ⟨y0, y1, y2⟩⟩ := KP.out _ hq)
              | (go_at_call 22; refine (H.out.h22 _ (by repeat (first | assumption | exact Below.refl _ _ | apply below_drew1))).mono ?_; rintro e w5 ⟨rfl, hb⟩; have hq5 := Below.trans (show Below ((w.alloc (.cells #[.int .i64 K1, .int .u64 T1, .slice A1 l1.length c1] 30)).alloc (.cells #[.int .i64 K2, .int .u64 T2, .slice A2 l2.length c2] 30)).heap.size ((w.alloc (.cells #[.int .i64 K1, .int .u64 T1, .slice A1 l1.length c1] 30)).alloc (.cells #[.int .i64 K2, .int .u64 T2, .slice A2 l2.length c2] 30)) _ from (by repeat (first | assumption | exact Below.refl _ _ | apply below_drew1))) (hb.mono hq.size); clear hq hb x0 x1 x2 y0 y1 y2; have hq := hq5; clear hq5; obtain ⟨⟨x0, x1, x2⟩, ⟨y0, y1, y2⟩⟩ := KP.out _ hq)
              | (go_at_call 37; refine (H.out.h37 _ (by repeat (first | assumption | exact Below.refl _ _ | apply below_drew1))).mono ?_; rintro e w5 ⟨rfl, hb⟩; have hq5 := Below.trans (show Below ((w.alloc (.cells #[.int .i64 K1, .int .u64 T1, .slice A1 l1.length c1] 30)).alloc (.cells #[.int .i64 K2, .int .u64 T2, .slice A2 l2.length c2] 30)).heap.size ((w.alloc (.cells #[.int .i64 K1, .int .u64 T1, .slice A1 l1.length c1] 30)).alloc (.cells #[.int .i64 K2, .int .u64 T2, .slice A2 l2.length c2] 30)) _ from (by repeat (first | assumption | exact Below.refl _ _ | apply below_drew1))) (hb.mono hq.size); clear hq hb x0 x1 x2 y0 y1 y2; have hq := hq5; clear hq5; obtain ⟨⟨x0, x1, x2⟩, ⟨y0, y1, y2⟩⟩ := KP.out _ hq)
              | (go_at_call 31; refine (HLa.out _ (by repeat (first | assumption | exact Below.refl _ _ | apply below_drew1))).mono ?_; rintro e w5 ⟨rfl, hb⟩; have hq5 := Below.trans (show Below ((w.alloc (.cells #[.int .i64 K1, .int .u64 T1, .slice A1 l1.length c1] 30)).alloc (.cells #[.int .i64 K2, .int .u64 T2, .slice A2 l2.length c2] 30)).heap.size ((w.alloc (.cells #[.int .i64 K1, .int .u64 T1, .slice A1 l1.length c1] 30)).alloc (.cells #[.int .i64 K2, .int .u64 T2, .slice A2 l2.length c2] 30)) _ from (by repeat (first | assumption | exact Below.refl _ _ | apply below_drew1))) (hb.mono hq.size); clear hq hb x0 x1 x2 y0 y1 y2; have hq := hq5; clear hq5; obtain ⟨⟨x0, x1, x2⟩, ⟨y0, y1, y2⟩⟩ := KP.out _ hq)
              | (go_at_call 32; refine (HLb.out _ (by repeat (first | assumption | exact Below.refl _ _ | apply below_drew1))).mono ?_; rintro e w5 ⟨rfl, hb⟩; have hq5 := Below.trans (show Below ((w.alloc (.cells #[.int .i64 K1, .int .u64 T1, .slice A1 l1.length c1] 30)).alloc (.cells #[.int .i64 K2, .int .u64 T2, .slice A2 l2.length c2] 30)).heap.size ((w.alloc (.cells #[.int .i64 K1, .int .u64 T1, .slice A1 l1.length c1] 30)).alloc (.cells #[.int .i64 K2, .int .u64 T2, .slice A2 l2.length c2] 30)) _ from (by repeat (first | assumption | exact Below.refl _ _ | apply below_drew1))) (hb.mono hq.size); clear hq hb x0 x1 x2 y0 y1 y2; have hq := hq5; clear hq5; obtain ⟨⟨x0, x1, x2⟩, ⟨y0, y1, y2⟩⟩ := KP.out _ hq))
          go_wp2_with fail
          go_meet
          exact ⟨rfl, hq⟩
        case rest =>
          clear hq x0 x1 x2 y0 y1 y2
          obtain ⟨rfl, hq⟩ := hcut
          go_wp2_with fail
          go_ret
          exact ⟨rfl, HB0.out.trans (hq.mono HB0.out.size)⟩
      · clear H31
        have hq0 := hq
        go_upto_region 7 with (fail)
        go_cut [4] (fun s4 wy => s4 = .bool true ∧ Below ((w.alloc (.cells #[.int .i64 K1, .int .u64 T1, .slice A1 l1.length c1] 30)).alloc (.cells #[.int .i64 K2, .int .u64 T2, .slice A2 l2.length c2] 30)).heap.size ((w.alloc (.cells #[.int .i64 K1, .int .u64 T1, .slice A1 l1.length c1] 30)).alloc (.cells #[.int .i64 K2, .int .u64 T2, .slice A2 l2.length c2] 30)) wy)
        case first =>
          rw [mwA_eq, mwB_eq, mwC_eq]
          go_region_held3 (fun w' => (w'.cell? ⟨w.heap.size, 0, none⟩ = some (.int .i64 K1) ∧ w'.cell? ⟨w.heap.size, 1, none⟩ = some (.int .u64 T1) ∧ w'.cell? ⟨w.heap.size, 2, none⟩ = some (.slice A1 l1.length c1)) ∧ (w'.cell? ⟨w.heap.size + 1, 0, none⟩ = some (.int .i64 K2) ∧ w'.cell? ⟨w.heap.size + 1, 1, none⟩ = some (.int .u64 T2) ∧ w'.cell? ⟨w.heap.size + 1, 2, none⟩ = some (.slice A2 l2.length c2))) (go_keep)
            (first
              | (go_at_call 35; refine (made_calls _ _ _ _ _ _).mono ?_; rintro e w5 ⟨rfl, hb⟩; have hq5 := Below.trans (show Below ((w.alloc (.cells #[.int .i64 K1, .int .u64 T1, .slice A1 l1.length c1] 30)).alloc (.cells #[.int .i64 K2, .int .u64 T2, .slice A2 l2.length c2] 30)).heap.size ((w.alloc (.cells #[.int .i64 K1, .int .u64 T1, .slice A1 l1.length c1] 30)).alloc (.cells #[.int .i64 K2, .int .u64 T2, .slice A2 l2.length c2] 30)) _ from (by repeat (first | assumption | exact Below.refl _ _ | apply below_drew1))) (hb.mono hq.size); clear hq hb x0 x1 x2 y0 y1 y2; have hq := hq5; clear hq5; obtain ⟨⟨x0, x1, x2⟩, ⟨y0, y1, y2⟩⟩ := KP.out _ hq)
              | (go_at_call 34; refine (H.out.h34 _ (by repeat (first | assumption | exact Below.refl _ _ | apply below_drew1))).mono ?_; rintro e w5 ⟨rfl, hb⟩; have hq5 := Below.trans (show Below ((w.alloc (.cells #[.int .i64 K1, .int .u64 T1, .slice A1 l1.length c1] 30)).alloc (.cells #[.int .i64 K2, .int .u64 T2, .slice A2 l2.length c2] 30)).heap.size ((w.alloc (.cells #[.int .i64 K1, .int .u64 T1, .slice A1 l1.length c1] 30)).alloc (.cells #[.int .i64 K2, .int .u64 T2, .slice A2 l2.length c2] 30)) _ from (by repeat (first | assumption | exact Below.refl _ _ | apply below_drew1))) (hb.mono hq.size); clear hq hb x0 x1 x2 y0 y1 y2; have hq := hq5; clear hq5; obtain ⟨⟨x0, x1, x2⟩, ⟨y0, y1, y2⟩⟩ := KP.out _ hq)
              | (go_at_call 36; refine (H.out.h36 _ (by repeat (first | assumption | exact Below.refl _ _ | apply below_drew1))).mono ?_; rintro e w5 ⟨rfl, hb⟩; have hq5 := Below.trans (show Below ((w.alloc (.cells #[.int .i64 K1, .int .u64 T1, .slice A1 l1.length c1] 30)).alloc (.cells #[.int .i64 K2, .int .u64 T2, .slice A2 l2.length c2] 30)).heap.size ((w.alloc (.cells #[.int .i64 K1, .int .u64 T1, .slice A1 l1.length c1] 30)).alloc (.cells #[.int .i64 K2, .int .u64 T2, .slice A2 l2.length c2] 30)) _ from (by repeat (first | assumption | exact Below.refl _ _ | apply below_drew1))) (hb.mono hq.size); clear hq hb x0 x1 x2 y0 y1 y2; have hq := hq5; clear hq5; obtain ⟨⟨x0, x1, x2⟩, ⟨y0, y1, y2⟩⟩ := KP.out _ hq)
              | (go_at_call 22; refine (H.out.h22 _ (by repeat (first | assumption | exact Below.refl _ _ | apply below_drew1))).mono ?_; rintro e w5 ⟨rfl, hb⟩; have hq5 := Below.trans (show Below ((w.alloc (.cells #[.int .i64 K1, .int .u64 T1, .slice A1 l1.length c1] 30)).alloc (.cells #[.int .i64 K2, .int .u64 T2, .slice A2 l2.length c2] 30)).heap.size ((w.alloc (.cells #[.int .i64 K1, .int .u64 T1, .slice A1 l1.length c1] 30)).alloc (.cells #[.int .i64 K2, .int .u64 T2, .slice A2 l2.length c2] 30)) _ from (by repeat (first | assumption | exact Below.refl _ _ | apply below_drew1))) (hb.mono hq.size); clear hq hb x0 x1 x2 y0 y1 y2; have hq := hq5; clear hq5; obtain ⟨⟨x0, x1, x2⟩, ⟨y0, y1, y2⟩⟩ := KP.out _ hq)
              | (go_at_call 37; refine (H.out.h37 _ (by repeat (first | assumption | exact Below.refl _ _ | apply below_drew1))).mono ?_; rintro e w5 ⟨rfl, hb⟩; have hq5 := Below.trans (show Below ((w.alloc (.cells #[.int .i64 K1, .int .u64 T1, .slice A1 l1.length c1] 30)).alloc (.cells #[.int .i64 K2, .int .u64 T2, .slice A2 l2.length c2] 30)).heap.size ((w.alloc (.cells #[.int .i64 K1, .int .u64 T1, .slice A1 l1.length c1] 30)).alloc (.cells #[.int .i64 K2, .int .u64 T2, .slice A2 l2.length c2] 30)) _ from (by repeat (first | assumption | exact Below.refl _ _ | apply below_drew1))) (hb.mono hq.size); clear hq hb x0 x1 x2 y0 y1 y2; have hq := hq5; clear hq5; obtain ⟨⟨x0, x1, x2⟩, ⟨y0, y1, y2⟩⟩ := KP.out _ hq))
          all_goals (go_wp2_with fail; go_meet; exact ⟨rfl, hq⟩)
        case rest =>
          clear hq x0 x1 x2 y0 y1 y2
          obtain ⟨rfl, hq⟩ := hcut
          go_wp2_with fail
          go_ret
          exact ⟨rfl, HB0.out.trans (hq.mono HB0.out.size)⟩
      · clear H31
        have hq0 := hq
        go_upto_region 7 with (fail)
        go_cut [4] (fun s4 wy => s4 = .bool true ∧ Below ((w.alloc (.cells #[.int .i64 K1, .int .u64 T1, .slice A1 l1.length c1] 30)).alloc (.cells #[.int .i64 K2, .int .u64 T2, .slice A2 l2.length c2] 30)).heap.size ((w.alloc (.cells #[.int .i64 K1, .int .u64 T1, .slice A1 l1.length c1] 30)).alloc (.cells #[.int .i64 K2, .int .u64 T2, .slice A2 l2.length c2] 30)) wy)
        case first =>
          rw [mwA_eq, mwB_eq, mwC_eq]
          go_region_held3 (fun w' => (w'.cell? ⟨w.heap.size, 0, none⟩ = some (.int .i64 K1) ∧ w'.cell? ⟨w.heap.size, 1, none⟩ = some (.int .u64 T1) ∧ w'.cell? ⟨w.heap.size, 2, none⟩ = some (.slice A1 l1.length c1)) ∧ (w'.cell? ⟨w.heap.size + 1, 0, none⟩ = some (.int .i64 K2) ∧ w'.cell? ⟨w.heap.size + 1, 1, none⟩ = some (.int .u64 T2) ∧ w'.cell? ⟨w.heap.size + 1, 2, none⟩ = some (.slice A2 l2.length c2))) (go_keep)
            (first
              | (go_at_call 35; refine (made_calls _ _ _ _ _ _).mono ?_; rintro e w5 ⟨rfl, hb⟩; have hq5 := Below.trans (show Below ((w.alloc (.cells #[.int .i64 K1, .int .u64 T1, .slice A1 l1.length c1] 30)).alloc (.cells #[.int .i64 K2, .int .u64 T2, .slice A2 l2.length c2] 30)).heap.size ((w.alloc (.cells #[.int .i64 K1, .int .u64 T1, .slice A1 l1.length c1] 30)).alloc (.cells #[.int .i64 K2, .int .u64 T2, .slice A2 l2.length c2] 30)) _ from (by repeat (first | assumption | exact Below.refl _ _ | apply below_drew1))) (hb.mono hq.size); clear hq hb x0 x1 x2 y0 y1 y2; have hq := hq5; clear hq5; obtain ⟨⟨x0, x1, x2⟩, ⟨y0, y1, y2⟩⟩ := KP.out _ hq)
              | (go_at_call 34; refine (H.out.h34 _ (by repeat (first | assumption | exact Below.refl _ _ | apply below_drew1))).mono ?_; rintro e w5 ⟨rfl, hb⟩; have hq5 := Below.trans (show Below ((w.alloc (.cells #[.int .i64 K1, .int .u64 T1, .slice A1 l1.length c1] 30)).alloc (.cells #[.int .i64 K2, .int .u64 T2, .slice A2 l2.length c2] 30)).heap.size ((w.alloc (.cells #[.int .i64 K1, .int .u64 T1, .slice A1 l1.length c1] 30)).alloc (.cells #[.int .i64 K2, .int .u64 T2, .slice A2 l2.length c2] 30)) _ from (by repeat (first | assumption | exact Below.refl _ _ | apply below_drew1))) (hb.mono hq.size); clear hq hb x0 x1 x2 y0 y1 y2; have hq := hq5; clear hq5; obtain ⟨⟨x0, x1, x2⟩, ⟨y0, y1, y2⟩⟩ := KP.out _ hq)
              | (go_at_call 36; refine (H.out.h36 _ (by repeat (first | assumption | exact Below.refl _ _ | apply below_drew1))).mono ?_; rintro e w5 ⟨rfl, hb⟩; have hq5 := Below.trans (show Below ((w.alloc (.cells #[.int .i64 K1, .int .u64 T1, .slice A1 l1.length c1] 30)).alloc (.cells #[.int .i64 K2, .int .u64 T2, .slice A2 l2.length c2] 30)).heap.size ((w.alloc (.cells #[.int .i64 K1, .int .u64 T1, .slice A1 l1.length c1] 30)).alloc (.cells #[.int .i64 K2, .int .u64 T2, .slice A2 l2.length c2] 30)) _ from (by repeat (first | assumption | exact Below.refl _ _ | apply below_drew1))) (hb.mono hq.size); clear hq hb x0 x1 x2 y0 y1 y2; have hq := hq5; clear hq5; obtain ⟨⟨x0, x1, x2⟩, ⟨y0, y1, y2⟩⟩ := KP.out _ hq)
              | (go_at_call 22; refine (H.out.h22 _ (by repeat (first | assumption | exact Below.refl _ _ | apply below_drew1))).mono ?_; rintro e w5 ⟨rfl, hb⟩; have hq5 := Below.trans (show Below ((w.alloc (.cells #[.int .i64 K1, .int .u64 T1, .slice A1 l1.length c1] 30)).alloc (.cells #[.int .i64 K2, .int .u64 T2, .slice A2 l2.length c2] 30)).heap.size ((w.alloc (.cells #[.int .i64 K1, .int .u64 T1, .slice A1 l1.length c1] 30)).alloc (.cells #[.int .i64 K2, .int .u64 T2, .slice A2 l2.length c2] 30)) _ from (by repeat (first | assumption | exact Below.refl _ _ | apply below_drew1))) (hb.mono hq.size); clear hq hb x0 x1 x2 y0 y1 y2; have hq := hq5; clear hq5; obtain ⟨⟨x0, x1, x2⟩, ⟨y0, y1, y2⟩⟩ := KP.out _ hq)
              | (go_at_call 37; refine (H.out.h37 _ (by repeat (first | assumption | exact Below.refl _ _ | apply below_drew1))).mono ?_; rintro e w5 ⟨rfl, hb⟩; have hq5 := Below.trans (show Below ((w.alloc (.cells #[.int .i64 K1, .int .u64 T1, .slice A1 l1.length c1] 30)).alloc (.cells #[.int .i64 K2, .int .u64 T2, .slice A2 l2.length c2] 30)).heap.size ((w.alloc (.cells #[.int .i64 K1, .int .u64 T1, .slice A1 l1.length c1] 30)).alloc (.cells #[.int .i64 K2, .int .u64 T2, .slice A2 l2.length c2] 30)) _ from (by repeat (first | assumption | exact Below.refl _ _ | apply below_drew1))) (hb.mono hq.size); clear hq hb x0 x1 x2 y0 y1 y2; have hq := hq5; clear hq5; obtain ⟨⟨x0, x1, x2⟩, ⟨y0, y1, y2⟩⟩ := KP.out _ hq))
          all_goals (go_wp2_with fail; go_meet; exact ⟨rfl, hq⟩)
        case rest =>
          clear hq x0 x1 x2 y0 y1 y2
          obtain ⟨rfl, hq⟩ := hcut
          go_wp2_with fail
          go_ret
          exact ⟨rfl, HB0.out.trans (hq.mono HB0.out.size)⟩
    · obtain rfl := h9 hK
      clear h9
      go_enter Try.func8, Try.ntmps8
      go_wp2_with (first
        | (go_at_call 25; refine HAW.out.mono ?_; rintro e w1 ⟨rfl, hq⟩; obtain ⟨⟨x0, x1, x2⟩, ⟨y0, y1, y2⟩⟩ := KP.out _ hq)
        | (go_at_call 26; refine (heavy_New.calls K1 _ _ _ _ _ ((new_any K1).trans (by rw [if_neg hK]))).mono ?_; rintro e w2 ⟨v, rfl, hR, hb2⟩; obtain ⟨A3, c3, rfl⟩ := Kd.R_slice hR; rw [List.length_nil] at hR ⊢
           have hq2 := hq.trans (hb2.mono hq.size)
           have hq3 := hq2.alloc hq2.size (.cells #[.int .i64 0, .int .u64 0, .slice A3 0 c3] 33)
           clear hq hq2 hb2 hR x0 x1 x2 y0 y1 y2
           have hq := hq3
           clear hq3
           obtain ⟨⟨x0, x1, x2⟩, ⟨y0, y1, y2⟩⟩ := KP.out _ hq)
        | (go_at_call 33; refine (conf_calls K1 _).mono ?_; rintro e w3 ⟨rfl, rfl⟩; rw [decide_eq_false hK]))
      replace H := Aside0.mk H
      clear H31 hmv
      have hq0 := hq
      go_upto_region 7 with (fail)
      go_cut [4] (fun s4 wy => s4 = .bool true ∧ Below ((w.alloc (.cells #[.int .i64 K1, .int .u64 T1, .slice A1 l1.length c1] 30)).alloc (.cells #[.int .i64 K2, .int .u64 T2, .slice A2 l2.length c2] 30)).heap.size ((w.alloc (.cells #[.int .i64 K1, .int .u64 T1, .slice A1 l1.length c1] 30)).alloc (.cells #[.int .i64 K2, .int .u64 T2, .slice A2 l2.length c2] 30)) wy)
      case first =>
        rw [mwA_eq, mwB_eq, mwC_eq]
        go_region_held3 (fun w' => (w'.cell? ⟨w.heap.size, 0, none⟩ = some (.int .i64 K1) ∧ w'.cell? ⟨w.heap.size, 1, none⟩ = some (.int .u64 T1) ∧ w'.cell? ⟨w.heap.size, 2, none⟩ = some (.slice A1 l1.length c1)) ∧ (w'.cell? ⟨w.heap.size + 1, 0, none⟩ = some (.int .i64 K2) ∧ w'.cell? ⟨w.heap.size + 1, 1, none⟩ = some (.int .u64 T2) ∧ w'.cell? ⟨w.heap.size + 1, 2, none⟩ = some (.slice A2 l2.length c2))) (go_keep)
          (first
            | (go_at_call 35; refine (made_calls _ _ _ _ _ _).mono ?_; rintro e w5 ⟨rfl, hb⟩; have hq5 := Below.trans (show Below ((w.alloc (.cells #[.int .i64 K1, .int .u64 T1, .slice A1 l1.length c1] 30)).alloc (.cells #[.int .i64 K2, .int .u64 T2, .slice A2 l2.length c2] 30)).heap.size ((w.alloc (.cells #[.int .i64 K1, .int .u64 T1, .slice A1 l1.length c1] 30)).alloc (.cells #[.int .i64 K2, .int .u64 T2, .slice A2 l2.length c2] 30)) _ from (by repeat (first | assumption | exact Below.refl _ _ | apply below_drew1))) (hb.mono hq.size); clear hq hb x0 x1 x2 y0 y1 y2; have hq := hq5; clear hq5; obtain ⟨⟨x0, x1, x2⟩, ⟨y0, y1, y2⟩⟩ := KP.out _ hq)
            | (go_at_call 34; refine (H.out.h34 _ (by repeat (first | assumption | exact Below.refl _ _ | apply below_drew1))).mono ?_; rintro e w5 ⟨rfl, hb⟩; have hq5 := Below.trans (show Below ((w.alloc (.cells #[.int .i64 K1, .int .u64 T1, .slice A1 l1.length c1] 30)).alloc (.cells #[.int .i64 K2, .int .u64 T2, .slice A2 l2.length c2] 30)).heap.size ((w.alloc (.cells #[.int .i64 K1, .int .u64 T1, .slice A1 l1.length c1] 30)).alloc (.cells #[.int .i64 K2, .int .u64 T2, .slice A2 l2.length c2] 30)) _ from (by repeat (first | assumption | exact Below.refl _ _ | apply below_drew1))) (hb.mono hq.size); clear hq hb x0 x1 x2 y0 y1 y2; have hq := hq5; clear hq5; obtain ⟨⟨x0, x1, x2⟩, ⟨y0, y1, y2⟩⟩ := KP.out _ hq)
            | (go_at_call 36; refine (H.out.h36 _ (by repeat (first | assumption | exact Below.refl _ _ | apply below_drew1))).mono ?_; rintro e w5 ⟨rfl, hb⟩; have hq5 := Below.trans (show Below ((w.alloc (.cells #[.int .i64 K1, .int .u64 T1, .slice A1 l1.length c1] 30)).alloc (.cells #[.int .i64 K2, .int .u64 T2, .slice A2 l2.length c2] 30)).heap.size ((w.alloc (.cells #[.int .i64 K1, .int .u64 T1, .slice A1 l1.length c1] 30)).alloc (.cells #[.int .i64 K2, .int .u64 T2, .slice A2 l2.length c2] 30)) _ from (by repeat (first | assumption | exact Below.refl _ _ | apply below_drew1))) (hb.mono hq.size); clear hq hb x0 x1 x2 y0 y1 y2; have hq := hq5; clear hq5; obtain ⟨⟨x0, x1, x2⟩, ⟨y0, y1, y2⟩⟩ := KP.out _ hq)
            | (go_at_call 22; refine (H.out.h22 _ (by repeat (first | assumption | exact Below.refl _ _ | apply below_drew1))).mono ?_; rintro e w5 ⟨rfl, hb⟩; have hq5 := Below.trans (show Below ((w.alloc (.cells #[.int .i64 K1, .int .u64 T1, .slice A1 l1.length c1] 30)).alloc (.cells #[.int .i64 K2, .int .u64 T2, .slice A2 l2.length c2] 30)).heap.size ((w.alloc (.cells #[.int .i64 K1, .int .u64 T1, .slice A1 l1.length c1] 30)).alloc (.cells #[.int .i64 K2, .int .u64 T2, .slice A2 l2.length c2] 30)) _ from (by repeat (first | assumption | exact Below.refl _ _ | apply below_drew1))) (hb.mono hq.size); clear hq hb x0 x1 x2 y0 y1 y2; have hq := hq5; clear hq5; obtain ⟨⟨x0, x1, x2⟩, ⟨y0, y1, y2⟩⟩ := KP.out _ hq)
            | (go_at_call 37; refine (H.out.h37 _ (by repeat (first | assumption | exact Below.refl _ _ | apply below_drew1))).mono ?_; rintro e w5 ⟨rfl, hb⟩; have hq5 := Below.trans (show Below ((w.alloc (.cells #[.int .i64 K1, .int .u64 T1, .slice A1 l1.length c1] 30)).alloc (.cells #[.int .i64 K2, .int .u64 T2, .slice A2 l2.length c2] 30)).heap.size ((w.alloc (.cells #[.int .i64 K1, .int .u64 T1, .slice A1 l1.length c1] 30)).alloc (.cells #[.int .i64 K2, .int .u64 T2, .slice A2 l2.length c2] 30)) _ from (by repeat (first | assumption | exact Below.refl _ _ | apply below_drew1))) (hb.mono hq.size); clear hq hb x0 x1 x2 y0 y1 y2; have hq := hq5; clear hq5; obtain ⟨⟨x0, x1, x2⟩, ⟨y0, y1, y2⟩⟩ := KP.out _ hq))
        all_goals (go_wp2_with fail; go_meet; exact ⟨rfl, hq⟩)
      case rest =>
        clear hq x0 x1 x2 y0 y1 y2
        obtain ⟨rfl, hq⟩ := hcut
        go_wp2_with fail
        go_ret
        exact ⟨rfl, HB0.out.trans (hq.mono HB0.out.size)⟩
end Go.Proofs.Ytohginlodlijkaa.PH
