/- The walk of HeavyPlays. -/
import Derived.Deep.RegionHeld3
import Derived.Deep.DrawnRows
import Derived.Deep.DeepCutAuto
import Derived.Test.YtohginlodlijkaaBrk
import Derived.Test.YtohginlodlijkaaAwake
namespace Go.Proofs.Ytohginlodlijkaa.PH
open Go.RowKit Go.Proofs.YtohginlodlijkaaW.PrintWords Go.Proofs.YtohginlodlijkaaW.PrintLast Go.Proofs.YtohginlodlijkaaW.PrintMore

theorem add_some' {K T key wt : Int} {l : List S51} (h : Okl l ∧ l.length ≤ 9 ∧ 0 ≤ T ∧ 0 ≤ key ∧ key < 2305843009213693951 ∧ 1 ≤ wt ∧ T + wt ≤ 4503599627370496) : heavy_Add.f K T l key wt = some (addL K T l key wt) := by
  unfold heavy_Add.f; rw [if_pos h]
theorem new_eq {K : Int} (h1 : 1 ≤ K) (h8 : K ≤ 8) : heavy_New.f K = some (K, 0, [], 0) := by unfold heavy_New.f; rw [if_neg (by omega), if_neg (by omega)]
/-- What stands between two rounds. -/
structure PI (w : World) (S X : Nat) (K T : Int) (l : List S51) (wr : World) : Prop where
  st : ∃ As cs Ax cx, wr.heap[S]? = some (.cells #[.int .i64 K, .int .u64 T, .slice As l.length cs] 33 (0, 0)) ∧ wr.heap[X]? = some (.cells #[.int .i64 K, .int .u64 T, .slice Ax l.length cx] 30 (0, 0)) ∧
    Kd.R k51 51 wr w.heap.size (fun _ => True) (.slice As l.length cs) l ∧ Kd.R k51 51 wr w.heap.size (fun _ => True) (.slice Ax l.length cx) l
  bel : Below w.heap.size w wr
/-- A box that holds a summary. -/
structure PB (w wr : World) (t g : Nat) (rK rT : Int) (rl : List S51) (wx : World) : Prop where
  st : ∃ A3 c3, wx.heap[g]? = some (.cells #[.int .i64 rK, .int .u64 rT, .slice A3 rl.length c3] t (0, 0)) ∧ Kd.R k51 51 wx w.heap.size (fun _ => True) (.slice A3 rl.length c3) rl
  lo : wr.heap.size ≤ g
theorem pb_old {w wr w5 : World} {t : TypeId} {rK rT : Int} {rl : List S51} {A3 : Option Addr} {c3 : Nat} {u0 u1 u2 : Value} (hR : Kd.R k51 51 w5 w.heap.size (fun _ => True) (.slice A3 rl.length c3) rl) (k1 : w5.heap[wr.heap.size]? = some (.cells #[u0, u1, u2] t (0, 0))) (ht : ∀ q, q ∈ 51 :: k51.E → q ≠ t) :
    PB w wr t wr.heap.size rK rT rl (((w5.setCell ⟨wr.heap.size, 0, none⟩ (.int .i64 rK)).setCell ⟨wr.heap.size, 1, none⟩ (.int .u64 rT)).setCell ⟨wr.heap.size, 2, none⟩ (.slice A3 rl.length c3)) :=
  ⟨⟨A3, c3, blk_put (cs := #[.int .i64 rK, .int .u64 rT, u2]) (blk_put (cs := #[.int .i64 rK, u1, u2]) (blk_put (cs := #[u0, u1, u2]) k1 0 _ rfl) 1 _ rfl) 2 _ rfl,
    Kd.R_mono (Kd.R_far (p := ⟨wr.heap.size, 2, none⟩) (Kd.R_far (p := ⟨wr.heap.size, 1, none⟩) (Kd.R_far (p := ⟨wr.heap.size, 0, none⟩) (Kd.R_types hR k1 ht) (fun _ hk => hk.2) _) (fun _ hk => hk.2) _) (fun _ hk => hk.2) _) (fun _ _ => trivial)⟩, Nat.le_refl _⟩
theorem PB.below {w wr W W' : World} {t g : Nat} {rK rT : Int} {rl : List S51} (h : PB w wr t g rK rT rl W) (hb : Below W.heap.size W W') : PB w wr t g rK rT rl W' := by
  obtain ⟨⟨A3, c3, h1, h2⟩, h3⟩ := h
  exact ⟨⟨A3, c3, (hb.block g (Array.getElem?_eq_some_iff.1 h1).1).trans h1, Kd.R_below h2 hb⟩, h3⟩
theorem PB.lt {w wr W : World} {t g : Nat} {rK rT : Int} {rl : List S51} (h : PB w wr t g rK rT rl W) : g < W.heap.size := by
  obtain ⟨⟨A3, c3, h1, h2⟩, h3⟩ := h
  exact (Array.getElem?_eq_some_iff.1 h1).1
theorem set3_heap {W : World} {b g : Nat} (hne : g ≠ b) (u0 u1 u2 : Value) : (((W.setCell ⟨b, 0, none⟩ u0).setCell ⟨b, 1, none⟩ u1).setCell ⟨b, 2, none⟩ u2).heap[g]? = W.heap[g]? :=
  (Below.heap_setCell _ ⟨b, 2, none⟩ u2 g hne).trans ((Below.heap_setCell _ ⟨b, 1, none⟩ u1 g hne).trans (Below.heap_setCell _ ⟨b, 0, none⟩ u0 g hne))
theorem set3_R {w W : World} {b : Nat} {tb : TypeId} {cells : Array Value} {v : Value} {rl : List S51} (hR : Kd.R k51 51 W w.heap.size (fun _ => True) v rl) (k1 : W.heap[b]? = some (.cells cells tb (0, 0))) (ht : ∀ q, q ∈ 51 :: k51.E → q ≠ tb) (u0 u1 u2 : Value) :
    Kd.R k51 51 (((W.setCell ⟨b, 0, none⟩ u0).setCell ⟨b, 1, none⟩ u1).setCell ⟨b, 2, none⟩ u2) w.heap.size (fun _ => True) v rl :=
  Kd.R_mono (Kd.R_far (p := ⟨b, 2, none⟩) (Kd.R_far (p := ⟨b, 1, none⟩) (Kd.R_far (p := ⟨b, 0, none⟩) (Kd.R_types hR k1 ht) (fun _ hk => hk.2) _) (fun _ hk => hk.2) _) (fun _ hk => hk.2) _) (fun _ _ => trivial)
theorem PB.set3 {w wr W : World} {t g b : Nat} {tb : TypeId} {cells : Array Value} {rK rT : Int} {rl : List S51} (h : PB w wr t g rK rT rl W) (k1 : W.heap[b]? = some (.cells cells tb (0, 0))) (ht : ∀ q, q ∈ 51 :: k51.E → q ≠ tb) (hne : g ≠ b) (u0 u1 u2 : Value) :
    PB w wr t g rK rT rl (((W.setCell ⟨b, 0, none⟩ u0).setCell ⟨b, 1, none⟩ u1).setCell ⟨b, 2, none⟩ u2) := by
  obtain ⟨⟨A3, c3, h1, h2⟩, h3⟩ := h
  exact ⟨⟨A3, c3, (set3_heap hne _ _ _).trans h1, set3_R h2 k1 ht _ _ _⟩, h3⟩
theorem set3_new {W : World} {b : Nat} {t : TypeId} {u0 u1 u2 : Value} (k1 : W.heap[b]? = some (.cells #[u0, u1, u2] t (0, 0))) (v0 v1 v2 : Value) : (((W.setCell ⟨b, 0, none⟩ v0).setCell ⟨b, 1, none⟩ v1).setCell ⟨b, 2, none⟩ v2).heap[b]? = some (.cells #[v0, v1, v2] t (0, 0)) :=
  blk_put (cs := #[v0, v1, u2]) (blk_put (cs := #[v0, u1, u2]) (blk_put (cs := #[u0, u1, u2]) k1 0 _ rfl) 1 _ rfl) 2 _ rfl
theorem set3_below {n b : Nat} {w W : World} (h : Below n w W) (hb : n ≤ b) (v0 v1 v2 : Value) : Below n w (((W.setCell ⟨b, 0, none⟩ v0).setCell ⟨b, 1, none⟩ v1).setCell ⟨b, 2, none⟩ v2) :=
  ((h.setCell (p := ⟨b, 0, none⟩) hb _).setCell (p := ⟨b, 1, none⟩) hb _).setCell (p := ⟨b, 2, none⟩) hb _
theorem aw_keep3 {W0 W : World} {B C : Nat} {t1 t2 : TypeId} {v0 v1 v2 u0 u1 u2 : Value} (k : W0.heap[B]? = some (.cells #[v0, v1, v2] t1 (0, 0))) (j : W0.heap[C]? = some (.cells #[u0, u1, u2] t2 (0, 0))) (hz : Below W0.heap.size W0 W) :
    (W.cell? ⟨B, 0, none⟩ = some v0 ∧ W.cell? ⟨B, 1, none⟩ = some v1 ∧ W.cell? ⟨B, 2, none⟩ = some v2) ∧ (W.cell? ⟨C, 0, none⟩ = some u0 ∧ W.cell? ⟨C, 1, none⟩ = some u1 ∧ W.cell? ⟨C, 2, none⟩ = some u2) := by
  have k' := (hz.block B (Array.getElem?_eq_some_iff.1 k).1).trans k
  have j' := (hz.block C (Array.getElem?_eq_some_iff.1 j).1).trans j
  exact ⟨⟨by simp [World.cell?, k'], by simp [World.cell?, k'], by simp [World.cell?, k']⟩, ⟨by simp [World.cell?, j'], by simp [World.cell?, j'], by simp [World.cell?, j']⟩⟩
/-- What one call of Add gives, in both forms. -/
structure PR (K T : Int) (l all : List S51) (key wt : Int) (As Ax : Option Addr) (cs cx : Nat) (wr : World) (rK rT : Int) (rl : List S51) (re : Int) : Prop where
  hadd : ∀ W, Below wr.heap.size wr W → Calls Try.prog 28 #[.agg #[.int .i64 K, .int .u64 T, .slice As l.length cs], .int .u64 key, .int .u64 wt] W fun e w3 => ∃ A3 c3, e = .returned (.tuple #[.agg #[.int .i64 rK, .int .u64 rT, .slice A3 rl.length c3], .int .i64 re]) ∧ Kd.R k51 51 w3 W.heap.size (fun _ => True) (.slice A3 rl.length c3) rl ∧ Below W.heap.size W w3
  radd : ∀ W, Below wr.heap.size wr W → Calls Try.prog 29 #[.agg #[.int .i64 K, .int .u64 T, .slice Ax l.length cx], .int .u64 key, .int .u64 wt] W fun e w3 => ∃ A3 c3, e = .returned (.tuple #[.agg #[.int .i64 rK, .int .u64 rT, .slice A3 rl.length c3], .int .i64 re]) ∧ Kd.R k51 51 w3 W.heap.size (fun _ => True) (.slice A3 rl.length c3) rl ∧ Below W.heap.size W w3
  len : rl.length ≤ 100
  out : (re = 0 ∧ rK = K ∧ MG K rT rl (all ++ [⟨key, wt⟩])) ∨ re ≠ 0
theorem PR.get {K T : Int} {l all : List S51} {key wt : Int} {As Ax : Option Addr} {cs cx : Nat} {wr : World} {base : Nat} (hK8 : K ≤ 8) (hM : MG K T l all) (h0 : 0 ≤ key) (h1 : 0 ≤ wt) (h2 : wt < 18446744073709551616)
    (rS : Kd.R k51 51 wr base (fun _ => True) (.slice As l.length cs) l) (rX : Kd.R k51 51 wr base (fun _ => True) (.slice Ax l.length cx) l) : ∃ rK rT rl re, PR K T l all key wt As Ax cs cx wr rK rT rl re := by
  have hT := hM.nonneg
  have hlen := hM.len
  by_cases hg : key < 2305843009213693951 ∧ 1 ≤ wt ∧ T + wt ≤ 4503599627370496
  · obtain ⟨g1, g2, g3, g4⟩ := hM.step h0 hg.1 hg.2.1 hg.2.2
    have hl' := g4.len
    have hr := refAdd_good (K := K) (k := 600) (by omega) hM.ok (by omega) hT hg.1 hg.2.1 hg.2.2
    have ha := add_some' (K := K) ⟨hM.ok, (by omega : l.length ≤ 9), hT, h0, hg.1, hg.2.1, hg.2.2⟩
    rcases hA : addL K T l key wt with ⟨p, q, l', t⟩
    rw [hA] at g1 g2 g3 g4 hr ha hl'
    simp only at g1 g2 g3 g4 hl'
    refine ⟨K, T + wt, l', 0, fun W hW => ?_, fun W hW => ?_, by omega, .inl ⟨rfl, rfl, g4⟩⟩
    · refine (heavy_Add.calls K T As cs l key wt _ _ _ _ W (Kd.C_below (Kd.R_reads' rS).2.2 hW) (Kd.R_reads' rS).2.1 ha).mono ?_
      rintro e w3 ⟨v, rfl, hR, hb⟩
      obtain ⟨A3, c3, rfl⟩ := Kd.R_slice hR
      exact ⟨A3, c3, by rw [g1, g2, g3], hR, hb⟩
    · refine (skylightref17_Add.calls 600 K T Ax cx l key wt _ _ _ _ W (Kd.C_below (Kd.R_reads' rX).2.2 hW) (Kd.R_reads' rX).2.1 hr).mono ?_
      rintro e w3 ⟨v, rfl, hR, hb⟩
      obtain ⟨A3, c3, rfl⟩ := Kd.R_slice hR
      exact ⟨A3, c3, by rw [g1, g2, g3], hR, hb⟩
  · refine ⟨0, 0, [], addE key wt, fun W hW => ?_, fun W hW => ?_, by simp, .inr (addE_ne _ _)⟩
    · refine (add_err K T key wt _ W ⟨As, l.length, cs, rfl⟩ hT hM.top h1 h2 hg).mono ?_
      rintro e w3 ⟨rfl, hb⟩
      exact ⟨none, 0, rfl, Kd.R_nil _ _ _ _ _, hb⟩
    · refine (skylightref17_Add.calls 600 K T Ax cx l key wt _ _ _ _ W (Kd.C_below (Kd.R_reads' rX).2.2 hW) (Kd.R_reads' rX).2.1 (refAdd_code hT hM.top h1 h2 hg)).mono ?_
      rintro e w3 ⟨v, rfl, hR, hb⟩
      obtain ⟨A3, c3, rfl⟩ := Kd.R_slice hR
      exact ⟨A3, c3, rfl, hR, hb⟩
/-- The cells that a round reads stay, whatever is made behind them. -/
theorem pl_keep {wr W : World} {S X : Nat} {K T : Int} {n : Nat} {As Ax : Option Addr} {cs cx : Nat} {a b : Addr} {u v : Value} (gS : wr.heap[S]? = some (.cells #[.int .i64 K, .int .u64 T, .slice As n cs] 33 (0, 0))) (gX : wr.heap[X]? = some (.cells #[.int .i64 K, .int .u64 T, .slice Ax n cx] 30 (0, 0)))
    (ha : wr.cell? a = some u) (hb : wr.cell? b = some v) (h : Below wr.heap.size wr W) :
    (W.cell? ⟨S, 0, none⟩ = some (.int .i64 K) ∧ W.cell? ⟨S, 1, none⟩ = some (.int .u64 T) ∧ W.cell? ⟨S, 2, none⟩ = some (.slice As n cs)) ∧ (W.cell? ⟨X, 0, none⟩ = some (.int .i64 K) ∧ W.cell? ⟨X, 1, none⟩ = some (.int .u64 T) ∧ W.cell? ⟨X, 2, none⟩ = some (.slice Ax n cx)) ∧ W.cell? a = some u ∧ W.cell? b = some v := by
  have h1 := (h.block S (Array.getElem?_eq_some_iff.1 gS).1).trans gS
  have h2 := (h.block X (Array.getElem?_eq_some_iff.1 gX).1).trans gX
  exact ⟨⟨by simp [World.cell?, h1], by simp [World.cell?, h1], by simp [World.cell?, h1]⟩, ⟨by simp [World.cell?, h2], by simp [World.cell?, h2], by simp [World.cell?, h2]⟩, (h.cell (World.block_lt_of_cell? wr _ ha)).trans ha, (h.cell (World.block_lt_of_cell? wr _ hb)).trans hb⟩

set_option maxHeartbeats 8000000 in
set_option maxRecDepth 100000 in
theorem plays_true (a0 : Int) (A1 : Option Addr) (c1 : Nat) (l1 : List S51) (w : World) (hC1 : Kd.C k51 w A1 l1.length l1) (hl1 : ∀ t ∈ l1, 0 ≤ t.f0 ∧ 0 ≤ t.f1 ∧ t.f1 < 18446744073709551616) :
    Calls Try.prog 7 #[.int .i64 a0, .slice A1 l1.length c1] w fun e w' => e = .returned (.bool true) ∧ Below w.heap.size w w' := by
  have HA := Aside0.mk (awake_true w)
  have hK1 : 1 ≤ 1 + (if a0 < 0 then 0 else a0) % 8 := by omega
  have hK8 : 1 + (if a0 < 0 then 0 else a0) % 8 ≤ 8 := by omega
  go_enter Try.func7, Try.ntmps7
  go_wp2_with (first
    | (go_at_call 25; refine HA.out.mono ?_; rintro e w1 ⟨rfl, hb1⟩)
    | (go_at_call 26; generalize (if a0 < 0 then (0 : Int) else a0) = m at *; generalize 1 + m % 8 = K at *; refine (heavy_New.calls K K 0 [] 0 _ (new_eq hK1 hK8)).mono ?_; rintro e w2 ⟨v, rfl, hR, hb2⟩; obtain ⟨A2, c2, rfl⟩ := Kd.R_slice hR; rw [List.length_nil] at hR ⊢
       have hsz1 := hb1.size
       have hsz2 := hb2.size
       rw [World.size_alloc] at hsz2
       have kx := (hb2.block w1.heap.size (by simp)).trans (World.alloc_heap_new w1 (.cells #[.int .i64 K, .int .u64 0, .slice none 0 0] 30))
       have B3 := (Below.refl _ w2).alloc (Nat.le_refl _) (.cells #[.int .i64 K, .int .u64 0, .slice A2 0 c2] 33)
       have gX := (B3.block w1.heap.size (by omega)).trans kx
       have gS := World.alloc_heap_new w2 (.cells #[.int .i64 K, .int .u64 0, .slice A2 0 c2] 33)
       have rS := Kd.R_lower (base' := w.heap.size) (Kd.R_below hR B3) (by simp; omega)
       have hBw := (hb1.trans (((Below.refl _ w1).alloc (Nat.le_refl _) (.cells #[.int .i64 K, .int .u64 0, .slice none 0 0] 30)).mono hsz1)).trans ((hb2.mono (by simp; omega)).trans (B3.mono (by omega)))
       have x0 : (w2.alloc (.cells #[.int .i64 K, .int .u64 0, .slice A2 0 c2] 33)).cell? ⟨w1.heap.size, 0, none⟩ = some (.int .i64 K) := by simp only [World.cell?, gX]; rfl
       have x1 : (w2.alloc (.cells #[.int .i64 K, .int .u64 0, .slice A2 0 c2] 33)).cell? ⟨w1.heap.size, 1, none⟩ = some (.int .u64 0) := by simp only [World.cell?, gX]; rfl
       have x2 : (w2.alloc (.cells #[.int .i64 K, .int .u64 0, .slice A2 0 c2] 33)).cell? ⟨w1.heap.size, 2, none⟩ = some (.slice none 0 0) := by simp only [World.cell?, gX]; rfl
       replace gX := Aside0.mk gX
       replace gS := Aside0.mk gS
       replace rS := Aside0.mk rS
       replace hBw := Aside0.mk hBw
       clear hR hb2 B3 kx hb1)
    | (go_at_call 27; refine (skylightlaw17_same.calls 200 K 0 A2 c2 [] K 0 none 0 [] true _ (Kd.R_reads' rS.out).2.2 (Nat.zero_le _) (Kd.R_reads' (Kd.R_nil k51 51 _ w.heap.size (fun _ => True))).2.2 (Nat.zero_le _) (same_eq (by simp) (by omega))).mono ?_; rintro e w4 ⟨rfl, hb4⟩
       have hP : PI w w2.heap.size w1.heap.size K 0 [] w4 := ⟨⟨A2, c2, none, 0, (hb4.block _ (by simp)).trans gS.out, (hb4.block _ (by simp; omega)).trans gX.out, Kd.R_below rS.out hb4, Kd.R_nil _ _ _ _ _⟩, hBw.out.trans (hb4.mono (by simp; omega))⟩
       replace hP := Aside0.mk hP
       clear hb4 x0 x1 x2))
  have HM0 := Aside0.mk (MG.start K hK1)
  clear gX gS rS hBw
  have hne12 : w1.heap.size ≠ w2.heap.size := by omega
  have hw1 : w.heap.size ≤ w1.heap.size := hsz1
  have hw2 : w.heap.size ≤ w2.heap.size := by omega
  go_loopw [9] (fun iv wr => ∃ (i : Nat) (T : Int) (l all : List S51), iv = .int .i64 i ∧ i ≤ l1.length ∧ i ≤ 40 ∧ MG K T l all ∧ all.length ≤ i ∧ PI w w2.heap.size w1.heap.size K T l wr) (fun iv _ => l1.length - (intOf iv).toNat)
  case atStart => exact ⟨0, 0, [], [], rfl, Nat.zero_le _, by omega, HM0.out, by simp, hP.out⟩
  case round =>
    clear hP HM0
    obtain ⟨i, T, l, all, rfl, hi, hi4, hM, hal, ⟨⟨As, cs, Ax, cx, gS, gX, rS, rX⟩, hB⟩⟩ := hrel
    have hMM := Aside0.mk hM
    have hT0 := hM.nonneg
    have hT1 := hM.top
    have hlen := hM.len
    clear hM
    by_cases hlt : i < l1.length ∧ i < 40
    · obtain ⟨hlt1, hlt2⟩ := hlt
      obtain ⟨ad, e1, hc0, hc1⟩ := at_T51 hC1 (i : Int) (by omega) (by omega)
      cases e1
      rw [rdT_get hlt1, Int.toNat_natCast] at hc0 hc1
      have hb0 := World.block_lt_of_cell? w _ hc0
      have hb1' := World.block_lt_of_cell? w _ hc1
      have i0 := (hB.cell hb0).trans hc0
      have i1 := (hB.cell hb1').trans hc1
      obtain ⟨hz0, hz1, hz2⟩ := hl1 l1[i] (List.getElem_mem _)
      obtain ⟨rK, rT, rl, re, hPR⟩ := PR.get hK8 hMM.out hz0 hz1 hz2 rS rX
      replace hPR := Aside0.mk hPR
      obtain ⟨⟨s0, s1, s2⟩, ⟨x0, x1, x2⟩, _, _⟩ := pl_keep gS gX i0 i1 (Below.refl _ wr)
      have gS' := Aside0.mk gS
      have gX' := Aside0.mk gX
      have rS' := Aside0.mk rS
      have rX' := Aside0.mk rX
      have hB' := Aside0.mk hB
      have hI0 := Aside0.mk i0
      have hI1 := Aside0.mk i1
      clear gS gX rS rX hB hc0 hc1
      generalize l1[i] = z at *
      have q0 : (0 : Int) ≤ (i : Int) := by omega
      have q1 : (i : Int) < (l1.length : Int) := by omega
      have m0 := World.new_ne wr _ s0
      have m3 := World.new_ne wr _ i0
      have m5 := World.new_ne wr _ x0
      go_upto_region 9 with (fail)
      go_cut [10, 11] (fun s10 s11 wx => ∃ g : Nat, s10 = .pointer (some ⟨g, 0, none⟩) ∧ s11 = .int .i64 re ∧ PB w wr 33 g rK rT rl wx ∧ Below wr.heap.size wr wx)
      case first =>
        go_region_held3 (fun w' => w'.cell? ⟨w2.heap.size, 0, none⟩ = some (.int .i64 K) ∧ w'.cell? ⟨w2.heap.size, 1, none⟩ = some (.int .u64 T) ∧ w'.cell? ⟨w2.heap.size, 2, none⟩ = some (.slice As l.length cs) ∧ w'.cell? (ad.add (i * 2)) = some (.int .u64 z.f0) ∧ w'.cell? ⟨(ad.add (i * 2)).block, (ad.add (i * 2)).off + 1, none⟩ = some (.int .u64 z.f1)) (go_keep)
          ((go_at_call 28; refine (hPR.out.hadd _ (by repeat (first | exact Below.refl _ _ | apply below_drew1 | apply below_alloc))).mono ?_; rintro e w5 ⟨A3, c3, rfl, hR3, hb3⟩; have hz : Below wr.heap.size wr w5 := (Below.trans (by repeat (first | exact Below.refl _ _ | apply below_drew1 | apply below_alloc)) (hb3.mono (by first | exact Nat.le_refl _ | (simp; done) | (simp; omega)))); obtain ⟨⟨s0, s1, s2⟩, ⟨x0, x1, x2⟩, i0, i1⟩ := pl_keep gS'.out gX'.out hI0.out hI1.out hz; have n0 := World.new_ne w5 _ s0; have n3 := World.new_ne w5 _ i0; have n5 := World.new_ne w5 _ x0; (try (have k1 : w5.heap[wr.heap.size]? = some (.cells #[.int .i64 0, .int .u64 0, .slice none 0 0] 33 (0, 0)) := (hb3.block wr.heap.size (by simp)).trans (World.alloc_heap_new wr _); have t0 := blk_cell k1 0; have t1 := blk_cell k1 1; have t2 := blk_cell k1 2; have f0 := blk_frozen k1 0; have f1 := blk_frozen k1 1; have f2 := blk_frozen k1 2))))
        · go_wp2_with fail
          go_meet
          have hz5 := hz
          have k1 := World.alloc_heap_new w5 (.cells #[.int .i64 rK, .int .u64 rT, .slice A3 rl.length c3] 33)
          exact ⟨w5.heap.size, rfl, rfl, ⟨⟨A3, c3, k1, Kd.R_alloc (Kd.R_lower hR3 (Nat.le_trans hB'.out.size (Nat.le_refl _))) _⟩, hz.size⟩, hz.alloc hz.size _⟩
        · go_wp2_with fail
          go_meet
          have k1 := (hb3.block wr.heap.size (by simp)).trans (World.alloc_heap_new wr (.cells #[.int .i64 0, .int .u64 0, .slice none 0 0] 33))
          refine ⟨wr.heap.size, rfl, rfl, ?_, ((hz.setCell (p := ⟨wr.heap.size, 0, none⟩) (Nat.le_refl _) _).setCell (p := ⟨wr.heap.size, 1, none⟩) (Nat.le_refl _) _).setCell (p := ⟨wr.heap.size, 2, none⟩) (Nat.le_refl _) _⟩
          exact pb_old (Kd.R_lower hR3 (Nat.le_trans hB'.out.size (by simp))) k1 (by decide)
      case rest =>
        obtain ⟨gA, rfl, rfl, hPA, hzA⟩ := hcut
        have hPA' := Aside0.mk hPA
        have hzA' := Aside0.mk hzA
        have hgA := hPA.lt
        have hloA := hPA.lo
        clear s0 s1 s2 x0 x1 x2 m0 m3 m5 hPA i0 i1
        obtain ⟨⟨s0, s1, s2⟩, ⟨x0, x1, x2⟩, i0, i1⟩ := pl_keep gS'.out gX'.out hI0.out hI1.out hzA
        clear hzA
        have m0 := World.new_ne wc _ x0
        have m3 := World.new_ne wc _ i0
        go_upto_region 10 with (fail)
        go_cut [12, 13] (fun s12 s13 wy => ∃ g : Nat, s12 = .pointer (some ⟨g, 0, none⟩) ∧ s13 = .int .i64 re ∧ PB w wr 33 gA rK rT rl wy ∧ PB w wr 30 g rK rT rl wy ∧ Below wr.heap.size wr wy)
        case first =>
          go_region_held3 (fun w' => w'.cell? ⟨w1.heap.size, 0, none⟩ = some (.int .i64 K) ∧ w'.cell? ⟨w1.heap.size, 1, none⟩ = some (.int .u64 T) ∧ w'.cell? ⟨w1.heap.size, 2, none⟩ = some (.slice Ax l.length cx) ∧ w'.cell? (ad.add (i * 2)) = some (.int .u64 z.f0) ∧ w'.cell? ⟨(ad.add (i * 2)).block, (ad.add (i * 2)).off + 1, none⟩ = some (.int .u64 z.f1)) (go_keep)
            ((go_at_call 29; refine (hPR.out.radd _ (by repeat (first | exact hzA'.out | apply below_drew1 | apply below_alloc))).mono ?_; rintro e w5 ⟨A3, c3, rfl, hR3, hb3⟩; have hx : Below wc.heap.size wc w5 := (Below.trans (by repeat (first | exact Below.refl _ _ | apply below_drew1 | apply below_alloc)) (hb3.mono (by first | exact Nat.le_refl _ | (simp; done) | (simp; omega)))); have hz := hzA'.out.trans (hx.mono hzA'.out.size); obtain ⟨⟨s0, s1, s2⟩, ⟨x0, x1, x2⟩, i0, i1⟩ := pl_keep gS'.out gX'.out hI0.out hI1.out hz; have n0 := World.new_ne w5 _ s0; have n3 := World.new_ne w5 _ i0; have n5 := World.new_ne w5 _ x0; (try (have k1 : w5.heap[wc.heap.size]? = some (.cells #[.int .i64 0, .int .u64 0, .slice none 0 0] 30 (0, 0)) := (hb3.block wc.heap.size (by simp)).trans (World.alloc_heap_new wc _); have t0 := blk_cell k1 0; have t1 := blk_cell k1 1; have t2 := blk_cell k1 2; have f0 := blk_frozen k1 0; have f1 := blk_frozen k1 1; have f2 := blk_frozen k1 2))))
          · go_wp2_with fail
            go_meet
            have k1 := World.alloc_heap_new w5 (.cells #[.int .i64 rK, .int .u64 rT, .slice A3 rl.length c3] 30)
            exact ⟨w5.heap.size, rfl, rfl, (hPA'.out.below hx).below ((Below.refl _ w5).alloc (Nat.le_refl _) _), ⟨⟨A3, c3, k1, Kd.R_alloc (Kd.R_lower hR3 (Nat.le_trans hB'.out.size (Nat.le_trans hzA'.out.size (Nat.le_refl _)))) _⟩, hz.size⟩, hz.alloc hz.size _⟩
          · go_wp2_with fail
            go_meet
            have k1 := (hb3.block wc.heap.size (by simp)).trans (World.alloc_heap_new wc (.cells #[.int .i64 0, .int .u64 0, .slice none 0 0] 30))
            have hR4 := Kd.R_lower (base' := w.heap.size) hR3 (Nat.le_trans hB'.out.size (Nat.le_trans hzA'.out.size (by simp)))
            exact ⟨wc.heap.size, rfl, rfl, (hPA'.out.below hx).set3 k1 (by decide) (by omega) _ _ _, ⟨⟨A3, c3, set3_new k1 _ _ _, set3_R hR4 k1 (by decide) _ _ _⟩, hzA'.out.size⟩, set3_below hz hzA'.out.size _ _ _⟩
        case rest =>
          obtain ⟨gB, rfl, rfl, hPA2, hPB2, hzB⟩ := hcut
          obtain ⟨⟨A3, c3, kA, rA⟩, hloA2⟩ := hPA2
          obtain ⟨⟨A4, c4, kB, rB⟩, hloB⟩ := hPB2
          have KA := Aside0.mk kA
          have KB := Aside0.mk kB
          have RA := Aside0.mk rA
          have RB := Aside0.mk rB
          have HZ := Aside0.mk hzB
          obtain ⟨E, hE1, hE2⟩ := lost_two hK1 hK8 hMM.out (k := 200) (by omega)
          have H27 := Aside0.mk (fun W (hW : Below wc.heap.size wc W) => skylightlaw17_same.calls 200 rK rT A3 c3 rl rK rT A4 c4 rl true W (Kd.C_below (Kd.R_reads' RA.out).2.2 hW) (Kd.R_reads' RA.out).2.1 (Kd.C_below (Kd.R_reads' RB.out).2.2 hW) (Kd.R_reads' RB.out).2.1 (same_eq hPR.out.len (by omega)))
          have H24 := Aside0.mk (fun W (hW : Below wr.heap.size wr W) => heavy_Of.calls 200 K T As cs l z.f0 _ W (Kd.C_below (Kd.R_reads' rS'.out).2.2 hW) (Kd.R_reads' rS'.out).2.1 (hOf_eq hMM.out.ok.1 (by omega) (by omega)))
          have H30 := Aside0.mk (fun W (hW : Below wr.heap.size wr W) => skylightref17_Of.calls 200 K T Ax cx l z.f0 _ W (Kd.C_below (Kd.R_reads' rX'.out).2.2 hW) (Kd.R_reads' rX'.out).2.1 (refOf_eq hMM.out.ok.1 (by omega) (by omega)))
          have H31 := Aside0.mk (fun W (hW : Below wr.heap.size wr W) => heavy_Lost.calls 200 K T As cs l E W (Kd.C_below (Kd.R_reads' rS'.out).2.2 hW) (Kd.R_reads' rS'.out).2.1 hE1)
          have H32 := Aside0.mk (fun W (hW : Below wr.heap.size wr W) => skylightref17_Lost.calls 200 K T Ax cx l E W (Kd.C_below (Kd.R_reads' rX'.out).2.2 hW) (Kd.R_reads' rX'.out).2.1 hE2)
          have KP := Aside0.mk (fun W (hW : Below wc.heap.size wc W) => aw_keep3 KA.out KB.out hW)
          have KQ := Aside0.mk (fun W (hW : Below wr.heap.size wr W) => pl_keep gS'.out gX'.out hI0.out hI1.out hW)
          clear kA kB rA rB hE1 hE2 s0 s1 s2 x0 x1 x2 i0 i1 m0 m3
          obtain ⟨⟨s0, s1, s2⟩, ⟨x0, x1, x2⟩, i0, i1⟩ := KQ.out _ hzB
          obtain ⟨⟨a0', a1, a2⟩, ⟨b0, b1, b2⟩⟩ := KP.out _ (Below.refl _ wc)
          have hq := Below.refl wc.heap.size wc
          go_upto_region 11 with (fail)
          go_cut [106] (fun s106 wy => s106 = .bool false ∧ Below wc.heap.size wc wy)
          case first =>
            go_region_held3 (fun w' => (w'.cell? ⟨gA, 0, none⟩ = some (.int .i64 rK) ∧ w'.cell? ⟨gA, 1, none⟩ = some (.int .u64 rT) ∧ w'.cell? ⟨gA, 2, none⟩ = some (.slice A3 rl.length c3)) ∧ (w'.cell? ⟨gB, 0, none⟩ = some (.int .i64 rK) ∧ w'.cell? ⟨gB, 1, none⟩ = some (.int .u64 rT) ∧ w'.cell? ⟨gB, 2, none⟩ = some (.slice A4 rl.length c4)) ∧ (w'.cell? ⟨w2.heap.size, 0, none⟩ = some (.int .i64 K) ∧ w'.cell? ⟨w2.heap.size, 1, none⟩ = some (.int .u64 T) ∧ w'.cell? ⟨w2.heap.size, 2, none⟩ = some (.slice As l.length cs)) ∧ (w'.cell? ⟨w1.heap.size, 0, none⟩ = some (.int .i64 K) ∧ w'.cell? ⟨w1.heap.size, 1, none⟩ = some (.int .u64 T) ∧ w'.cell? ⟨w1.heap.size, 2, none⟩ = some (.slice Ax l.length cx)) ∧ w'.cell? (ad.add (i * 2)) = some (.int .u64 z.f0)) (go_keep)
              (first
                | (go_at_call 27; refine (H27.out _ (by repeat (first | assumption | exact Below.refl _ _ | apply below_drew1))).mono ?_; rintro e w5 ⟨rfl, hb⟩; have hq5 : Below wc.heap.size wc w5 := Below.trans (by repeat (first | assumption | exact Below.refl _ _ | apply below_drew1)) (hb.mono hq.size); clear hq hb s0 s1 s2 x0 x1 x2 i0 i1 a0' a1 a2 b0 b1 b2; have hq := hq5; clear hq5; obtain ⟨⟨s0, s1, s2⟩, ⟨x0, x1, x2⟩, i0, i1⟩ := KQ.out _ (HZ.out.trans (hq.mono HZ.out.size)); obtain ⟨⟨a0', a1, a2⟩, ⟨b0, b1, b2⟩⟩ := KP.out _ hq)
                | (go_at_call 24; refine (H24.out _ (HZ.out.trans (Below.mono (by repeat (first | assumption | exact Below.refl _ _ | apply below_drew1)) HZ.out.size))).mono ?_; rintro e w5 ⟨rfl, hb⟩; have hq5 : Below wc.heap.size wc w5 := Below.trans (by repeat (first | assumption | exact Below.refl _ _ | apply below_drew1)) (hb.mono hq.size); clear hq hb s0 s1 s2 x0 x1 x2 i0 i1 a0' a1 a2 b0 b1 b2; have hq := hq5; clear hq5; obtain ⟨⟨s0, s1, s2⟩, ⟨x0, x1, x2⟩, i0, i1⟩ := KQ.out _ (HZ.out.trans (hq.mono HZ.out.size)); obtain ⟨⟨a0', a1, a2⟩, ⟨b0, b1, b2⟩⟩ := KP.out _ hq)
                | (go_at_call 30; refine (H30.out _ (HZ.out.trans (Below.mono (by repeat (first | assumption | exact Below.refl _ _ | apply below_drew1)) HZ.out.size))).mono ?_; rintro e w5 ⟨rfl, hb⟩; have hq5 : Below wc.heap.size wc w5 := Below.trans (by repeat (first | assumption | exact Below.refl _ _ | apply below_drew1)) (hb.mono hq.size); clear hq hb s0 s1 s2 x0 x1 x2 i0 i1 a0' a1 a2 b0 b1 b2; have hq := hq5; clear hq5; obtain ⟨⟨s0, s1, s2⟩, ⟨x0, x1, x2⟩, i0, i1⟩ := KQ.out _ (HZ.out.trans (hq.mono HZ.out.size)); obtain ⟨⟨a0', a1, a2⟩, ⟨b0, b1, b2⟩⟩ := KP.out _ hq)
                | (go_at_call 31; refine (H31.out _ (HZ.out.trans (Below.mono (by repeat (first | assumption | exact Below.refl _ _ | apply below_drew1)) HZ.out.size))).mono ?_; rintro e w5 ⟨rfl, hb⟩; have hq5 : Below wc.heap.size wc w5 := Below.trans (by repeat (first | assumption | exact Below.refl _ _ | apply below_drew1)) (hb.mono hq.size); clear hq hb s0 s1 s2 x0 x1 x2 i0 i1 a0' a1 a2 b0 b1 b2; have hq := hq5; clear hq5; obtain ⟨⟨s0, s1, s2⟩, ⟨x0, x1, x2⟩, i0, i1⟩ := KQ.out _ (HZ.out.trans (hq.mono HZ.out.size)); obtain ⟨⟨a0', a1, a2⟩, ⟨b0, b1, b2⟩⟩ := KP.out _ hq)
                | (go_at_call 32; refine (H32.out _ (HZ.out.trans (Below.mono (by repeat (first | assumption | exact Below.refl _ _ | apply below_drew1)) HZ.out.size))).mono ?_; rintro e w5 ⟨rfl, hb⟩; have hq5 : Below wc.heap.size wc w5 := Below.trans (by repeat (first | assumption | exact Below.refl _ _ | apply below_drew1)) (hb.mono hq.size); clear hq hb s0 s1 s2 x0 x1 x2 i0 i1 a0' a1 a2 b0 b1 b2; have hq := hq5; clear hq5; obtain ⟨⟨s0, s1, s2⟩, ⟨x0, x1, x2⟩, i0, i1⟩ := KQ.out _ (HZ.out.trans (hq.mono HZ.out.size)); obtain ⟨⟨a0', a1, a2⟩, ⟨b0, b1, b2⟩⟩ := KP.out _ hq))
            go_wp2_with fail
            go_meet
            exact ⟨rfl, hq⟩
          case rest =>
            clear hq s0 s1 s2 x0 x1 x2 i0 i1 a0' a1 a2 b0 b1 b2
            obtain ⟨rfl, hq⟩ := hcut
            have hz := HZ.out.trans (hq.mono HZ.out.size)
            obtain ⟨⟨a0', a1, a2⟩, ⟨b0, b1, b2⟩⟩ := KP.out _ hq
            obtain ⟨⟨s0, s1, s2⟩, ⟨x0, x1, x2⟩, _, _⟩ := KQ.out _ hz
            have ltS := (Array.getElem?_eq_some_iff.1 gS'.out).1
            have ltX := (Array.getElem?_eq_some_iff.1 gX'.out).1
            have gS2 := (hz.block _ ltS).trans gS'.out
            have gX2 := (hz.block _ ltX).trans gX'.out
            have rA2 := Kd.R_below RA.out hq
            have rB2 := Kd.R_below RB.out hq
            have rS2 := Kd.R_below rS'.out hz
            have rX2 := Kd.R_below rX'.out hz
            have fs0 := blk_frozen gS2 0
            have fs1 := blk_frozen gS2 1
            have fs2 := blk_frozen gS2 2
            have fx0 := blk_frozen gX2 0
            have fx1 := blk_frozen gX2 1
            have fx2 := blk_frozen gX2 2
            have e1 : gB ≠ w2.heap.size := by omega
            have e2 : gA ≠ w1.heap.size := by omega
            have e3 : gB ≠ w1.heap.size := by omega
            have e4 : gA ≠ w2.heap.size := by omega
            have e5 : w1.heap.size ≠ w2.heap.size := hne12
            replace rA2 := Aside0.mk rA2
            replace rB2 := Aside0.mk rB2
            replace rS2 := Aside0.mk rS2
            replace rX2 := Aside0.mk rX2
            replace gS2 := Aside0.mk gS2
            replace gX2 := Aside0.mk gX2
            replace hz := Aside0.mk hz
            have HW := Aside0.mk (hB'.out.trans (hz.out.mono hB'.out.size))
            have hSl : w.heap.size ≤ w2.heap.size := hw2
            have hXl : w.heap.size ≤ w1.heap.size := hw1
            rcases hPR.out.out with ⟨h0, hk, hM'⟩ | hne
            · subst h0
              subst hk
              replace hM' := Aside0.mk hM'
              go_wp2
              have gX3 := (set3_heap (W := wc) (b := w2.heap.size) (g := w1.heap.size) e5 (.int .i64 rK) (.int .u64 rT) (.slice A3 rl.length c3)).trans gX2.out
              refine ⟨⟨i + 1, rT, rl, all ++ [z], by simp, by omega, by omega, hM'.out, by simp; omega, ⟨⟨A3, c3, A4, c4, (set3_heap (fun e => e5 e.symm) _ _ _).trans (set3_new gS2.out _ _ _), set3_new gX3 _ _ _, set3_R (set3_R rA2.out gS2.out (by decide) _ _ _) gX3 (by decide) _ _ _, set3_R (set3_R rB2.out gS2.out (by decide) _ _ _) gX3 (by decide) _ _ _⟩, set3_below (set3_below HW.out hSl _ _ _) hXl _ _ _⟩⟩, by simp [intOf]; omega⟩
            · have hd0 : (re == 0) = false := by simpa using hne
              go_wp2
              exact ⟨⟨i + 1, T, l, all, by simp, by omega, by omega, hMM.out, by omega, ⟨⟨As, cs, Ax, cx, gS2.out, gX2.out, rS2.out, rX2.out⟩, HW.out⟩⟩, by simp [intOf]; omega⟩
    · have s0 : wr.cell? ⟨w2.heap.size, 0, none⟩ = some (.int .i64 K) := by simp only [World.cell?, gS]; rfl
      have s1 : wr.cell? ⟨w2.heap.size, 1, none⟩ = some (.int .u64 T) := by simp only [World.cell?, gS]; rfl
      have s2 : wr.cell? ⟨w2.heap.size, 2, none⟩ = some (.slice As l.length cs) := by simp only [World.cell?, gS]; rfl
      have x0 : wr.cell? ⟨w1.heap.size, 0, none⟩ = some (.int .i64 K) := by simp only [World.cell?, gX]; rfl
      have x1 : wr.cell? ⟨w1.heap.size, 1, none⟩ = some (.int .u64 T) := by simp only [World.cell?, gX]; rfl
      have x2 : wr.cell? ⟨w1.heap.size, 2, none⟩ = some (.slice Ax l.length cx) := by simp only [World.cell?, gX]; rfl
      have HS := Aside0.mk (skylightlaw17_same.calls 200 K T As cs l K T Ax cx l true wr (Kd.R_reads' rS).2.2 (Kd.R_reads' rS).2.1 (Kd.R_reads' rX).2.2 (Kd.R_reads' rX).2.1 (same_eq (by omega) (by omega)))
      replace hB := Aside0.mk hB
      clear gS gX rS rX
      have hex : i < l1.length → i = 40 := by omega
      go_wp2_with (go_at_call 27; refine HS.out.mono ?_; rintro e w9 ⟨rfl, hb9⟩)
      all_goals (go_ret; exact ⟨rfl, hB.out.trans (hb9.mono hB.out.size)⟩)
theorem plays_range {l : List S51} (ok : ∀ s ∈ l, (Lit.int .u64 s.f0).wf = true ∧ (Lit.int .u64 s.f1).wf = true) : ∀ t ∈ l, 0 ≤ t.f0 ∧ 0 ≤ t.f1 ∧ t.f1 < 18446744073709551616 := fun t ht => by
  obtain ⟨h0, h1⟩ := ok t ht
  simp [Lit.wf, IntKind.min, IntKind.max, IntKind.signed, IntKind.bits] at h0 h1
  omega
end Go.Proofs.Ytohginlodlijkaa.PH
