/- The contract of heavy.Add. Conditions: the items rise, have counts of 1 at least, and are 9 at most; the total and the counts are no more than 2^52. -/
import Derived.Deep.RegionHeld3
import Derived.Deep.DrawnRows
import Derived.Test.YtohginlodlijkaaSet
namespace Go.Proofs.Ytohginlodlijkaa.PH
open Go.RowKit Go.Maps Go.Proofs.YtohginlodlijkaaW.PrintWords Go.Proofs.YtohginlodlijkaaW.PrintLast Go.Proofs.YtohginlodlijkaaW.PrintMore Go.Proofs.Ytohginlodlijkaa.Mapr

/-- Items that may be. -/
def Okl (l : List S51) : Prop := Rise l ∧ ∀ s ∈ l, 0 ≤ s.f0 ∧ s.f0 < 18446744073709551616 ∧ 1 ≤ s.f1 ∧ s.f1 ≤ 4503599627370496
instance (l : List S51) : Decidable (Okl l) := inferInstanceAs (Decidable (List.Pairwise _ l ∧ _))
/-- What Add answers, where it takes the weight. -/
def addL (K T : Int) (l : List S51) (key wt : Int) : Int × Int × List S51 × Int :=
  if getk l key = 0 ∧ (l.length : Int) ≥ K then
    if wt - minL (fun _ => true) wt l > 0 then (K, T + wt, putk (lessk l (minL (fun _ => true) wt l)) key (wt - minL (fun _ => true) wt l), 0)
    else (K, T + wt, lessk l (minL (fun _ => true) wt l), 0)
  else (K, T + wt, putk l key (getk l key + wt), 0)
def heavy_Add.f (a0_0 a0_1 : Int) (l0_2 : List S51) (a1 a2 : Int) : Option (Int × Int × List S51 × Int) :=
  if Okl l0_2 ∧ l0_2.length ≤ 9 ∧ 0 ≤ a0_1 ∧ 0 ≤ a1 ∧ a1 < 2305843009213693951 ∧ 1 ≤ a2 ∧ a0_1 + a2 ≤ 4503599627370496 then some (addL a0_0 a0_1 l0_2 a1 a2) else none

theorem wf_u64 {x : Int} (h0 : 0 ≤ x) (h1 : x < 18446744073709551616) : (Lit.int .u64 x).wf = true := by
  simp [Lit.wf, IntKind.min, IntKind.max, IntKind.signed, IntKind.bits]; omega
theorem getk_bound {l : List S51} (h : Okl l) (k : Int) : 0 ≤ getk l k ∧ getk l k ≤ 4503599627370496 := by
  have h2 := h.2
  clear h
  induction l with
  | nil => simp [getk]
  | cons s l ih =>
    simp only [getk]
    have := h2 s (by simp)
    split
    · omega
    · exact ih (fun t ht => h2 t (by simp [ht]))
theorem putk_length : ∀ (l : List S51) (k v : Int), (putk l k v).length ≤ l.length + 1
  | [], _, _ => by simp [putk]
  | s :: l, k, v => by
    simp only [putk]
    have := putk_length l k v
    split
    · simp; omega
    · split <;> simp
theorem putk_wf {l : List S51} {k v : Int} (h : Wf l) (hk : (Lit.int .u64 k).wf = true) (hv : (Lit.int .u64 v).wf = true) : Wf (putk l k v) := fun s hs => by
  rcases putk_mem hs with rfl | hs
  · exact ⟨hk, hv⟩
  · exact h s hs
theorem Okl.wf {l : List S51} (h : Okl l) : Wf l := fun s hs => by
  obtain ⟨h0, h1, h2, h3⟩ := h.2 s hs
  exact ⟨wf_u64 h0 h1, wf_u64 (by omega) (by omega)⟩

set_option maxHeartbeats 4000000 in
set_option maxRecDepth 100000 in
theorem hkey_calls (x : Int) (w : World) : Calls Try.prog 51 #[.int .u64 x] w fun e w' => e = .returned (.bool (decide (x < 2305843009213693951))) ∧ w' = w := by
  go_enter Try.func51, Try.ntmps51
  go_wp2
  go_ret
  exact ⟨by first | rfl | simp, rfl⟩

/-- What the last call gives, whatever the boxes hold. -/
theorem items_tail (S b n : Nat) (L : List S51) (hr : Rise L) (hw : Wf L) (hl : L.length ≤ 10) (v0 v1 v2 : Value) (c3 : Obj) (w W : World) (hown : W.ownsMap Try.prog 27 (plainElem Try.prog 27) b n (mapD L))
    (g0 : W.heap[S]? = some (.cells #[v0, v1, v2] 33 (0, 0))) (g1 : W.heap[S + 1]? = some c3) (hB : Below S w W) (W' : World) (hW : Below W.heap.size W W') :
    Calls Try.prog 54 #[.map (some b)] W' fun e w3 => ∃ (A2 : Option Addr) (c2 : Nat), e = .returned (.slice A2 L.length c2) ∧ Kd.R k51 51 w3 (S + 2) (fun _ => True) (.slice A2 L.length c2) L ∧ w3.cell? ⟨S, 0, none⟩ = some v0 ∧ w3.cell? ⟨S, 1, none⟩ = some v1 ∧ w3.heap[S + 1]? = some c3 ∧ Below S w w3 := by
  have hlt : S + 1 < W.heap.size := (Array.getElem?_eq_some_iff.1 g1).1
  have hown' : W'.ownsMap Try.prog 27 (plainElem Try.prog 27) b n (mapD L) := by
    have hbl := hown.lt
    obtain ⟨es, clock, hb, Ft, hs, hD⟩ := hown
    exact ⟨es, clock, (hW.block b hbl).trans hb, Ft, hs, hD⟩
  refine (items_calls b n L hr hw (Nat.lt_of_le_of_lt hl (by decide)) W' hown').mono ?_
  rintro e w3 ⟨v, rfl, hv, hb3⟩
  obtain ⟨A2, c2, rfl⟩ := Kd.R_slice hv
  have hs1 := hW.size
  have k0 : w3.heap[S]? = some (.cells #[v0, v1, v2] 33 (0, 0)) := (hb3.block S (by omega)).trans ((hW.block S (by omega)).trans g0)
  exact ⟨A2, c2, rfl, Kd.R_lower hv (by omega), by simp [World.cell?, k0], by simp [World.cell?, k0], (hb3.block (S + 1) (by omega)).trans ((hW.block (S + 1) (by omega)).trans g1), hB.trans ((hW.mono (by omega)).trans (hb3.mono (by omega)))⟩

theorem minL_ge {p : S51 → Bool} {w m : Int} (hw : m ≤ w) : ∀ {l : List S51}, (∀ s ∈ l, m ≤ s.f1) → m ≤ minL p w l
  | [], _ => hw
  | s :: l, h => by
    simp only [minL]
    have h1 := h s (by simp)
    have h2 := minL_ge (p := p) hw (l := l) (fun t ht => h t (by simp [ht]))
    split <;> omega
theorem lessk_mem {l : List S51} {d : Int} {s : S51} (h : s ∈ lessk l d) : ∃ t ∈ l, s.f0 = t.f0 ∧ s.f1 = t.f1 - d ∧ t.f1 - d ≠ 0 := by
  obtain ⟨t, ht, he⟩ := List.mem_filterMap.1 h
  split at he
  · cases he
  · rename_i hne
    cases he
    exact ⟨t, ht, rfl, rfl, hne⟩
theorem lessk_rise {l : List S51} (h : Rise l) (d : Int) : Rise (lessk l d) := by
  have := goL_rise (lessG_keeps (fun _ => false) d) h
  rwa [lessG_all l d _ (fun _ => rfl)] at this
theorem lessk_wf {l : List S51} {d : Int} (h : ∀ s ∈ l, 0 ≤ s.f0 ∧ s.f0 < 18446744073709551616 ∧ 1 ≤ s.f1 ∧ s.f1 ≤ 4503599627370496) (hd : 0 ≤ d) (hd2 : ∀ s ∈ l, d ≤ s.f1) : Wf (lessk l d) := fun s hs => by
  obtain ⟨t, ht, e0, e1, _⟩ := lessk_mem hs
  obtain ⟨a0, a1, a2, a3⟩ := h t ht
  have := hd2 t ht
  exact ⟨wf_u64 (by omega) (by omega), wf_u64 (by omega) (by omega)⟩
theorem lessk_length (l : List S51) (d : Int) : (lessk l d).length ≤ l.length := List.length_filterMap_le _ _
theorem getk_lessk {l : List S51} {key : Int} (h : Okl l) (hz : getk l key = 0) (d : Int) : getk (lessk l d) key = 0 := getk_none fun s hs he => by
  obtain ⟨t, ht, e0, _, _⟩ := lessk_mem hs
  have := getk_mem h.1 ht
  rw [← e0, he, hz] at this
  have := (h.2 t ht).2.2.1
  omega
theorem tail_end {w w3 : World} {S : Nat} {L : List S51} {v : Value} {cs : Array Value} (hv : Kd.R k51 51 w3 (S + 2) (fun _ => True) v L) (k1 : w3.heap[S + 1]? = some (.cells cs 33 (0, 0))) (hb3 : Below S w w3) (u0 u1 u2 : Value) :
    Kd.R k51 51 (((w3.setCell ⟨S + 1, 0, none⟩ u0).setCell ⟨S + 1, 1, none⟩ u1).setCell ⟨S + 1, 2, none⟩ u2) S (fun _ => True) v L ∧ Below S w (((w3.setCell ⟨S + 1, 0, none⟩ u0).setCell ⟨S + 1, 1, none⟩ u1).setCell ⟨S + 1, 2, none⟩ u2) :=
  ⟨Kd.R_lower (Kd.R_mono (Kd.R_far (p := ⟨S + 1, 2, none⟩) (Kd.R_far (p := ⟨S + 1, 1, none⟩) (Kd.R_far (p := ⟨S + 1, 0, none⟩) (Kd.R_types hv k1 (by decide)) (fun _ hk => hk.2) _) (fun _ hk => hk.2) _) (fun _ hk => hk.2) _) (fun _ _ => trivial)) (by omega),
   ((hb3.setCell (p := ⟨S + 1, 0, none⟩) (Nat.le_succ S) _).setCell (p := ⟨S + 1, 1, none⟩) (Nat.le_succ S) _).setCell (p := ⟨S + 1, 2, none⟩) (Nat.le_succ S) _⟩

set_option maxHeartbeats 4000000 in
set_option maxRecDepth 100000 in
theorem add_ok (K T key wt : Int) (A : Option Addr) (c : Nat) (l : List S51) (w : World) (hC : k51.C w A l.length l) (ho : Okl l) (hl : l.length ≤ 9) (hT : 0 ≤ T) (hk0 : 0 ≤ key) (hk1 : key < 2305843009213693951) (h1 : 1 ≤ wt) (h2 : T + wt ≤ 4503599627370496) :
    Calls Try.prog 28 #[.agg #[.int .i64 K, .int .u64 T, .slice A l.length c], .int .u64 key, .int .u64 wt] w fun e w' => ∃ v : Value, e = .returned (.tuple #[.agg #[.int .i64 (addL K T l key wt).1, .int .u64 (addL K T l key wt).2.1, v], .int .i64 (addL K T l key wt).2.2.2]) ∧ Kd.R k51 51 w' w.heap.size (fun _ => True) v (addL K T l key wt).2.2.1 ∧ Below w.heap.size w w' := by
  have HC := Aside0.mk (counts_calls K T A c l ((w.alloc (.cells #[.int .i64 K, .int .u64 T, .slice A l.length c] 33)).alloc (.cells #[.int .i64 0, .int .u64 0, .slice none 0 0] 33)) (Kd.C_below hC (((Below.refl _ w).alloc (Nat.le_refl _) _).alloc (by simp) _)) ho.1 ho.wf (by omega))
  have HO := Aside0.mk ho
  have HB0 := Aside0.mk (((Below.refl _ w).alloc (Nat.le_refl _) (.cells #[.int .i64 K, .int .u64 T, .slice A l.length c] 33)).alloc (by simp) (.cells #[.int .i64 0, .int .u64 0, .slice none 0 0] 33))
  have hz0 : ((w.alloc (.cells #[.int .i64 K, .int .u64 T, .slice A l.length c] 33)).alloc (.cells #[.int .i64 0, .int .u64 0, .slice none 0 0] 33)).heap[w.heap.size]? = some (.cells #[.int .i64 K, .int .u64 T, .slice A l.length c] 33 (0, 0)) := (Below.heap_alloc _ _ _ (by simp)).trans (World.alloc_heap_new w _)
  have hz1 : ((w.alloc (.cells #[.int .i64 K, .int .u64 T, .slice A l.length c] 33)).alloc (.cells #[.int .i64 0, .int .u64 0, .slice none 0 0] 33)).heap[w.heap.size + 1]? = some (.cells #[.int .i64 0, .int .u64 0, .slice none 0 0] 33 (0, 0)) := by have := World.alloc_heap_new (w.alloc (.cells #[.int .i64 K, .int .u64 T, .slice A l.length c] 33)) (.cells #[.int .i64 0, .int .u64 0, .slice none 0 0] 33); rwa [World.size_alloc] at this
  have hsz : ((w.alloc (.cells #[.int .i64 K, .int .u64 T, .slice A l.length c] 33)).alloc (.cells #[.int .i64 0, .int .u64 0, .slice none 0 0] 33)).heap.size = w.heap.size + 2 := by simp
  replace hz0 := Aside0.mk hz0
  replace hz1 := Aside0.mk hz1
  replace hsz := Aside0.mk hsz
  obtain ⟨hg0, hg1⟩ := getk_bound ho key
  have hwv := wf_u64 (show 0 ≤ getk l key + wt by omega) (by omega)
  have hwv0 := wf_u64 (show 0 ≤ wt by omega) (by omega)
  have hwk := wf_u64 hk0 (show key < 18446744073709551616 by omega)
  clear hC ho
  go_enter Try.func28, Try.ntmps28
  have e1 : decide (wt = 0) = false := by simp; omega
  go_wp2_with (first
    | (go_at_call 51; refine (hkey_calls _ _).mono ?_; rintro e w1 ⟨rfl, rfl⟩)
    | (go_at_call 52; refine HC.out.mono ?_; rintro e w1 ⟨b, rfl, hb, hown, hB1⟩
       have g0 := (hB1.block w.heap.size (by rw [hsz.out]; omega)).trans hz0.out
       have g1 := (hB1.block (w.heap.size + 1) (by rw [hsz.out]; omega)).trans hz1.out
       rw [hsz.out] at hb
       have hBw := Aside0.mk (HB0.out.trans (hB1.mono (by rw [hsz.out]; omega)))
       replace hB1 := Aside0.mk hB1
       have c0 : w1.cell? ⟨w.heap.size, 0, none⟩ = some (.int .i64 K) := by simp [World.cell?, g0]
       have c1 : w1.cell? ⟨w.heap.size, 1, none⟩ = some (.int .u64 T) := by simp [World.cell?, g0]
       have f1 : w1.frozen? ⟨w.heap.size, 1, none⟩ = false := by simp [World.frozen?, g0]
       have hlen := fun ty => hown.len Try.underlying75 ty
       rw [mapD_size] at hlen
       replace g0 := Aside0.mk g0
       replace g1 := Aside0.mk g1)
    | (at_lookup; refine wpList_lookup_own_int w1 rfl _ _ 75 rfl 27 27 .u64 law27 Try.underlying75 Try.underlying27 (zeroE27 _) b l.length _ rfl hown _ _ rfl (keyOf_int_mk Try.underlying27 hwk) ?_; intro c2 hat2 _; obtain rfl : c2 = getk l key := by (rw [mapD_at] at hat2; simpa using hat2.symm))
    | (at_range; refine wpList_range_own _ rfl _ 75 rfl 27 27 law27 Try.underlying75 _ b l.length _ rfl hown ?_; intro w0 hrg0 hgr0 hs0; clear c0 c1 f1 hlen; go_frame)
    | (at_mapUpdate; (refine wpList_mapUpdate_own _ rfl _ _ _ 75 rfl 27 27 law27 Try.underlying75 _ b l.length _ rfl hown (by unfold maxLen; omega) _ _ _ rfl rfl (keyOf_int_mk Try.underlying27 hwk) _ [] (by first | exact plainElem_int Try.underlying27 hwv | exact plainElem_int Try.underlying27 hwv0) ?_); intro w2 hown2 hgrow2
       have g0' := (hgrow2.block w.heap.size (by have := hown.lt; omega) (fun e => by cases e; omega)).trans g0.out
       have g1' := (hgrow2.block (w.heap.size + 1) (by have := hown.lt; omega) (fun e => by cases e; omega)).trans g1.out
       have hBw2 := Aside0.mk (hBw.out.grown hgrow2 hBw.out.size (fun j hj => by cases hj; omega))
       clear c0 c1 f1 hlen
       have c0 : w2.cell? ⟨w.heap.size, 0, none⟩ = some (.int .i64 K) := by simp [World.cell?, g0']
       have c1 : w2.cell? ⟨w.heap.size, 1, none⟩ = some (.int .u64 T) := by simp [World.cell?, g0']
       have f0 : w2.frozen? ⟨w.heap.size + 1, 0, none⟩ = false := by simp [World.frozen?, g1']
       have f1 : w2.frozen? ⟨w.heap.size + 1, 1, none⟩ = false := by simp [World.frozen?, g1']
       have f2 : w2.frozen? ⟨w.heap.size + 1, 2, none⟩ = false := by simp [World.frozen?, g1']
       rw [mapD_put _ _ _ HO.out.1] at hown2))
  · have hcond : getk l key = 0 ∧ (l.length : Int) ≥ K := ⟨by assumption, by omega⟩
    go_loopw [9, 11] (fun dv nv wr => ∃ (left : Lit → Bool) (cnt : Nat), wr.ranges Try.prog 27 (plainElem Try.prog 27) b w1.heap.size l.length (mapD l) left cnt ∧ dv = .int .u64 (minL (fun s => !left (.int .u64 s.f0)) wt l) ∧ w1.grownBy wr none)
      (fun _ _ wr => wr.rangeLeft b w1.heap.size)
    case atStart =>
      refine ⟨_, _, hrg0, ?_, hgr0⟩
      rw [minL_congr (p' := fun _ => false) wt (fun s hs => by rw [mapD_has, hask_iff.2 ⟨s, hs, rfl⟩]; rfl), minL_none]
    case round =>
      obtain ⟨left, cnt, hrg, rfl, hgw⟩ := hrel
      go_wp2_with (first
        | (at_next; refine wpList_next_ranges_ii _ rfl _ rfl 27 27 .u64 .u64 law27 Try.underlying27 Try.underlying27 b w1.heap.size l.length _ _ _ rfl hrg ?_ ?_)
        | go_in)
      · intro _ hl0
        rw [minL_congr (p' := fun _ => true) wt (fun s _ => by rw [hl0]; rfl)]
        obtain ⟨hd1, hd2⟩ := minL_le wt l
        have hd0 := minL_ge (p := fun _ => true) h1 (fun s hs => (HO.out.2 s hs).2.2.1)
        have hEA : ∀ r, addL K T l key wt = r ↔ (if wt - minL (fun _ => true) wt l > 0 then (K, T + wt, putk (lessk l (minL (fun _ => true) wt l)) key (wt - minL (fun _ => true) wt l), 0) else (K, T + wt, lessk l (minL (fun _ => true) wt l), 0)) = r := fun r => by unfold addL; rw [if_pos hcond]
        replace hEA := Aside0.mk hEA
        generalize minL (fun _ => true) wt l = d at *
        have hwv5 := wf_u64 (show 0 ≤ wt - d by omega) (by omega)
        have HLR := Aside0.mk (lessk_rise HO.out.1 d)
        have HLW := Aside0.mk (lessk_wf HO.out.2 (show 0 ≤ d by omega) hd2)
        have HLN := Aside0.mk (lessk_length l d)
        have HLZ := Aside0.mk (getk_lessk HO.out hcond.1 d)
        have HL := Aside0.mk (less_calls b l.length l d wr hrg.owns HO.out.1 (by omega) hd2)
        have HG := Aside0.mk hgw
        clear hd2 hgw hrg hl0
        go_wp2_with (first
          | (go_at_call 53; refine HL.out.mono ?_; rintro e w4 ⟨rfl, hown4, hgr4⟩
             have hG4 := (HG.out.but (some b)).andThen hgr4 (fun j hj => by cases hj; exact Or.inr rfl)
             have g04 := (hG4.block w.heap.size (by have := hown.lt; omega) (fun e => by cases e; omega)).trans g0.out
             have g14 := (hG4.block (w.heap.size + 1) (by have := hown.lt; omega) (fun e => by cases e; omega)).trans g1.out
             have hB4 := hBw.out.grown hG4 hBw.out.size (fun j hj => by cases hj; omega)
             have c1 : w4.cell? ⟨w.heap.size, 1, none⟩ = some (.int .u64 T) := by simp [World.cell?, g04]
             have f1 : w4.frozen? ⟨w.heap.size, 1, none⟩ = false := by simp [World.frozen?, g04]
             have hown5 : (w4.setCell ⟨w.heap.size, 1, none⟩ (.int .u64 (T + d))).ownsMap Try.prog 27 (plainElem Try.prog 27) b l.length (mapD (lessk l d)) := by
               obtain ⟨es, clock, hbb, Ft, hss, hD⟩ := hown4
               exact ⟨es, clock, (Below.heap_setCell w4 ⟨w.heap.size, 1, none⟩ _ b (by show b ≠ w.heap.size; omega)).trans hbb, Ft, hss, hD⟩
             have g05 := blk_put (cs := #[.int .i64 K, .int .u64 T, .slice A l.length c]) g04 1 (.int .u64 (T + d)) rfl
             have g15 := (Below.heap_setCell w4 ⟨w.heap.size, 1, none⟩ (.int .u64 (T + d)) (w.heap.size + 1) (by show w.heap.size + 1 ≠ w.heap.size; omega)).trans g14
             have hB5 := hB4.setCell (p := ⟨w.heap.size, 1, none⟩) (Nat.le_refl _) (.int .u64 (T + d))
             replace g05 := Aside0.mk g05
             replace g15 := Aside0.mk g15
             replace hB5 := Aside0.mk hB5
             replace hB4 := Aside0.mk hB4
             clear g04 g14 hG4 hown4 hgr4)
          | (at_lookup; refine wpList_lookup_own_int _ rfl _ _ 75 rfl 27 27 .u64 law27 Try.underlying75 Try.underlying27 (zeroE27 _) b l.length _ rfl hown5 _ _ rfl (keyOf_int_mk Try.underlying27 hwk) ?_; intro c9 hat9 _; obtain rfl : c9 = 0 := by (rw [mapD_at, HLZ.out] at hat9; simpa using hat9.symm))
          | (at_mapUpdate; refine wpList_mapUpdate_own _ rfl _ _ _ 75 rfl 27 27 law27 Try.underlying75 _ b l.length _ rfl hown5 (by unfold maxLen; omega) _ _ _ rfl rfl (keyOf_int_mk Try.underlying27 hwk) _ [] (plainElem_int Try.underlying27 hwv5) ?_; intro w6 hown6 hgr6
             have h5 := hB5.out.size
             have hlt5 := (Array.getElem?_eq_some_iff.1 g15.out).1
             have g06 := (hgr6.block w.heap.size (by omega) (fun e => by cases e; omega)).trans g05.out
             have g16 := (hgr6.block (w.heap.size + 1) hlt5 (fun e => by cases e; omega)).trans g15.out
             have hB6 := Aside0.mk (hB5.out.grown hgr6 hB5.out.size (fun j hj => by cases hj; omega))
             have c06 : w6.cell? ⟨w.heap.size, 0, none⟩ = some (.int .i64 K) := by simp [World.cell?, g06]
             have c16 : w6.cell? ⟨w.heap.size, 1, none⟩ = some (.int .u64 (T + d)) := by simp [World.cell?, g06]
             rw [mapD_put _ _ _ HLR.out] at hown6)
          | go_in)
        · have ew : IntKind.u64.wrap (T + d + (wt - d)) = T + d + (wt - d) := by rw [IntKind.wrap_u64]; omega
          have ea : addL K T l key wt = (K, T + d + (wt - d), putk (lessk l d) key (wt - d), 0) := (hEA.out _).2 (by rw [if_pos (by omega), show T + d + (wt - d) = T + wt by omega])
          have HI := Aside0.mk (items_tail w.heap.size b _ _ (putk_rise HLR.out _ _) (putk_wf HLW.out hwk hwv5) (Nat.le_trans (putk_length _ _ _) (by have := HLN.out; omega)) _ _ _ _ w w6 hown6 g06 g16 hB6.out)
          go_region_held3 (fun w' => w'.cell? ⟨w.heap.size, 0, none⟩ = some (.int .i64 K) ∧ w'.cell? ⟨w.heap.size, 1, none⟩ = some (.int .u64 (T + d))) (go_keep)
            ((go_at_call 54; refine (HI.out _ (by repeat (first | exact Below.refl _ _ | apply below_drew1))).mono ?_; rintro e w3 ⟨A2, c2, rfl, hv, c0, c1, k1, hb3⟩; have q0 : w3.cell? ⟨w.heap.size + 1, 0, none⟩ = some (.int .i64 0) := (by simp [World.cell?, k1]); have q1 : w3.cell? ⟨w.heap.size + 1, 1, none⟩ = some (.int .u64 0) := (by simp [World.cell?, k1]); have q2 : w3.cell? ⟨w.heap.size + 1, 2, none⟩ = some (.slice none 0 0) := (by simp [World.cell?, k1]); have j0 : w3.frozen? ⟨w.heap.size + 1, 0, none⟩ = false := (by simp [World.frozen?, k1]); have j1 : w3.frozen? ⟨w.heap.size + 1, 1, none⟩ = false := (by simp [World.frozen?, k1]); have j2 : w3.frozen? ⟨w.heap.size + 1, 2, none⟩ = false := (by simp [World.frozen?, k1])))
          go_wp2
          refine bodyPost_ret (results_ct rfl _ _ (w.heap.size + 1) 33 #[.int .i64 K, .int .u64 (T + d + (wt - d)), .slice A2 _ c2] (0, 0) _ rfl (blk_put (cs := #[.int .i64 K, .int .u64 (T + d + (wt - d)), .slice none 0 0]) (blk_put (cs := #[.int .i64 K, .int .u64 0, .slice none 0 0]) (blk_put (cs := #[.int .i64 0, .int .u64 0, .slice none 0 0]) k1 0 _ rfl) 1 _ rfl) 2 _ rfl) Try.underlying33 rfl (by kernel_rfl)) rfl ?_
          obtain ⟨t1, t2⟩ := tail_end hv k1 hb3 (.int .i64 K) (.int .u64 (T + d + (wt - d))) (.slice A2 _ c2)
          rw [ea]
          exact ⟨_, rfl, t1, t2⟩
        · have ew : IntKind.u64.wrap (T + d + (wt - d)) = T + d + (wt - d) := by rw [IntKind.wrap_u64]; omega
          have ea : addL K T l key wt = (K, T + d + (wt - d), lessk l d, 0) := (hEA.out _).2 (by rw [if_neg (by omega), show T + d + (wt - d) = T + wt by omega])
          generalize w4.setCell ⟨w.heap.size, 1, none⟩ (.int .u64 (T + d)) = w5 at *
          have c06 : w5.cell? ⟨w.heap.size, 0, none⟩ = some (.int .i64 K) := by simp [World.cell?, g05.out]
          have c16 : w5.cell? ⟨w.heap.size, 1, none⟩ = some (.int .u64 (T + d)) := by simp [World.cell?, g05.out]
          have HI := Aside0.mk (items_tail w.heap.size b _ _ HLR.out HLW.out (by have := HLN.out; omega) _ _ _ _ w w5 hown5 g05.out g15.out hB5.out)
          go_region_held3 (fun w' => w'.cell? ⟨w.heap.size, 0, none⟩ = some (.int .i64 K) ∧ w'.cell? ⟨w.heap.size, 1, none⟩ = some (.int .u64 (T + d))) (go_keep)
            ((go_at_call 54; refine (HI.out _ (by repeat (first | exact Below.refl _ _ | apply below_drew1))).mono ?_; rintro e w3 ⟨A2, c2, rfl, hv, c0, c1, k1, hb3⟩; have q0 : w3.cell? ⟨w.heap.size + 1, 0, none⟩ = some (.int .i64 0) := (by simp [World.cell?, k1]); have q1 : w3.cell? ⟨w.heap.size + 1, 1, none⟩ = some (.int .u64 0) := (by simp [World.cell?, k1]); have q2 : w3.cell? ⟨w.heap.size + 1, 2, none⟩ = some (.slice none 0 0) := (by simp [World.cell?, k1]); have j0 : w3.frozen? ⟨w.heap.size + 1, 0, none⟩ = false := (by simp [World.frozen?, k1]); have j1 : w3.frozen? ⟨w.heap.size + 1, 1, none⟩ = false := (by simp [World.frozen?, k1]); have j2 : w3.frozen? ⟨w.heap.size + 1, 2, none⟩ = false := (by simp [World.frozen?, k1])))
          go_wp2
          refine bodyPost_ret (results_ct rfl _ _ (w.heap.size + 1) 33 #[.int .i64 K, .int .u64 (T + d + (wt - d)), .slice A2 _ c2] (0, 0) _ rfl (blk_put (cs := #[.int .i64 K, .int .u64 (T + d + (wt - d)), .slice none 0 0]) (blk_put (cs := #[.int .i64 K, .int .u64 0, .slice none 0 0]) (blk_put (cs := #[.int .i64 0, .int .u64 0, .slice none 0 0]) k1 0 _ rfl) 1 _ rfl) 2 _ rfl) Try.underlying33 rfl (by kernel_rfl)) rfl ?_
          obtain ⟨t1, t2⟩ := tail_end hv k1 hb3 (.int .i64 K) (.int .u64 (T + d + (wt - d))) (.slice A2 _ c2)
          rw [ea]
          exact ⟨_, rfl, t1, t2⟩
      · intro x cc w2 cnt2 hwx hwc hlx hat hrg2 hlt hg2 hs2 hen
        have hm := mapD_find hat
        have hmin := minL_more (p := fun s => !left (.int .u64 s.f0)) (p' := fun s => !(left (.int .u64 s.f0) && !(Lit.int .u64 s.f0).sameKey (.int .u64 x))) wt HO.out.1 hm (by simp [hlx]) (by simp [same_u64]) (fun s _ hne => by simp [same_u64, hne])
        generalize minL (fun s => !left (.int .u64 s.f0)) wt l = dd at *
        go_wp2
        · exact ⟨⟨_, ⟨cnt2, hrg2⟩, by rw [hmin]; omega, hgw.andThen hg2 (fun j hj => by cases hj; exact Or.inl (Nat.le_refl _))⟩, by rw [hrg2.left_eq, hrg.left_eq]; exact hlt⟩
        · exact ⟨⟨_, ⟨cnt2, hrg2⟩, by rw [hmin]; omega, hgw.andThen hg2 (fun j hj => by cases hj; exact Or.inl (Nat.le_refl _))⟩, by rw [hrg2.left_eq, hrg.left_eq]; exact hlt⟩
  · have ew : IntKind.u64.wrap (T + wt) = T + wt := by rw [IntKind.wrap_u64]; omega
    have ez : getk l key = 0 := by assumption
    have ea : addL K T l key wt = (K, T + wt, putk l key wt, 0) := by unfold addL; rw [if_neg (fun hh => by omega), ez, Int.zero_add]
    have HI := Aside0.mk (items_tail w.heap.size b _ _ (putk_rise HO.out.1 _ _) (putk_wf HO.out.wf hwk hwv0) (Nat.le_trans (putk_length _ _ _) (by omega)) _ _ _ _ w w2 hown2 g0' g1' hBw2.out)
    go_region_held3 (fun w' => w'.cell? ⟨w.heap.size, 0, none⟩ = some (.int .i64 K) ∧ w'.cell? ⟨w.heap.size, 1, none⟩ = some (.int .u64 T)) (go_keep)
      ((go_at_call 54; refine (HI.out _ (by repeat (first | exact Below.refl _ _ | apply below_drew1))).mono ?_; rintro e w3 ⟨A2, c2, rfl, hv, c0, c1, k1, hb3⟩; have q0 : w3.cell? ⟨w.heap.size + 1, 0, none⟩ = some (.int .i64 0) := (by simp [World.cell?, k1]); have q1 : w3.cell? ⟨w.heap.size + 1, 1, none⟩ = some (.int .u64 0) := (by simp [World.cell?, k1]); have q2 : w3.cell? ⟨w.heap.size + 1, 2, none⟩ = some (.slice none 0 0) := (by simp [World.cell?, k1]); have j0 : w3.frozen? ⟨w.heap.size + 1, 0, none⟩ = false := (by simp [World.frozen?, k1]); have j1 : w3.frozen? ⟨w.heap.size + 1, 1, none⟩ = false := (by simp [World.frozen?, k1]); have j2 : w3.frozen? ⟨w.heap.size + 1, 2, none⟩ = false := (by simp [World.frozen?, k1])))
    go_wp2
    refine bodyPost_ret (results_ct rfl _ _ (w.heap.size + 1) 33 #[.int .i64 K, .int .u64 (T + wt), .slice A2 _ c2] (0, 0) _ rfl (blk_put (cs := #[.int .i64 K, .int .u64 (T + wt), .slice none 0 0]) (blk_put (cs := #[.int .i64 K, .int .u64 0, .slice none 0 0]) (blk_put (cs := #[.int .i64 0, .int .u64 0, .slice none 0 0]) k1 0 _ rfl) 1 _ rfl) 2 _ rfl) Try.underlying33 rfl (by kernel_rfl)) rfl ?_
    obtain ⟨t1, t2⟩ := tail_end hv k1 hb3 (.int .i64 K) (.int .u64 (T + wt)) (.slice A2 _ c2)
    rw [ea]
    exact ⟨_, rfl, t1, t2⟩
  · have ew : IntKind.u64.wrap (T + wt) = T + wt := by rw [IntKind.wrap_u64]; omega
    have ea : addL K T l key wt = (K, T + wt, putk l key (getk l key + wt), 0) := by unfold addL; rw [if_neg (fun hh => (by assumption : ¬ getk l key = 0) hh.1)]
    have HI := Aside0.mk (items_tail w.heap.size b _ _ (putk_rise HO.out.1 _ _) (putk_wf HO.out.wf hwk hwv) (Nat.le_trans (putk_length _ _ _) (by omega)) _ _ _ _ w w2 hown2 g0' g1' hBw2.out)
    go_region_held3 (fun w' => w'.cell? ⟨w.heap.size, 0, none⟩ = some (.int .i64 K) ∧ w'.cell? ⟨w.heap.size, 1, none⟩ = some (.int .u64 T)) (go_keep)
      ((go_at_call 54; refine (HI.out _ (by repeat (first | exact Below.refl _ _ | apply below_drew1))).mono ?_; rintro e w3 ⟨A2, c2, rfl, hv, c0, c1, k1, hb3⟩; have q0 : w3.cell? ⟨w.heap.size + 1, 0, none⟩ = some (.int .i64 0) := (by simp [World.cell?, k1]); have q1 : w3.cell? ⟨w.heap.size + 1, 1, none⟩ = some (.int .u64 0) := (by simp [World.cell?, k1]); have q2 : w3.cell? ⟨w.heap.size + 1, 2, none⟩ = some (.slice none 0 0) := (by simp [World.cell?, k1]); have j0 : w3.frozen? ⟨w.heap.size + 1, 0, none⟩ = false := (by simp [World.frozen?, k1]); have j1 : w3.frozen? ⟨w.heap.size + 1, 1, none⟩ = false := (by simp [World.frozen?, k1]); have j2 : w3.frozen? ⟨w.heap.size + 1, 2, none⟩ = false := (by simp [World.frozen?, k1])))
    go_wp2
    refine bodyPost_ret (results_ct rfl _ _ (w.heap.size + 1) 33 #[.int .i64 K, .int .u64 (T + wt), .slice A2 _ c2] (0, 0) _ rfl (blk_put (cs := #[.int .i64 K, .int .u64 (T + wt), .slice none 0 0]) (blk_put (cs := #[.int .i64 K, .int .u64 0, .slice none 0 0]) (blk_put (cs := #[.int .i64 0, .int .u64 0, .slice none 0 0]) k1 0 _ rfl) 1 _ rfl) 2 _ rfl) Try.underlying33 rfl (by kernel_rfl)) rfl ?_
    obtain ⟨t1, t2⟩ := tail_end hv k1 hb3 (.int .i64 K) (.int .u64 (T + wt)) (.slice A2 _ c2)
    rw [ea]
    exact ⟨_, rfl, t1, t2⟩
theorem heavy_Add.calls (a0_0 a0_1 : Int) (A0_2 : Option Addr) (c0_2 : Nat) (l0_2 : List S51) (a1 a2 : Int) (r1 r2 : Int) (r3 : List S51) (r4 : Int) (w : World) (hr0_2 : Kd.C k51 w A0_2 l0_2.length l0_2) (_hc0_2 : l0_2.length ≤ c0_2) (h : heavy_Add.f a0_0 a0_1 l0_2 a1 a2 = some (r1, r2, r3, r4)) :
    Calls Try.prog 28 #[.agg #[.int .i64 a0_0, .int .u64 a0_1, .slice A0_2 l0_2.length c0_2], .int .u64 a1, .int .u64 a2] w fun e w' => ∃ v2_ : Value, e = .returned (.tuple #[.agg #[.int .i64 r1, .int .u64 r2, v2_], .int .i64 r4]) ∧ Kd.R k51 51 w' w.heap.size (fun _ => True) v2_ r3 ∧ Below w.heap.size w w' := by
  unfold heavy_Add.f at h
  split at h
  · rename_i hh
    obtain ⟨h1, h2, h3, h4, h5, h6, h7⟩ := hh
    have h' := Option.some.inj h
    have := add_ok a0_0 a0_1 a1 a2 A0_2 c0_2 l0_2 w hr0_2 h1 h2 h3 h4 h5 h6 h7
    rw [h'] at this
    exact this
  · simp at h
end Go.Proofs.Ytohginlodlijkaa.PH
