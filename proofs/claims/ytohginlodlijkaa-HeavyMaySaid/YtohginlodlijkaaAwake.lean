/- The contract of layer 17's awake: it tells true. -/
import Derived.Test.YtohginlodlijkaaAwv
namespace Go.Proofs.Ytohginlodlijkaa.PH
open Go.RowKit Go.Proofs.YtohginlodlijkaaW.PrintWords Go.Proofs.YtohginlodlijkaaW.PrintLast Go.Proofs.YtohginlodlijkaaW.PrintMore
def skylightlaw17_awake.f : Option Bool := some true
theorem aw_keep {W0 W W' : World} {B C : Nat} {v0 v1 v2 u0 u1 u2 : Value} (k : W0.heap[B]? = some (.cells #[v0, v1, v2] 33 (0, 0))) (j : W0.heap[C]? = some (.cells #[u0, u1, u2] 33 (0, 0))) (h : Below W0.heap.size W0 W) (h' : Below W.heap.size W W') :
    Below W0.heap.size W0 W' ∧ (W'.cell? ⟨B, 0, none⟩ = some v0 ∧ W'.cell? ⟨B, 1, none⟩ = some v1 ∧ W'.cell? ⟨B, 2, none⟩ = some v2) ∧ (W'.cell? ⟨C, 0, none⟩ = some u0 ∧ W'.cell? ⟨C, 1, none⟩ = some u1 ∧ W'.cell? ⟨C, 2, none⟩ = some u2) := by
  have hz := h.trans (h'.mono h.size)
  have hB : B < W0.heap.size := (Array.getElem?_eq_some_iff.1 k).1
  have hC : C < W0.heap.size := (Array.getElem?_eq_some_iff.1 j).1
  have k' := (hz.block B hB).trans k
  have j' := (hz.block C hC).trans j
  exact ⟨hz, ⟨by simp [World.cell?, k'], by simp [World.cell?, k'], by simp [World.cell?, k']⟩, ⟨by simp [World.cell?, j'], by simp [World.cell?, j'], by simp [World.cell?, j']⟩⟩
set_option maxHeartbeats 8000000 in
set_option maxRecDepth 100000 in
theorem awake_true (w : World) : Calls Try.prog 25 #[] w fun e w' => e = .returned (.bool true) ∧ Below w.heap.size w w' := by
  go_enter Try.func25, Try.ntmps25
  go_wp2_with (first
    | (go_at_call 26; refine (heavy_New.calls 2 2 0 [] 0 _ aw_new).mono ?_; rintro e w1 ⟨v, rfl, hR, hb⟩; obtain ⟨A1, c1, rfl⟩ := Kd.R_slice hR; rw [List.length_nil]
       have hC1 := Kd.C_below (Kd.R_reads' hR).2.2 ((Below.refl _ w1).alloc (Nat.le_refl _) (.cells #[.int .i64 2, .int .u64 0, .slice A1 0 c1] 33))
       have hb1 := Aside0.mk (hb.alloc hb.size (.cells #[.int .i64 2, .int .u64 0, .slice A1 0 c1] 33))
       replace hC1 := Aside0.mk hC1
       clear hR hb)
    | (go_at_call_of 28 (Value.int IntKind.u64 8); refine (heavy_Add.calls 2 8 A3 c3 [⟨1, 5⟩, ⟨2, 3⟩] 3 2 _ _ _ _ _ hC3.out hc3.out aw_c).mono ?_; rintro e w4 ⟨v, rfl, hR, hb⟩; obtain ⟨A4, c4, rfl⟩ := Kd.R_slice hR; rw [show ([⟨1, 3⟩, ⟨2, 1⟩] : List S51).length = 2 from rfl]
       have kb0 := (hb.block w3.heap.size (by simp)).trans (World.alloc_heap_new w3 (.cells #[.int .i64 2, .int .u64 8, .slice A3 2 c3] 33))
       have hB4 := (Below.refl _ w4).alloc (Nat.le_refl _) (.cells #[.int .i64 2, .int .u64 10, .slice A4 2 c4] 33)
       have hC4 := Aside0.mk (Kd.C_below (Kd.R_reads' hR).2.2 hB4)
       have hc4 := Aside0.mk (Kd.R_reads' hR).2.1
       have hCb := Aside0.mk (Kd.C_below (Kd.C_below hC3.out hb) hB4)
       have kb := Aside0.mk ((hB4.block w3.heap.size (Array.getElem?_eq_some_iff.1 kb0).1).trans kb0)
       have kc := Aside0.mk (World.alloc_heap_new w4 (.cells #[.int .i64 2, .int .u64 10, .slice A4 2 c4] 33))
       have hW := Aside0.mk ((hb3.out.trans (hb.mono hb3.out.size)).trans (hB4.mono (by have h1 := hb3.out.size; have h2 := hb.size; omega)))
       have e0 : (w4.alloc (.cells #[.int .i64 2, .int .u64 10, .slice A4 2 c4] 33)).cell? ⟨w3.heap.size, 0, none⟩ = some (.int .i64 2) := by simp [World.cell?, kb.out]
       clear hR hb hC3 hb3 kb0 e0)
    | (go_at_call_of 28 (Value.int IntKind.u64 3); refine (heavy_Add.calls 2 5 A2 c2 [⟨1, 5⟩] 2 3 _ _ _ _ _ hC2.out hc2.out aw_b).mono ?_; rintro e w3 ⟨v, rfl, hR, hb⟩; obtain ⟨A3, c3, rfl⟩ := Kd.R_slice hR; rw [show ([⟨1, 5⟩, ⟨2, 3⟩] : List S51).length = 2 from rfl]
       have hC3 := Aside0.mk (Kd.C_below (Kd.R_reads' hR).2.2 ((Below.refl _ w3).alloc (Nat.le_refl _) (.cells #[.int .i64 2, .int .u64 8, .slice A3 2 c3] 33)))
       have hc3 := Aside0.mk (Kd.R_reads' hR).2.1
       have hb3 := Aside0.mk ((hb2.out.trans (hb.mono hb2.out.size)).alloc (by have h1 := hb2.out.size; have h2 := hb.size; omega) (.cells #[.int .i64 2, .int .u64 8, .slice A3 2 c3] 33))
       clear hR hb hb2 hC2)
    | (go_at_call_of 28 (Value.int IntKind.u64 5); refine (heavy_Add.calls 2 0 A1 c1 [] 1 5 _ _ _ _ _ hC1.out (Nat.zero_le _) aw_a).mono ?_; rintro e w2 ⟨v, rfl, hR, hb⟩; obtain ⟨A2, c2, rfl⟩ := Kd.R_slice hR; rw [show ([⟨1, 5⟩] : List S51).length = 1 from rfl]
       have hC2 := Aside0.mk (Kd.C_below (Kd.R_reads' hR).2.2 ((Below.refl _ w2).alloc (Nat.le_refl _) (.cells #[.int .i64 2, .int .u64 5, .slice A2 1 c2] 33)))
       have hc2 := Aside0.mk (Kd.R_reads' hR).2.1
       have hb2 := Aside0.mk ((hb1.out.trans (hb.mono hb1.out.size)).alloc (by have h1 := hb1.out.size; have h2 := hb.size; omega) (.cells #[.int .i64 2, .int .u64 5, .slice A2 1 c2] 33))
       clear hR hb hb1 hC1)
    | (go_at_call_of 24 (Value.int IntKind.u64 1); refine (heavy_Of.calls 20 2 10 A4 c4 [⟨1, 3⟩, ⟨2, 1⟩] 1 3 _ hC4.out hc4.out aw_of1).mono ?_; rintro e w5 ⟨rfl, hb⟩
       obtain ⟨hz, ⟨x0, x1, x2⟩, ⟨y0, y1, y2⟩⟩ := aw_keep kc.out kb.out (Below.refl _ _) hb
       have hz5 := Aside0.mk hz
       clear hz hb)
    | (go_at_call_of 24 (Value.int IntKind.u64 2); refine (heavy_Of.calls 20 2 10 A4 c4 [⟨1, 3⟩, ⟨2, 1⟩] 2 1 _ (Kd.C_below hC4.out hz5.out) hc4.out aw_of2).mono ?_; rintro e w6 ⟨rfl, hb⟩; clear x0 x1 x2 y0 y1 y2
       obtain ⟨hz, ⟨x0, x1, x2⟩, ⟨y0, y1, y2⟩⟩ := aw_keep kc.out kb.out hz5.out hb
       have hz6 := Aside0.mk hz
       clear hz hb)
    | (go_at_call_of 24 (Value.int IntKind.u64 3); refine (heavy_Of.calls 20 2 10 A4 c4 [⟨1, 3⟩, ⟨2, 1⟩] 3 0 _ (Kd.C_below hC4.out hz6.out) hc4.out aw_of3).mono ?_; rintro e w7 ⟨rfl, hb⟩; clear x0 x1 x2 y0 y1 y2
       obtain ⟨hz, ⟨x0, x1, x2⟩, ⟨y0, y1, y2⟩⟩ := aw_keep kc.out kb.out hz6.out hb
       have hz7 := Aside0.mk hz
       clear hz hb)
    | (go_at_call 31; refine (heavy_Lost.calls 20 2 10 A4 c4 [⟨1, 3⟩, ⟨2, 1⟩] 2 _ (Kd.C_below hC4.out hz7.out) hc4.out aw_lost).mono ?_; rintro e w8 ⟨rfl, hb⟩; clear x0 x1 x2 y0 y1 y2
       obtain ⟨hz, ⟨x0, x1, x2⟩, ⟨y0, y1, y2⟩⟩ := aw_keep kc.out kb.out hz7.out hb
       have hz8 := Aside0.mk hz
       clear hz hb)
    | (go_at_call 34; refine (heavy_May.calls 20 2 10 A4 c4 [⟨1, 3⟩, ⟨2, 1⟩] 0 _ (Kd.C_below hC4.out hz8.out) hc4.out aw_may).mono ?_; rintro e w9 ⟨rfl, hb⟩; clear x0 x1 x2 y0 y1 y2
       obtain ⟨hz, ⟨x0, x1, x2⟩, ⟨y0, y1, y2⟩⟩ := aw_keep kc.out kb.out hz8.out hb
       have hz9 := Aside0.mk hz
       clear hz hb)
    | (go_at_call_of 22 (Value.int IntKind.u64 8); refine (heavy_Same.calls 20 2 10 A4 c4 [⟨1, 3⟩, ⟨2, 1⟩] 2 8 A3 c3 [⟨1, 5⟩, ⟨2, 3⟩] false _ (Kd.C_below hC4.out hz10.out) hc4.out (Kd.C_below hCb.out hz10.out) hc3.out aw_not).mono ?_; rintro e w11 ⟨rfl, hb⟩; clear x0 x1 x2 y0 y1 y2
       obtain ⟨hz, ⟨x0, x1, x2⟩, ⟨y0, y1, y2⟩⟩ := aw_keep kc.out kb.out hz10.out hb
       have hz11 := Aside0.mk hz
       clear hz hb)
    | (go_at_call 22; refine (heavy_Same.calls 20 2 10 A4 c4 [⟨1, 3⟩, ⟨2, 1⟩] 2 10 A4 c4 [⟨1, 3⟩, ⟨2, 1⟩] true _ (Kd.C_below hC4.out hz9.out) hc4.out (Kd.C_below hC4.out hz9.out) hc4.out aw_same).mono ?_; rintro e w10 ⟨rfl, hb⟩; clear x0 x1 x2 y0 y1 y2
       obtain ⟨hz, ⟨x0, x1, x2⟩, ⟨y0, y1, y2⟩⟩ := aw_keep kc.out kb.out hz9.out hb
       have hz10 := Aside0.mk hz
       clear hz hb))
  go_ret
  exact ⟨rfl, hW.out.trans (hz11.out.mono (by have h1 := hW.out.size; omega))⟩
theorem skylightlaw17_awake.calls (r : Bool) (w : World) (h : skylightlaw17_awake.f = some r) : Calls Try.prog 25 #[] w fun e w' => e = .returned (.bool r) ∧ Below w.heap.size w w' := by
  cases h
  exact awake_true w
end Go.Proofs.Ytohginlodlijkaa.PH
