/- Plain: what may be lost of a merged summary, and that it may be. -/
import Derived.Test.YtohginlodlijkaaJpd
import Derived.Test.YtohginlodlijkaaPHm
namespace Go.Proofs.Ytohginlodlijkaa.PH
open Go.RowKit Go.Proofs.YtohginlodlijkaaW.PrintWords Go.Proofs.YtohginlodlijkaaW.PrintLast Go.Proofs.YtohginlodlijkaaW.PrintMore
theorem gs_left {K T : Int} {l all : List S51} (hK1 : 1 ≤ K) (hK8 : K ≤ 8) (h : GS K ⟨K, T, l⟩ all) : sumL l ≤ T ∧ heavy_Sum_left.l0 400 T l l.length 0 = some (T - sumL l, true) := by
  have hlen := h.len
  have htop := h.top
  have hs := h.pw.sum_le (by omega)
  simp only at hlen htop hs
  refine ⟨hs, ?_⟩
  have hL := left_l0 l [] 400 T (by omega) (by simpa using (by omega : l.length ≤ 200)) hs (by omega) (fun t ht => (h.pw.cnt t ht).2.2)
  simp only [List.nil_append, List.length_nil] at hL
  rw [show ((0 : Nat) : Int) = 0 from rfl] at hL
  exact hL
theorem gs_lost {K T : Int} {l all : List S51} (hK1 : 1 ≤ K) (hK8 : K ≤ 8) (h : GS K ⟨K, T, l⟩ all) : ∃ E : Int, 0 ≤ E ∧ E ≤ T ∧ heavy_Lost.f 400 K T l = some E ∧ ∀ key, getk l key ≤ realL all key ∧ realL all key ≤ getk l key + E := by
  obtain ⟨hs, hL⟩ := gs_left hK1 hK8 h
  obtain ⟨E, hE0, hE1, hE2⟩ := h.pw.E
  have htop := h.top
  have n1 := sum_nonneg (fun x hx => (h.pw.cnt x hx).2.2)
  simp only at hE1 htop n1
  have hd0 : 0 ≤ (T - sumL l) / (K + 1) := Int.ediv_nonneg (by omega) (by omega)
  have hd1 : (T - sumL l) / (K + 1) ≤ T - sumL l := Int.ediv_le_self _ (by omega)
  have hd2 : E ≤ (T - sumL l) / (K + 1) := (Int.le_ediv_iff_mul_le (by omega)).2 (by rw [Int.mul_comm]; omega)
  refine ⟨(T - sumL l) / (K + 1), hd0, by omega, ?_, fun key => ?_⟩
  · unfold heavy_Lost.f heavy_Sum_left.f
    rw [hL, Option.bind_some, if_pos rfl, if_neg (by omega), w64 (n := K + 1) (by omega) (by omega), u64w (x := K + 1) (by omega) (by omega), if_neg (by omega)]
    rw [Int.tdiv_eq_ediv_of_nonneg (by omega), u64w hd0 (by omega)]
  · have := hE2 key
    rw [realL_rise h.rise] at this
    simp only at this
    omega
namespace Bo
theorem wr1 (i : Nat) (h : i ≤ 500) : wrap64 ((i : Int) + 1) = ((i + 1 : Nat) : Int) := by rw [w64 (by omega) (by omega)]; omega
theorem wr0 (i : Nat) (h : i ≤ 500) : wrap64 (((i + 1 : Nat) : Int) - 1) = (i : Int) := by rw [w64 (by omega) (by omega)]; omega
theorem odd_l0 : ∀ (s p : List S51) (k : Nat), s.length < k → (p ++ s).length ≤ 200 → (∀ t ∈ s, t.f0 < 2305843009213693951 ∧ 1 ≤ t.f1) → api_Item_66.l0 k (p ++ s) (p ++ s).length p.length = some (-1)
  | [], p, k + 1, _, _, _ => by rw [api_Item_66.l0, if_neg (by simp)]
  | a :: s, p, k + 1, hk, hl, h => by
    simp at hl hk
    obtain ⟨h0, h1⟩ := h a (by simp)
    have e : heavy_May_1.f a.f0 a.f1 = some false := by
      have : (a.f1 == 0) = false := by simp; omega
      simp [heavy_May_1.f, hash_Key.f, h0, this]
    rw [api_Item_66.l0, if_pos (by simp; omega), if_pos (by omega), if_pos (by simp; omega), rdT_at, e, Option.bind_some, if_neg (by simp), w64s p a (by omega), show p ++ a :: s = (p ++ [a]) ++ s by simp]
    exact odd_l0 s (p ++ [a]) k (by omega) (by simp; omega) (fun t ht => h t (by simp [ht]))
theorem may_round {s : List S51} (hr : Rise s) (K T : Int) (i k : Nat) (hi : i + 1 < s.length) (hl : s.length ≤ 100) : heavy_May.l0 (k + 1) true ((i + 1 : Nat) : Int) K T s = heavy_May.l0 k true ((i + 1 + 1 : Nat) : Int) K T s := by
  have c1 : ((i + 1 : Nat) : Int) < (s.length : Int) := by omega
  have c2 : (0 : Int) ≤ (i : Int) := by omega
  have c3 : (i : Int) < (s.length : Int) := by omega
  have c4 : (0 : Int) ≤ ((i + 1 : Nat) : Int) := by omega
  have hlt := List.pairwise_iff_getElem.1 hr i (i + 1) (by omega) hi (by omega)
  rw [heavy_May.l0, if_pos c1, if_pos rfl, wr0 i (by omega), if_pos c2, if_pos c3, if_pos c4, rdT_get (show i < s.length by omega), rdT_get hi, show heavy_May_2.f s[i].f0 s[i].f1 s[i + 1].f0 s[i + 1].f1 = some true by simp [heavy_May_2.f, hlt], Option.bind_some, wr1 (i + 1) (by omega)]
theorem may_l0 {K T : Int} {s : List S51} (hr : Rise s) (hl : s.length ≤ 100) (hlK : (s.length : Int) ≤ K) (hT : T ≤ 4503599627370496) (h : ∀ t ∈ s, t.f0 < 2305843009213693951 ∧ 1 ≤ t.f1) : ∀ (m i k : Nat), s.length ≤ i + 1 + m → m + 150 ≤ k → heavy_May.l0 k true ((i + 1 : Nat) : Int) K T s = some 0
  | 0, i, k, hi, hk => by
    obtain ⟨k, rfl⟩ : ∃ j, k = j + 1 := ⟨k - 1, by omega⟩
    have c1 : ¬ ((i + 1 : Nat) : Int) < (s.length : Int) := by omega
    have c2 : ¬ (s.length : Int) > K := by omega
    have c3 : ¬ T > 4503599627370496 := by omega
    have ho := odd_l0 s [] k (by omega) (by simpa using (by omega : s.length ≤ 200)) h
    have ho' : api_Item_62.f k s = some false := by
      unfold api_Item_62.f api_Item_66.f
      simp only [List.nil_append, List.length_nil] at ho
      rw [show ((0 : Nat) : Int) = 0 from rfl] at ho
      rw [ho]
      rfl
    rw [heavy_May.l0, if_neg c1, if_pos rfl, if_neg c2, if_neg c3, ho', Option.bind_some, if_neg (by simp)]
  | m + 1, i, k, hi, hk => by
    obtain ⟨k, rfl⟩ : ∃ j, k = j + 1 := ⟨k - 1, by omega⟩
    by_cases hlt : i + 1 < s.length
    · rw [may_round hr K T i k hlt hl]
      exact may_l0 hr hl hlK hT h m (i + 1) k (by omega) (by omega)
    · have := may_l0 hr hl hlK hT h m i (k + 1) (by omega) (by omega)
      exact this
end Bo
theorem gs_may {K T : Int} {l all : List S51} (hK1 : 1 ≤ K) (hK8 : K ≤ 8) (h : GS K ⟨K, T, l⟩ all) : heavy_May.f 400 K T l = some 0 := by
  obtain ⟨hs, hL⟩ := gs_left hK1 hK8 h
  have hlen := h.len
  have htop := h.top
  simp only at hlen htop
  have hm := Bo.may_l0 (K := K) (T := T) h.rise (by simp only; omega) hlen htop (fun t ht => ⟨(h.pw.cnt t ht).2.1, (h.pw.cnt t ht).2.2⟩) l.length 0 400 (by simp only; omega) (by omega)
  have hn : heavy_New.f K = some (K, 0, [], 0) := by unfold heavy_New.f; rw [if_neg (by omega), if_neg (by omega)]
  unfold heavy_May.f heavy_Sum_left.f
  rw [hn, Option.bind_some, if_pos rfl, hL, Option.bind_some]
  exact hm
theorem Mades.four {a0 K : Int} {l0 l1 l2 l3 : List S51} {sms : List Sm} {als : List (List S51)} (h : Mades a0 K [l0, l1, l2, l3] sms als) :
    ∃ T0 q0 b0 T1 q1 b1 T2 q2 b2 T3 q3 b3, sms = [⟨K, T0, q0⟩, ⟨K, T1, q1⟩, ⟨K, T2, q2⟩, ⟨K, T3, q3⟩] ∧ als = [b0, b1, b2, b3] := by
  obtain ⟨e1, e2, h3⟩ := h
  match sms, e1 with
  | [⟨K0, T0, q0⟩, ⟨K1, T1, q1⟩, ⟨K2, T2, q2⟩, ⟨K3, T3, q3⟩], _ =>
    match als, e2 with
    | [b0, b1, b2, b3], _ =>
      obtain ⟨k0, _⟩ := h3 0 (by simp)
      obtain ⟨k1, _⟩ := h3 1 (by simp)
      obtain ⟨k2, _⟩ := h3 2 (by simp)
      obtain ⟨k3, _⟩ := h3 3 (by simp)
      simp only [List.getD_cons_zero, List.getD_cons_succ] at k0 k1 k2 k3
      subst k0 k1 k2 k3
      exact ⟨T0, q0, b0, T1, q1, b1, T2, q2, b2, T3, q3, b3, rfl, rfl⟩
theorem acc4_facts {K : Int} {s : Sm} {b0 b1 b2 b3 acc : List S51} (hacc : acc = b0 ++ (b1 ++ (b2 ++ b3))) (h : GS K s ((b0 ++ (b1 ++ b2)) ++ b3)) : GS K s acc := by
  subst hacc
  rw [List.append_assoc, List.append_assoc] at h
  exact h
/-- A block of a zero summary, laid ahead of a call of made, is there behind it. -/
theorem made18z (K T : Int) (A : Option Addr) (n c : Nat) (w : World) : Calls Try.prog 15 #[.agg #[.int .i64 K, .int .u64 T, .slice A n c]] (w.alloc (.cells #[.int .i64 0, .int .u64 0, .slice none 0 0] 33)) fun e w' => e = .returned (.agg #[.int .i64 K, .int .u64 T, .slice A n c]) ∧ Below (w.alloc (.cells #[.int .i64 0, .int .u64 0, .slice none 0 0] 33)).heap.size (w.alloc (.cells #[.int .i64 0, .int .u64 0, .slice none 0 0] 33)) w' ∧ w'.heap[w.heap.size]? = some (.cells #[.int .i64 0, .int .u64 0, .slice none 0 0] 33 (0, 0)) :=
  (made18 K T A n c _).mono fun e w' h => ⟨h.1, h.2, (h.2.block _ (by simp)).trans (World.alloc_heap_new w _)⟩
theorem made18zd (K T : Int) (A : Option Addr) (n c : Nat) (w : World) : Calls Try.prog 15 #[.agg #[.int .i64 K, .int .u64 T, .slice A n c]] (w.alloc (.cells #[.int .i64 0, .int .u64 0, .slice none 0 0] 33)).drew fun e w' => e = .returned (.agg #[.int .i64 K, .int .u64 T, .slice A n c]) ∧ Below (w.alloc (.cells #[.int .i64 0, .int .u64 0, .slice none 0 0] 33)).drew.heap.size (w.alloc (.cells #[.int .i64 0, .int .u64 0, .slice none 0 0] 33)).drew w' ∧ w'.heap[w.heap.size]? = some (.cells #[.int .i64 0, .int .u64 0, .slice none 0 0] 33 (0, 0)) :=
  (made18 K T A n c _).mono fun e w' h => ⟨h.1, h.2, (h.2.block _ (by show w.heap.size < (w.alloc (.cells #[.int .i64 0, .int .u64 0, .slice none 0 0] 33)).heap.size; simp)).trans (World.alloc_heap_new w _)⟩
theorem below_call {w0 X w9 : World} (h : Below w0.heap.size w0 X) (hb : Below X.heap.size X w9) : Below w0.heap.size w0 w9 := h.trans (hb.mono h.size)
end Go.Proofs.Ytohginlodlijkaa.PH
