/- Plain: what is merged, by keys: the counts together; what a merged summary tells of what came. And more: see each part's head. -/
import Derived.Test.YtohginlodlijkaaJsx
import Derived.Test.YtohginlodlijkaaJdx
import Derived.Test.YtohginlodlijkaaMg
import Derived.Test.YtohginlodlijkaaJmx
import Derived.Test.YtohginlodlijkaaBra
/-! Plain: what is merged, by keys: the counts together; what a merged summary tells of what came. -/
namespace Go.Proofs.Ytohginlodlijkaa.PH
open Go.RowKit
theorem realL_append (a b : List S51) (k : Int) : realL (a ++ b) k = realL a k + realL b k := by
  induction a with
  | nil => simp [realL]
  | cons t a ih => simp only [List.cons_append, realL, ih]; omega
theorem sumL_append (a b : List S51) : sumL (a ++ b) = sumL a + sumL b := by
  induction a with
  | nil => simp [sumL]
  | cons t a ih => simp only [List.cons_append, sumL, ih]; omega
theorem getk_mergeL (k : Int) : ∀ (s acc : List S51), Rise acc → getk (mergeL acc s) k = getk acc k + realL s k
  | [], acc, _ => by simp [mergeL, realL]
  | x :: s, acc, h => by
    rw [mergeL, getk_mergeL k s _ (putk_rise h _ _), getk_putk acc h, realL]
    by_cases e : k = x.f0
    · subst e; simp; omega
    · rw [if_neg e, if_neg (fun q => e q.symm)]; omega
theorem hask_putk (l : List S51) (k v j : Int) : hask (putk l k v) j = (decide (k = j) || hask l j) := by
  unfold hask
  induction l with
  | nil => simp [putk]
  | cons t l ih =>
    simp only [putk]
    by_cases h1 : t.f0 < k
    · rw [if_pos h1]; simp only [List.any_cons, ih]; cases decide (t.f0 = j) <;> cases decide (k = j) <;> rfl
    · rw [if_neg h1]
      by_cases h2 : t.f0 = k
      · rw [if_pos h2]; simp only [List.any_cons, h2]; cases decide (k = j) <;> rfl
      · rw [if_neg h2]; simp only [List.any_cons]
theorem hask_mergeL (j : Int) : ∀ (s acc : List S51), hask (mergeL acc s) j = (hask acc j || hask s j)
  | [], acc => by simp [mergeL, hask]
  | x :: s, acc => by
    rw [mergeL, hask_mergeL j s, hask_putk]
    simp only [hask, List.any_cons]
    cases decide (x.f0 = j) <;> simp
theorem realL_rise {l : List S51} (h : Rise l) (k : Int) : realL l k = getk l k := by
  induction l with
  | nil => rfl
  | cons t l ih =>
    obtain ⟨ha, hl⟩ := List.pairwise_cons.1 h
    simp only [realL, getk, ih hl]
    by_cases e : t.f0 = k
    · rw [if_pos e, if_pos e, getk_none (fun s hs => by have := ha s hs; omega)]; omega
    · rw [if_neg e, if_neg e]; omega
theorem realL_none {l : List S51} {k : Int} (h : hask l k = false) : realL l k = 0 := by
  induction l with
  | nil => rfl
  | cons t l ih =>
    simp only [hask, List.any_cons, Bool.or_eq_false_iff, decide_eq_false_iff_not] at h
    simp only [realL, if_neg h.1, ih h.2]; rfl
theorem rise_ext : ∀ {a b : List S51}, Rise a → Rise b → (∀ k, hask a k = hask b k) → (∀ k, getk a k = getk b k) → a = b
  | [], [], _, _, _, _ => rfl
  | [], t :: b, _, _, h, _ => by have := h t.f0; simp [hask] at this
  | t :: a, [], _, _, h, _ => by have := h t.f0; simp [hask] at this
  | t :: a, u :: b, ha, hb, h, g => by
    obtain ⟨ha1, ha2⟩ := List.pairwise_cons.1 ha
    obtain ⟨hb1, hb2⟩ := List.pairwise_cons.1 hb
    have e0 : t.f0 = u.f0 := by
      have k1 : hask (u :: b) t.f0 = true := by rw [← h]; simp [hask]
      have k2 : hask (t :: a) u.f0 = true := by rw [h]; simp [hask]
      obtain ⟨s, hs, e⟩ := hask_iff.1 k1
      obtain ⟨s', hs', e'⟩ := hask_iff.1 k2
      rcases List.mem_cons.1 hs with rfl | hs
      · exact e.symm
      · rcases List.mem_cons.1 hs' with rfl | hs'
        · exact e'
        · have := hb1 s hs; have := ha1 s' hs'; omega
    have e1 : t.f1 = u.f1 := by
      have := g t.f0
      simp only [getk] at this
      rwa [if_pos True.intro, if_pos e0.symm] at this
    have na : ∀ k, k ≤ t.f0 → hask a k = false := fun k hk => by
      cases q : hask a k with
      | false => rfl
      | true => obtain ⟨s, hs, e⟩ := hask_iff.1 q; have := ha1 s hs; omega
    have nb : ∀ k, k ≤ u.f0 → hask b k = false := fun k hk => by
      cases q : hask b k with
      | false => rfl
      | true => obtain ⟨s, hs, e⟩ := hask_iff.1 q; have := hb1 s hs; omega
    have e2 : a = b := rise_ext ha2 hb2 (fun k => by
      by_cases hk : k = t.f0
      · rw [na k (by omega), nb k (by omega)]
      · have := h k
        simp only [hask, List.any_cons] at this ⊢
        rwa [decide_eq_false (fun q => hk q.symm), decide_eq_false (fun q => hk (by omega)), Bool.false_or, Bool.false_or] at this) (fun k => by
      by_cases hk : k = t.f0
      · rw [getk_none (fun s hs => by have := ha1 s hs; omega), getk_none (fun s hs => by have := hb1 s hs; omega)]
      · have := g k
        simp only [getk] at this
        rwa [if_neg (fun q => hk q.symm), if_neg (fun q => hk (by omega))] at this)
    obtain ⟨t0, t1⟩ := t
    obtain ⟨u0, u1⟩ := u
    simp only at e0 e1
    rw [e0, e1, e2]
theorem rise_nil : Rise [] := List.Pairwise.nil
theorem merge_ext {a b : List S51} (h : ∀ k, hask a k = hask b k) (g : ∀ k, realL a k = realL b k) : mergeL [] a = mergeL [] b :=
  rise_ext (merge_rise a [] rise_nil) (merge_rise b [] rise_nil) (fun k => by rw [hask_mergeL, hask_mergeL, h k]) (fun k => by rw [getk_mergeL k a [] rise_nil, getk_mergeL k b [] rise_nil, g k])
theorem merge_self {l : List S51} (h : Rise l) : mergeL [] l = l :=
  rise_ext (merge_rise l [] rise_nil) h (fun k => by rw [hask_mergeL]; simp [hask]) (fun k => by rw [getk_mergeL k l [] rise_nil, realL_rise h]; simp [getk])
theorem merge_append : ∀ (a b acc : List S51), mergeL acc (a ++ b) = mergeL (mergeL acc a) b
  | [], _, _ => rfl
  | _ :: a, b, _ => merge_append a b _
theorem putk_len2 (l : List S51) (k v : Int) : l.length ≤ (putk l k v).length ∧ (putk l k v).length ≤ l.length + 1 := by
  induction l with
  | nil => simp [putk]
  | cons t l ih =>
    simp only [putk]
    split
    · simp only [List.length_cons]; omega
    · split <;> simp only [List.length_cons] <;> omega
theorem merge_length : ∀ (s acc : List S51), acc.length ≤ (mergeL acc s).length ∧ (mergeL acc s).length ≤ acc.length + s.length
  | [], acc => by simp [mergeL]
  | x :: s, acc => by
    have h1 := putk_len2 acc x.f0 (getk acc x.f0 + x.f1)
    have h2 := merge_length s (putk acc x.f0 (getk acc x.f0 + x.f1))
    rw [mergeL, List.length_cons]
    omega
theorem sumL_merge : ∀ (s acc : List S51), Rise acc → sumL (mergeL acc s) = sumL acc + sumL s
  | [], acc, _ => by simp [mergeL, sumL]
  | x :: s, acc, h => by
    rw [mergeL, sumL_merge s _ (putk_rise h _ _), sumL_putk acc h, sumL]; omega
/-- What a list of counts tells of what came. -/
structure PW (K T : Int) (s all : List S51) : Prop where
  cnt : ∀ x ∈ s, 0 ≤ x.f0 ∧ x.f0 < 2305843009213693951 ∧ 1 ≤ x.f1
  tot : T = sumL all
  pos : ∀ x ∈ all, 0 ≤ x.f0 ∧ x.f0 < 2305843009213693951 ∧ 1 ≤ x.f1
  E : ∃ E : Int, 0 ≤ E ∧ sumL s + (K + 1) * E ≤ T ∧ ∀ key, realL s key ≤ realL all key ∧ realL all key ≤ realL s key + E
theorem PW.nil (K : Int) : PW K 0 [] [] := ⟨by simp, rfl, by simp, 0, by omega, by simp [sumL], fun key => by simp [realL]⟩
theorem PW.append {K T1 T2 : Int} {s1 s2 a1 a2 : List S51} (h1 : PW K T1 s1 a1) (h2 : PW K T2 s2 a2) : PW K (T1 + T2) (s1 ++ s2) (a1 ++ a2) := by
  obtain ⟨E1, e0, e1, e2⟩ := h1.E
  obtain ⟨E2, g0, g1, g2⟩ := h2.E
  refine ⟨fun x hx => ?_, by rw [sumL_append, ← h1.tot, ← h2.tot], fun x hx => ?_, E1 + E2, by omega, ?_, fun key => ?_⟩
  · rcases List.mem_append.1 hx with hx | hx
    · exact h1.cnt x hx
    · exact h2.cnt x hx
  · rcases List.mem_append.1 hx with hx | hx
    · exact h1.pos x hx
    · exact h2.pos x hx
  · rw [sumL_append, Int.mul_add]; omega
  · have := e2 key
    have := g2 key
    rw [realL_append, realL_append]; omega
theorem MG.pw {K T : Int} {l all : List S51} (h : MG K T l all) : PW K T l all := by
  obtain ⟨E, h0, h1, h2⟩ := h.E
  exact ⟨fun x hx => ⟨(h.ok.2 x hx).1, h.keys x hx, (h.ok.2 x hx).2.2.1⟩, h.tot, h.pos, E, h0, by omega, fun key => by rw [realL_rise h.ok.1]; exact h2 key⟩
theorem merge_cnt : ∀ (s acc : List S51), Rise acc → (∀ x ∈ acc, 0 ≤ x.f0 ∧ x.f0 < 2305843009213693951 ∧ 1 ≤ x.f1) → (∀ x ∈ s, 0 ≤ x.f0 ∧ x.f0 < 2305843009213693951 ∧ 1 ≤ x.f1) → ∀ x ∈ mergeL acc s, 0 ≤ x.f0 ∧ x.f0 < 2305843009213693951 ∧ 1 ≤ x.f1
  | [], acc, _, h, _ => h
  | y :: s, acc, hr, h, hs => by
    have hy := hs y (by simp)
    have hg : 0 ≤ getk acc y.f0 := by
      by_cases he : ∃ z ∈ acc, z.f0 = y.f0
      · obtain ⟨z, hz, e⟩ := he
        rw [← e, getk_mem hr hz]
        have := (h z hz).2.2; omega
      · rw [getk_none (fun z hz e => he ⟨z, hz, e⟩)]; omega
    exact merge_cnt s _ (putk_rise hr _ _) (fun z hz => by
      rcases putk_mem hz with rfl | hz
      · simp only []; omega
      · exact h z hz) (fun z hz => hs z (by simp [hz]))
theorem PW.merge {K T : Int} {s all : List S51} (h : PW K T s all) : PW K T (mergeL [] s) all := by
  obtain ⟨E, h0, h1, h2⟩ := h.E
  refine ⟨merge_cnt s [] rise_nil (by simp) h.cnt, h.tot, h.pos, E, h0, ?_, fun key => ?_⟩
  · rw [sumL_merge s [] rise_nil]; simp only [sumL]; omega
  · rw [realL_rise (merge_rise s [] rise_nil), getk_mergeL key s [] rise_nil]
    have := h2 key
    simp only [getk]; omega
theorem PW.sum_le {K T : Int} {s all : List S51} (h : PW K T s all) (hK : 0 ≤ K) : sumL s ≤ T := by
  obtain ⟨E, h0, h1, h2⟩ := h.E
  have : 0 ≤ (K + 1) * E := Int.mul_nonneg (by omega) h0
  omega
theorem sumL_mem {l : List S51} (h : ∀ x ∈ l, 1 ≤ x.f1) {x : S51} (hx : x ∈ l) : x.f1 ≤ sumL l := by
  have nn : ∀ q : List S51, (∀ x ∈ q, 1 ≤ x.f1) → 0 ≤ sumL q := fun q hq => by
    have := realL_nonneg hq 0
    have := realL_le hq 0
    omega
  induction l with
  | nil => simp at hx
  | cons t l ih =>
    have h1 := nn l (fun y hy => h y (by simp [hy]))
    have h2 := h t (by simp)
    simp only [sumL]
    rcases List.mem_cons.1 hx with rfl | hx
    · omega
    · have := ih (fun y hy => h y (by simp [hy])) hx; omega
theorem totL_sumL : ∀ l : List S51, totL l = sumL l
  | [] => rfl
  | x :: l => by rw [totL, sumL, totL_sumL l]
theorem PW.mok {K T : Int} {s all : List S51} (h : PW K T s all) (hK : 0 ≤ K) (hT : T < 9223372036854775808) : Mok s :=
  ⟨fun x hx => ⟨(h.cnt x hx).1, by have := (h.cnt x hx).2.1; omega⟩, fun x hx => by have := (h.cnt x hx).2.2; omega, by rw [totL_sumL]; have := h.sum_le hK; omega⟩
end Go.Proofs.Ytohginlodlijkaa.PH

/-! Summaries in an array, made one by one: what stands between two rounds. -/
namespace Go.Proofs.Ytohginlodlijkaa.PH
open Go.RowKit Go.Proofs.YtohginlodlijkaaW.PrintWords Go.Proofs.YtohginlodlijkaaW.PrintLast Go.Proofs.YtohginlodlijkaaW.PrintMore
set_option maxHeartbeats 1000000 in
set_option maxRecDepth 100000 in
theorem made18 (K T : Int) (A : Option Addr) (n c : Nat) (w : World) : Calls Try.prog 15 #[.agg #[.int .i64 K, .int .u64 T, .slice A n c]] w fun e w' => e = .returned (.agg #[.int .i64 K, .int .u64 T, .slice A n c]) ∧ Below w.heap.size w w' := by
  have hn := World.alloc_heap_new (w.alloc (.cells #[.int .i64 K, .int .u64 T, .slice A n c] 30)) (.cells #[.int .i64 K, .int .u64 T, .slice A n c] 33)
  rw [World.size_alloc] at hn
  have hB := ((Below.refl _ w).alloc (Nat.le_refl _) (.cells #[.int .i64 K, .int .u64 T, .slice A n c] 30)).alloc (by simp) (.cells #[.int .i64 K, .int .u64 T, .slice A n c] 33)
  have HN := Aside0.mk hn
  have HB := Aside0.mk hB
  clear hn hB
  go_enter Try.func15, Try.ntmps15
  go_wp2
  refine bodyPost_ret (results_cell_row rfl _ _ (w.heap.size + 1) 33 #[.int .i64 K, .int .u64 T, .slice A n c] (0, 0) _ rfl HN.out Try.underlying33 rfl (by kernel_rfl)) rfl ?_
  exact ⟨rfl, HB.out⟩
/-- What an array of lists holds, and what is made of each. -/
def Tri (a0 K : Int) (n N : Nat) (sms : List Sm) (als : List (List S51)) (W0 : World) : Prop :=
  ∀ i, i < N → ∃ (A : Option Addr) (m c : Nat), W0.cell? ⟨n, i, none⟩ = some (.slice A m c) ∧ ∀ W, Below W0.heap.size W0 W → Calls Try.prog 14 #[.int .i64 a0, .slice A m c] W fun e w' => ∃ As cs Aa ca,
    e = .returned (.tuple #[.agg #[.int .i64 K, .int .u64 (sms.getD i zSm).T, .slice As (sms.getD i zSm).l.length cs], .slice Aa (als.getD i []).length ca]) ∧ Kd.R k51 51 w' W.heap.size (fun _ => True) (.slice As (sms.getD i zSm).l.length cs) (sms.getD i zSm).l ∧ Kd.R k51 51 w' W.heap.size (fun _ => True) (.slice Aa (als.getD i []).length ca) (als.getD i []) ∧ Below W.heap.size W w'
theorem Tri.below {a0 K : Int} {n N : Nat} {sms : List Sm} {als : List (List S51)} {W0 W : World} (h : Tri a0 K n N sms als W0) (hb : Below W0.heap.size W0 W) : Tri a0 K n N sms als W := fun i hi => by
  obtain ⟨A, m, c, h1, h2⟩ := h i hi
  exact ⟨A, m, c, (hb.cell (World.block_lt_of_cell? W0 _ h1)).trans h1, fun W' hW => h2 W' (hb.trans (hW.mono hb.size))⟩
/-- Some summaries at the start of an array's block. -/
structure AR (w : World) (B N : Nat) (tB : TypeId) (sms : List Sm) (i : Nat) (wr : World) : Prop where
  blk : ∃ cur : Array Value, wr.heap[B]? = some (.cells cur tB (0, 0)) ∧ cur.size = N * 3 ∧ ∀ j, j < i → ∃ A c, cur[j * 3]? = some (.int .i64 (sms.getD j zSm).K) ∧ cur[j * 3 + 1]? = some (.int .u64 (sms.getD j zSm).T) ∧ cur[j * 3 + 2]? = some (.slice A (sms.getD j zSm).l.length c) ∧
    Kd.R k51 51 wr w.heap.size (fun _ => True) (.slice A (sms.getD j zSm).l.length c) (sms.getD j zSm).l
theorem AR.lt {w : World} {B N : Nat} {tB : TypeId} {sms : List Sm} {i : Nat} {wr : World} (h : AR w B N tB sms i wr) : B < wr.heap.size := by
  obtain ⟨cur, h1, _⟩ := h.blk
  exact (Array.getElem?_eq_some_iff.1 h1).1
theorem AR.below {w : World} {B N : Nat} {tB : TypeId} {sms : List Sm} {i : Nat} {wr W : World} (h : AR w B N tB sms i wr) (hb : Below wr.heap.size wr W) : AR w B N tB sms i W := by
  have hl := h.lt
  obtain ⟨cur, h1, h2, h3⟩ := h.blk
  exact ⟨cur, (hb.block B hl).trans h1, h2, fun j hj => by obtain ⟨A, c, k0, k1, k2, k3⟩ := h3 j hj; exact ⟨A, c, k0, k1, k2, Kd.R_below k3 hb⟩⟩
theorem AR.frozen {w : World} {B N : Nat} {tB : TypeId} {sms : List Sm} {i : Nat} {wr : World} (h : AR w B N tB sms i wr) (j : Nat) : wr.frozen? ⟨B, j, none⟩ = false := by
  obtain ⟨cur, h1, _⟩ := h.blk
  exact blk_frozen h1 j
theorem AR.old {w : World} {B N : Nat} {tB : TypeId} {sms : List Sm} {i : Nat} {wr : World} (h : AR w B N tB sms i wr) {j : Nat} (hj : j < N * 3) : ∃ v, wr.cell? ⟨B, j, none⟩ = some v := by
  obtain ⟨cur, h1, h2, _⟩ := h.blk
  have hj' : j < cur.size := by omega
  exact ⟨cur[j], (blk_cell h1 j).trans (Array.getElem?_eq_getElem hj')⟩
/-- What the array holds at a place. -/
theorem AR.at {w : World} {B N : Nat} {tB : TypeId} {sms : List Sm} {i : Nat} {wr : World} (h : AR w B N tB sms i wr) {j : Nat} (hj : j < i) : ∃ A c, wr.cell? ⟨B, j * 3, none⟩ = some (.int .i64 (sms.getD j zSm).K) ∧ wr.cell? ⟨B, j * 3 + 1, none⟩ = some (.int .u64 (sms.getD j zSm).T) ∧ wr.cell? ⟨B, j * 3 + 2, none⟩ = some (.slice A (sms.getD j zSm).l.length c) ∧
    Kd.R k51 51 wr w.heap.size (fun _ => True) (.slice A (sms.getD j zSm).l.length c) (sms.getD j zSm).l := by
  obtain ⟨cur, h1, h2, h3⟩ := h.blk
  obtain ⟨A, c, k0, k1, k2, k3⟩ := h3 j hj
  exact ⟨A, c, (blk_cell h1 _).trans k0, (blk_cell h1 _).trans k1, (blk_cell h1 _).trans k2, k3⟩
theorem AR.step {w : World} {B N : Nat} {tB : TypeId} {sms : List Sm} {i : Nat} {wr : World} (h : AR w B N tB sms i wr) (hi : i < N) (ht : ∀ q, q ∈ 51 :: k51.E → q ≠ tB) {K T : Int} {A : Option Addr} {c : Nat} {l : List S51} (hs : sms.getD i zSm = ⟨K, T, l⟩) (hR : Kd.R k51 51 wr w.heap.size (fun _ => True) (.slice A l.length c) l) :
    AR w B N tB sms (i + 1) (((wr.setCell ⟨B, i * 3, none⟩ (.int .i64 K)).setCell ⟨B, i * 3 + 1, none⟩ (.int .u64 T)).setCell ⟨B, i * 3 + 2, none⟩ (.slice A l.length c)) := by
  obtain ⟨cur, h1, h2, h3⟩ := h.blk
  have far : ∀ {v : Value} {q : List S51}, Kd.R k51 51 wr w.heap.size (fun _ => True) v q → Kd.R k51 51 (((wr.setCell ⟨B, i * 3, none⟩ (.int .i64 K)).setCell ⟨B, i * 3 + 1, none⟩ (.int .u64 T)).setCell ⟨B, i * 3 + 2, none⟩ (.slice A l.length c)) w.heap.size (fun _ => True) v q := fun hq =>
    Kd.R_mono (Kd.R_far (p := ⟨B, i * 3 + 2, none⟩) (Kd.R_far (p := ⟨B, i * 3 + 1, none⟩) (Kd.R_far (p := ⟨B, i * 3, none⟩) (Kd.R_types hq h1 ht) (fun _ hk => hk.2) _) (fun _ hk => hk.2) _) (fun _ hk => hk.2) _) (fun _ _ => trivial)
  refine ⟨⟨_, setCell_block (setCell_block (setCell_block h1 _) _) _, by simpa using h2, fun j hj => ?_⟩⟩
  by_cases e : j = i
  · subst e
    rw [hs]
    refine ⟨A, c, ?_, ?_, ?_, far hR⟩
    · rw [Array.getElem?_setIfInBounds, if_neg (by omega), Array.getElem?_setIfInBounds, if_neg (by omega), Array.getElem?_setIfInBounds, if_pos rfl, if_pos (by omega)]
    · rw [Array.getElem?_setIfInBounds, if_neg (by omega), Array.getElem?_setIfInBounds, if_pos rfl, if_pos (by simp; omega)]
    · rw [Array.getElem?_setIfInBounds, if_pos rfl, if_pos (by simp; omega)]
  · obtain ⟨A', c', k0, k1, k2, k3⟩ := h3 j (by omega)
    refine ⟨A', c', ?_, ?_, ?_, far k3⟩
    · rw [Array.getElem?_setIfInBounds, if_neg (by omega), Array.getElem?_setIfInBounds, if_neg (by omega), Array.getElem?_setIfInBounds, if_neg (by omega)]; exact k0
    · rw [Array.getElem?_setIfInBounds, if_neg (by omega), Array.getElem?_setIfInBounds, if_neg (by omega), Array.getElem?_setIfInBounds, if_neg (by omega)]; exact k1
    · rw [Array.getElem?_setIfInBounds, if_neg (by omega), Array.getElem?_setIfInBounds, if_neg (by omega), Array.getElem?_setIfInBounds, if_neg (by omega)]; exact k2
theorem made_is (a0 : Int) (l : List S51) (hl : ∀ t ∈ l, 0 ≤ t.f0 ∧ 0 ≤ t.f1 ∧ t.f1 < 18446744073709551616) :
    ∃ T s all, skylightref17_Made.f 600 a0 l = some (1 + (mx a0 0) % 8, T, s, all) ∧ MG (1 + (mx a0 0) % 8) T s all ∧ all.length ≤ 40 := by
  obtain ⟨h1, h2⟩ := keys_range a0
  obtain ⟨T, s, all, h, hM, ha⟩ := made_l0 h1 h2 l hl 40 0 600 0 [] [] (by omega) (by omega) (MG.start _ h1) (by simp)
  exact ⟨T, s, all, h, hM, ha⟩
/-- What is made of some lists. -/
structure Mades (a0 K : Int) (lst : List (List S51)) (sms : List Sm) (als : List (List S51)) : Prop where
  len : sms.length = lst.length
  len2 : als.length = lst.length
  at' : ∀ i, i < lst.length → (sms.getD i zSm).K = K ∧ skylightref17_Made.f 600 a0 (lst.getD i []) = some (K, (sms.getD i zSm).T, (sms.getD i zSm).l, als.getD i []) ∧ MG K (sms.getD i zSm).T (sms.getD i zSm).l (als.getD i []) ∧ (als.getD i []).length ≤ 40
theorem made_all (a0 : Int) : ∀ lst : List (List S51), (∀ l ∈ lst, ∀ t ∈ l, 0 ≤ t.f0 ∧ 0 ≤ t.f1 ∧ t.f1 < 18446744073709551616) → ∃ sms als, Mades a0 (1 + (mx a0 0) % 8) lst sms als
  | [], _ => ⟨[], [], rfl, rfl, fun i hi => by simp at hi⟩
  | l :: lst, h => by
    obtain ⟨T, s, all, h1, h2, h3⟩ := made_is a0 l (h l (by simp))
    obtain ⟨sms, als, g1, g2, g3⟩ := made_all a0 lst (fun q hq => h q (by simp [hq]))
    refine ⟨⟨1 + (mx a0 0) % 8, T, s⟩ :: sms, all :: als, by simp [g1], by simp [g2], fun i hi => ?_⟩
    rcases i with _ | i
    · exact ⟨rfl, h1, h2, h3⟩
    · simpa using g3 i (by simpa using hi)
theorem Mades.tri {W0 : World} {a0 K : Int} {n : Nat} {tv : TypeId} {vs : Array Value} {lst als : List (List S51)} {sms : List Sm} (hM : Mades a0 K lst sms als) (hn : W0.heap[n]? = some (.cells vs tv (0, 0)))
    (hv : ∀ i, i < lst.length → ∃ A c, vs[i]? = some (.slice A (lst.getD i []).length c) ∧ (lst.getD i []).length ≤ c ∧ Kd.C k51 W0 A (lst.getD i []).length (lst.getD i [])) : Tri a0 K n lst.length sms als W0 := fun i hi => by
  obtain ⟨A, c, h1, h2, h3⟩ := hv i hi
  obtain ⟨m0, m1, m2, m3⟩ := hM.at' i hi
  refine ⟨A, _, c, (blk_cell hn i).trans h1, fun W hW => ?_⟩
  refine (skylightref17_Made.calls 600 a0 A c _ _ _ _ _ W (Kd.C_below h3 hW) h2 m1).mono ?_
  rintro e w' ⟨v2, v3, rfl, hR2, hR3, hb⟩
  obtain ⟨A2, c2, rfl⟩ := Kd.R_slice hR2
  obtain ⟨A3, c3, rfl⟩ := Kd.R_slice hR3
  exact ⟨A2, c2, A3, c3, rfl, Kd.R_mono hR2 (fun _ _ => trivial), Kd.R_mono hR3 (fun _ _ => trivial), hb⟩
/-- A box that holds a summary. -/
structure JB (w wr : World) (t g : Nat) (rK rT : Int) (rl : List S51) (wx : World) : Prop where
  st : ∃ A3 c3, wx.heap[g]? = some (.cells #[.int .i64 rK, .int .u64 rT, .slice A3 rl.length c3] t (0, 0)) ∧ Kd.R k51 51 wx w.heap.size (fun _ => True) (.slice A3 rl.length c3) rl
  lo : wr.heap.size ≤ g
theorem jb_old {w wr w5 : World} {t : TypeId} {rK rT : Int} {rl : List S51} {A3 : Option Addr} {c3 : Nat} {u0 u1 u2 : Value} (hR : Kd.R k51 51 w5 w.heap.size (fun _ => True) (.slice A3 rl.length c3) rl) (k1 : w5.heap[wr.heap.size]? = some (.cells #[u0, u1, u2] t (0, 0))) (ht : ∀ q, q ∈ 51 :: k51.E → q ≠ t) :
    JB w wr t wr.heap.size rK rT rl (((w5.setCell ⟨wr.heap.size, 0, none⟩ (.int .i64 rK)).setCell ⟨wr.heap.size, 1, none⟩ (.int .u64 rT)).setCell ⟨wr.heap.size, 2, none⟩ (.slice A3 rl.length c3)) :=
  ⟨⟨A3, c3, blk_put (cs := #[.int .i64 rK, .int .u64 rT, u2]) (blk_put (cs := #[.int .i64 rK, u1, u2]) (blk_put (cs := #[u0, u1, u2]) k1 0 _ rfl) 1 _ rfl) 2 _ rfl,
    Kd.R_mono (Kd.R_far (p := ⟨wr.heap.size, 2, none⟩) (Kd.R_far (p := ⟨wr.heap.size, 1, none⟩) (Kd.R_far (p := ⟨wr.heap.size, 0, none⟩) (Kd.R_types hR k1 ht) (fun _ hk => hk.2) _) (fun _ hk => hk.2) _) (fun _ hk => hk.2) _) (fun _ _ => trivial)⟩, Nat.le_refl _⟩
theorem JB.below {w wr W W' : World} {t g : Nat} {rK rT : Int} {rl : List S51} (h : JB w wr t g rK rT rl W) (hb : Below W.heap.size W W') : JB w wr t g rK rT rl W' := by
  obtain ⟨⟨A3, c3, h1, h2⟩, h3⟩ := h
  exact ⟨⟨A3, c3, (hb.block g (Array.getElem?_eq_some_iff.1 h1).1).trans h1, Kd.R_below h2 hb⟩, h3⟩
theorem JB.lt {w wr W : World} {t g : Nat} {rK rT : Int} {rl : List S51} (h : JB w wr t g rK rT rl W) : g < W.heap.size := by
  obtain ⟨⟨A3, c3, h1, h2⟩, h3⟩ := h
  exact (Array.getElem?_eq_some_iff.1 h1).1
theorem j3_heap {W : World} {b g : Nat} (hne : g ≠ b) (u0 u1 u2 : Value) : (((W.setCell ⟨b, 0, none⟩ u0).setCell ⟨b, 1, none⟩ u1).setCell ⟨b, 2, none⟩ u2).heap[g]? = W.heap[g]? :=
  (Below.heap_setCell _ ⟨b, 2, none⟩ u2 g hne).trans ((Below.heap_setCell _ ⟨b, 1, none⟩ u1 g hne).trans (Below.heap_setCell _ ⟨b, 0, none⟩ u0 g hne))
theorem j3_R {w W : World} {b : Nat} {tb : TypeId} {cells : Array Value} {v : Value} {rl : List S51} (hR : Kd.R k51 51 W w.heap.size (fun _ => True) v rl) (k1 : W.heap[b]? = some (.cells cells tb (0, 0))) (ht : ∀ q, q ∈ 51 :: k51.E → q ≠ tb) (u0 u1 u2 : Value) :
    Kd.R k51 51 (((W.setCell ⟨b, 0, none⟩ u0).setCell ⟨b, 1, none⟩ u1).setCell ⟨b, 2, none⟩ u2) w.heap.size (fun _ => True) v rl :=
  Kd.R_mono (Kd.R_far (p := ⟨b, 2, none⟩) (Kd.R_far (p := ⟨b, 1, none⟩) (Kd.R_far (p := ⟨b, 0, none⟩) (Kd.R_types hR k1 ht) (fun _ hk => hk.2) _) (fun _ hk => hk.2) _) (fun _ hk => hk.2) _) (fun _ _ => trivial)
theorem JB.j3 {w wr W : World} {t g b : Nat} {tb : TypeId} {cells : Array Value} {rK rT : Int} {rl : List S51} (h : JB w wr t g rK rT rl W) (k1 : W.heap[b]? = some (.cells cells tb (0, 0))) (ht : ∀ q, q ∈ 51 :: k51.E → q ≠ tb) (hne : g ≠ b) (u0 u1 u2 : Value) :
    JB w wr t g rK rT rl (((W.setCell ⟨b, 0, none⟩ u0).setCell ⟨b, 1, none⟩ u1).setCell ⟨b, 2, none⟩ u2) := by
  obtain ⟨⟨A3, c3, h1, h2⟩, h3⟩ := h
  exact ⟨⟨A3, c3, (j3_heap hne _ _ _).trans h1, j3_R h2 k1 ht _ _ _⟩, h3⟩
theorem j3_new {W : World} {b : Nat} {t : TypeId} {u0 u1 u2 : Value} (k1 : W.heap[b]? = some (.cells #[u0, u1, u2] t (0, 0))) (v0 v1 v2 : Value) : (((W.setCell ⟨b, 0, none⟩ v0).setCell ⟨b, 1, none⟩ v1).setCell ⟨b, 2, none⟩ v2).heap[b]? = some (.cells #[v0, v1, v2] t (0, 0)) :=
  blk_put (cs := #[v0, v1, u2]) (blk_put (cs := #[v0, u1, u2]) (blk_put (cs := #[u0, u1, u2]) k1 0 _ rfl) 1 _ rfl) 2 _ rfl
theorem j3_below {n b : Nat} {w W : World} (h : Below n w W) (hb : n ≤ b) (v0 v1 v2 : Value) : Below n w (((W.setCell ⟨b, 0, none⟩ v0).setCell ⟨b, 1, none⟩ v1).setCell ⟨b, 2, none⟩ v2) :=
  ((h.setCell (p := ⟨b, 0, none⟩) hb _).setCell (p := ⟨b, 1, none⟩) hb _).setCell (p := ⟨b, 2, none⟩) hb _
end Go.Proofs.Ytohginlodlijkaa.PH

/-! Plain: three made summaries, all their keys. -/
namespace Go.Proofs.Ytohginlodlijkaa.PH
open Go.RowKit Go.Proofs.YtohginlodlijkaaW.PrintWords Go.Proofs.YtohginlodlijkaaW.PrintLast Go.Proofs.YtohginlodlijkaaW.PrintMore
theorem Mades.three {a0 K : Int} {l0 l1 l2 : List S51} {sms : List Sm} {als : List (List S51)} (h : Mades a0 K [l0, l1, l2] sms als) :
    ∃ T0 q0 b0 T1 q1 b1 T2 q2 b2, sms = [⟨K, T0, q0⟩, ⟨K, T1, q1⟩, ⟨K, T2, q2⟩] ∧ als = [b0, b1, b2] ∧ (MG K T0 q0 b0 ∧ b0.length ≤ 40) ∧ (MG K T1 q1 b1 ∧ b1.length ≤ 40) ∧ (MG K T2 q2 b2 ∧ b2.length ≤ 40) := by
  obtain ⟨e1, e2, h3⟩ := h
  match sms, e1 with
  | [⟨K0, T0, q0⟩, ⟨K1, T1, q1⟩, ⟨K2, T2, q2⟩], _ =>
    match als, e2 with
    | [b0, b1, b2], _ =>
      obtain ⟨k0, _, m0, n0⟩ := h3 0 (by simp)
      obtain ⟨k1, _, m1, n1⟩ := h3 1 (by simp)
      obtain ⟨k2, _, m2, n2⟩ := h3 2 (by simp)
      simp only [List.getD_cons_zero, List.getD_cons_succ] at k0 k1 k2 m0 m1 m2 n0 n1 n2
      subst k0 k1 k2
      exact ⟨T0, q0, b0, T1, q1, b1, T2, q2, b2, rfl, rfl, ⟨m0, n0⟩, ⟨m1, n1⟩, ⟨m2, n2⟩⟩
/-- All keys of three summaries, rising, each with what all say. -/
structure Sum3 (K : Int) (q0 q1 q2 m : List S51) : Prop where
  mok : Mok (q0 ++ (q1 ++ q2))
  le : (m.length : Int) ≤ 3 * K
  ge : q0.length ≤ m.length
  rise : Rise m
  cnt : ∀ x ∈ m, x.f1 = getk q0 x.f0 + getk q1 x.f0 + getk q2 x.f0 ∧ 1 ≤ x.f1 ∧ x.f1 < 9223372036854775808 ∧ 0 ≤ x.f0 ∧ x.f0 < 2305843009213693951
  get : ∀ k, (0 ≤ getk q0 k ∧ 0 ≤ getk q1 k ∧ 0 ≤ getk q2 k) ∧ getk q0 k + getk q1 k + getk q2 k < 9223372036854775808
theorem getk_okl {l : List S51} (h : Okl l) (k : Int) : 0 ≤ getk l k ∧ getk l k ≤ 4503599627370496 := by
  by_cases he : ∃ z ∈ l, z.f0 = k
  · obtain ⟨z, hz, rfl⟩ := he
    rw [getk_mem h.1 hz]
    have := h.2 z hz
    omega
  · rw [getk_none (fun z hz e => he ⟨z, hz, e⟩)]; omega
theorem sum3_of {K T0 T1 T2 : Int} {q0 q1 q2 b0 b1 b2 : List S51} (hK : 1 ≤ K) (h0 : MG K T0 q0 b0) (h1 : MG K T1 q1 b1) (h2 : MG K T2 q2 b2) : Sum3 K q0 q1 q2 (mergeL [] (q0 ++ (q1 ++ q2))) := by
  have hp := h0.pw.append (h1.pw.append h2.pw)
  have t0 := h0.top
  have t1 := h1.top
  have t2 := h2.top
  have hr := merge_rise (q0 ++ (q1 ++ q2)) [] rise_nil
  have hm := hp.merge
  have hg : ∀ k, getk (mergeL [] (q0 ++ (q1 ++ q2))) k = getk q0 k + getk q1 k + getk q2 k := fun k => by
    rw [getk_mergeL k _ [] rise_nil, realL_append, realL_append, realL_rise h0.ok.1, realL_rise h1.ok.1, realL_rise h2.ok.1]
    simp only [getk]; omega
  refine ⟨hp.mok (by omega) (by omega), ?_, ?_, hr, fun x hx => ?_, fun k => ?_⟩
  · have := (merge_length (q0 ++ (q1 ++ q2)) []).2
    have l0 := h0.len
    have l1 := h1.len
    have l2 := h2.len
    simp only [List.length_append, List.length_nil] at this
    omega
  · rw [merge_append, merge_self h0.ok.1]
    exact (merge_length (q1 ++ q2) q0).1
  · have g := hg x.f0
    rw [getk_mem hr hx] at g
    have c := hm.cnt x hx
    have s := sumL_mem (fun y hy => (hm.cnt y hy).2.2) hx
    have s2 := hm.sum_le (by omega)
    exact ⟨g, c.2.2, by omega, c.1, c.2.1⟩
  · have := getk_okl h0.ok k
    have := getk_okl h1.ok k
    have := getk_okl h2.ok k
    omega
theorem flat3 (q0 q1 q2 : List S51) : [q0, q1, q2].flatten = q0 ++ (q1 ++ q2) := by simp
theorem rise_at {m : List S51} (h : Rise m) {i : Nat} (hi : i + 1 < m.length) : (m.getD i z51).f0 < (m.getD (i + 1) z51).f0 := by
  have := List.pairwise_iff_getElem.1 h i (i + 1) (by omega) hi (by omega)
  simpa [hi, (by omega : i < m.length)] using this
theorem getD_mem {m : List S51} {i : Nat} (hi : i < m.length) : m.getD i z51 ∈ m := by simp [hi]
/-- Three summaries, handed over as one slice. -/
theorem sx3 {W : World} {base : Nat} {K0 K1 K2 T0 T1 T2 : Int} {q0 q1 q2 : List S51} {S0 S1 S2 : Option Addr} {d0 d1 d2 : Nat} (r0 : Kd.R k51 51 W base (fun _ => True) (.slice S0 q0.length d0) q0) (r1 : Kd.R k51 51 W base (fun _ => True) (.slice S1 q1.length d1) q1) (r2 : Kd.R k51 51 W base (fun _ => True) (.slice S2 q2.length d2) q2) :
    SX (W.alloc (.cells #[.int .i64 K0, .int .u64 T0, .slice S0 q0.length d0, .int .i64 K1, .int .u64 T1, .slice S1 q1.length d1, .int .i64 K2, .int .u64 T2, .slice S2 q2.length d2] 33)) (some ⟨W.heap.size, 0, none⟩) [⟨K0, T0, q0⟩, ⟨K1, T1, q1⟩, ⟨K2, T2, q2⟩] := by
  have hb := (Below.refl _ W).alloc (Nat.le_refl _) (.cells #[.int .i64 K0, .int .u64 T0, .slice S0 q0.length d0, .int .i64 K1, .int .u64 T1, .slice S1 q1.length d1, .int .i64 K2, .int .u64 T2, .slice S2 q2.length d2] 33)
  refine SX.of_block (World.alloc_heap_new W _) (fun i hi => ?_)
  have hi3 : i < 3 := hi
  rcases (show i = 0 ∨ i = 1 ∨ i = 2 by omega) with rfl | rfl | rfl
  · exact ⟨S0, d0, rfl, rfl, rfl, Kd.C_below (Kd.R_reads' r0).2.2 hb⟩
  · exact ⟨S1, d1, rfl, rfl, rfl, Kd.C_below (Kd.R_reads' r1).2.2 hb⟩
  · exact ⟨S2, d2, rfl, rfl, rfl, Kd.C_below (Kd.R_reads' r2).2.2 hb⟩
theorem sums3_call {W : World} {Al : Option Addr} {cl : Nat} {K K0 K1 K2 T0 T1 T2 : Int} {q0 q1 q2 : List S51} (hx : SX W Al [⟨K0, T0, q0⟩, ⟨K1, T1, q1⟩, ⟨K2, T2, q2⟩]) (h : Sum3 K q0 q1 q2 (mergeL [] (q0 ++ (q1 ++ q2)))) (hK : K ≤ 8) (h0 : q0.length ≤ 8) (h1 : q1.length ≤ 8) (h2 : q2.length ≤ 8) :
    Calls Try.prog 20 #[.slice Al 3 cl] W fun e w' => ∃ A c, e = .returned (.slice A (mergeL [] (q0 ++ (q1 ++ q2))).length c) ∧ Kd.R k51 51 w' W.heap.size (fun _ => True) (.slice A (mergeL [] (q0 ++ (q1 ++ q2))).length c) (mergeL [] (q0 ++ (q1 ++ q2))) ∧ Below W.heap.size W w' := by
  have hle := h.le
  have := sums_calls Al cl [q0, q1, q2] W hx.sl (by simp) (by simp; omega) (by simp; omega) (by rw [flat3]; exact h.mok) (by rw [flat3]; omega)
  refine this.mono ?_
  rintro e w' ⟨v, rfl, hR, hb⟩
  rw [flat3] at hR
  obtain ⟨A, c, rfl⟩ := Kd.R_slice hR
  exact ⟨A, c, rfl, hR, hb⟩
theorem sums0_call (W : World) : Calls Try.prog 20 #[.slice none 0 0] W fun e w' => ∃ A c, e = .returned (.slice A 0 c) ∧ Below W.heap.size W w' := by
  have := sums_calls none 0 [] W (fun i hi => by simp at hi) (by simp) (by simp) (by simp) ⟨by simp, by simp, by simp [totL]⟩ (by simp [mergeL])
  refine this.mono ?_
  rintro e w' ⟨v, rfl, hR, hb⟩
  obtain ⟨A, c, rfl⟩ := Kd.R_slice hR
  exact ⟨A, c, rfl, hb⟩
end Go.Proofs.Ytohginlodlijkaa.PH
