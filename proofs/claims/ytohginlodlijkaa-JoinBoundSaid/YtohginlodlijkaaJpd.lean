/- Summaries in an array beside a row of all that came, which grows; plain: what a merged summary finds. -/
import Derived.Test.YtohginlodlijkaaJpc
namespace Go.Proofs.Ytohginlodlijkaa.PH
open Go.RowKit Go.Proofs.YtohginlodlijkaaW.PrintWords Go.Proofs.YtohginlodlijkaaW.PrintLast Go.Proofs.YtohginlodlijkaaW.PrintMore
theorem Mades.gs {a0 K : Int} {lst als : List (List S51)} {sms : List Sm} (h : Mades a0 K lst sms als) {j : Nat} (hj : j < lst.length) : GS K (sms.getD j zSm) (als.getD j []) := by
  obtain ⟨e, _, hm, _⟩ := h.at' j hj
  have := hm.gs
  rw [show (⟨K, (sms.getD j zSm).T, (sms.getD j zSm).l⟩ : Sm) = sms.getD j zSm by rw [← e]] at this
  exact this
theorem mok3 {K : Int} (hK1 : 1 ≤ K) (hK8 : K ≤ 8) {s0 s1 s2 : Sm} {b0 b1 b2 : List S51} (h0 : GS K s0 b0) (h1 : GS K s1 b1) (h2 : GS K s2 b2) : MOk [s0, s1, s2] :=
  mok_all hK1 hK8 (ps := [(s0, b0), (s1, b1), (s2, b2)]) (by simp; exact ⟨h0, h1, h2⟩) (by simp) (by simp)
theorem mok2 {K : Int} (hK1 : 1 ≤ K) (hK8 : K ≤ 8) {s0 s1 : Sm} {b0 b1 : List S51} (h0 : GS K s0 b0) (h1 : GS K s1 b1) : MOk [s0, s1] :=
  mok_all hK1 hK8 (ps := [(s0, b0), (s1, b1)]) (by simp; exact ⟨h0, h1⟩) (by simp) (by simp)
theorem mok1 {K : Int} (hK1 : 1 ≤ K) (hK8 : K ≤ 8) {s0 : Sm} {b0 : List S51} (h0 : GS K s0 b0) : MOk [s0] :=
  mok_all hK1 hK8 (ps := [(s0, b0)]) (by simp; exact h0) (by simp) (by simp)
theorem sx1 {W : World} {base : Nat} {K0 T0 : Int} {q0 : List S51} {S0 : Option Addr} {d0 : Nat} (r0 : Kd.R k51 51 W base (fun _ => True) (.slice S0 q0.length d0) q0) :
    SX (W.alloc (.cells #[.int .i64 K0, .int .u64 T0, .slice S0 q0.length d0] 33)) (some ⟨W.heap.size, 0, none⟩) [⟨K0, T0, q0⟩] := by
  have hb := (Below.refl _ W).alloc (Nat.le_refl _) (.cells #[.int .i64 K0, .int .u64 T0, .slice S0 q0.length d0] 33)
  refine SX.of_block (World.alloc_heap_new W _) (fun i hi => ?_)
  have hi3 : i < 1 := hi
  obtain rfl : i = 0 := by omega
  exact ⟨S0, d0, rfl, rfl, rfl, Kd.C_below (Kd.R_reads' r0).2.2 hb⟩
theorem sx3g {W : World} {g base : Nat} {K0 K1 K2 T0 T1 T2 : Int} {q0 q1 q2 : List S51} {S0 S1 S2 : Option Addr} {d0 d1 d2 : Nat} (hg : g = W.heap.size) (r0 : Kd.R k51 51 W base (fun _ => True) (.slice S0 q0.length d0) q0) (r1 : Kd.R k51 51 W base (fun _ => True) (.slice S1 q1.length d1) q1) (r2 : Kd.R k51 51 W base (fun _ => True) (.slice S2 q2.length d2) q2) :
    SX (W.alloc (.cells #[.int .i64 K0, .int .u64 T0, .slice S0 q0.length d0, .int .i64 K1, .int .u64 T1, .slice S1 q1.length d1, .int .i64 K2, .int .u64 T2, .slice S2 q2.length d2] 33)) (some ⟨g, 0, none⟩) [⟨K0, T0, q0⟩, ⟨K1, T1, q1⟩, ⟨K2, T2, q2⟩] := hg ▸ sx3 r0 r1 r2
theorem SX.drew {W : World} {Al : Option Addr} {ls : List Sm} (h : SX W Al ls) : SX W.drew Al ls := h
theorem SX.alloc {W : World} {Al : Option Addr} {ls : List Sm} (h : SX W Al ls) (o : Obj) : SX (W.alloc o) Al ls := h.kept (KeepsCells.of_below ((Below.refl _ W).alloc (Nat.le_refl _) o))
/-- Some summaries at the start of an array's block, none of them in the block of va. -/
structure AV (w : World) (B N : Nat) (tB : TypeId) (sms : List Sm) (va : Value) (i : Nat) (wr : World) : Prop where
  blk : ∃ cur : Array Value, wr.heap[B]? = some (.cells cur tB (0, 0)) ∧ cur.size = N * 3 ∧ ∀ j, j < i → ∃ A c, cur[j * 3]? = some (.int .i64 (sms.getD j zSm).K) ∧ cur[j * 3 + 1]? = some (.int .u64 (sms.getD j zSm).T) ∧ cur[j * 3 + 2]? = some (.slice A (sms.getD j zSm).l.length c) ∧
    Kd.R k51 51 wr w.heap.size (fun k => True ∧ some k ≠ va.ownBlock) (.slice A (sms.getD j zSm).l.length c) (sms.getD j zSm).l
theorem AV.ar {w : World} {B N : Nat} {tB : TypeId} {sms : List Sm} {va : Value} {i : Nat} {wr : World} (h : AV w B N tB sms va i wr) : AR w B N tB sms i wr := by
  obtain ⟨cur, h1, h2, h3⟩ := h.blk
  exact ⟨cur, h1, h2, fun j hj => by obtain ⟨A, c, k0, k1, k2, k3⟩ := h3 j hj; exact ⟨A, c, k0, k1, k2, Kd.R_mono k3 (fun _ _ => trivial)⟩⟩
theorem AV.below {w : World} {B N : Nat} {tB : TypeId} {sms : List Sm} {va : Value} {i : Nat} {wr W : World} (h : AV w B N tB sms va i wr) (hb : Below wr.heap.size wr W) : AV w B N tB sms va i W := by
  have hl := h.ar.lt
  obtain ⟨cur, h1, h2, h3⟩ := h.blk
  exact ⟨cur, (hb.block B hl).trans h1, h2, fun j hj => by obtain ⟨A, c, k0, k1, k2, k3⟩ := h3 j hj; exact ⟨A, c, k0, k1, k2, Kd.R_below k3 hb⟩⟩
theorem far3 {W : World} {B i : Nat} {tB : TypeId} {cur : Array Value} {base : Nat} {ok : Nat → Prop} {v : Value} {q : List S51} {u0 u1 u2 : Value} (h1 : W.heap[B]? = some (.cells cur tB (0, 0))) (ht : ∀ q, q ∈ 51 :: k51.E → q ≠ tB) (hq : Kd.R k51 51 W base ok v q) :
    Kd.R k51 51 (((W.setCell ⟨B, i * 3, none⟩ u0).setCell ⟨B, i * 3 + 1, none⟩ u1).setCell ⟨B, i * 3 + 2, none⟩ u2) base ok v q :=
  Kd.R_mono (Kd.R_far (p := ⟨B, i * 3 + 2, none⟩) (Kd.R_far (p := ⟨B, i * 3 + 1, none⟩) (Kd.R_far (p := ⟨B, i * 3, none⟩) (Kd.R_types hq h1 ht) (fun _ hk => hk.2) _) (fun _ hk => hk.2) _) (fun _ hk => hk.2) _) (fun _ hk => hk.1)
theorem AV.step {w : World} {B N : Nat} {tB : TypeId} {sms : List Sm} {va : Value} {i : Nat} {wr : World} (h : AV w B N tB sms va i wr) (hi : i < N) (ht : ∀ q, q ∈ 51 :: k51.E → q ≠ tB) {K T : Int} {A : Option Addr} {c : Nat} {l : List S51} (hs : sms.getD i zSm = ⟨K, T, l⟩) (hR : Kd.R k51 51 wr w.heap.size (fun k => True ∧ some k ≠ va.ownBlock) (.slice A l.length c) l) :
    AV w B N tB sms va (i + 1) (((wr.setCell ⟨B, i * 3, none⟩ (.int .i64 K)).setCell ⟨B, i * 3 + 1, none⟩ (.int .u64 T)).setCell ⟨B, i * 3 + 2, none⟩ (.slice A l.length c)) := by
  obtain ⟨cur, h1, h2, h3⟩ := h.blk
  refine ⟨⟨_, setCell_block (setCell_block (setCell_block h1 _) _) _, by simpa using h2, fun j hj => ?_⟩⟩
  by_cases e : j = i
  · subst e
    rw [hs]
    refine ⟨A, c, ?_, ?_, ?_, far3 h1 ht hR⟩
    · rw [Array.getElem?_setIfInBounds, if_neg (by omega), Array.getElem?_setIfInBounds, if_neg (by omega), Array.getElem?_setIfInBounds, if_pos rfl, if_pos (by omega)]
    · rw [Array.getElem?_setIfInBounds, if_neg (by omega), Array.getElem?_setIfInBounds, if_pos rfl, if_pos (by simp; omega)]
    · rw [Array.getElem?_setIfInBounds, if_pos rfl, if_pos (by simp; omega)]
  · obtain ⟨A', c', k0, k1, k2, k3⟩ := h3 j (by omega)
    refine ⟨A', c', ?_, ?_, ?_, far3 h1 ht k3⟩
    · rw [Array.getElem?_setIfInBounds, if_neg (by omega), Array.getElem?_setIfInBounds, if_neg (by omega), Array.getElem?_setIfInBounds, if_neg (by omega)]; exact k0
    · rw [Array.getElem?_setIfInBounds, if_neg (by omega), Array.getElem?_setIfInBounds, if_neg (by omega), Array.getElem?_setIfInBounds, if_neg (by omega)]; exact k1
    · rw [Array.getElem?_setIfInBounds, if_neg (by omega), Array.getElem?_setIfInBounds, if_neg (by omega), Array.getElem?_setIfInBounds, if_neg (by omega)]; exact k2
/-- Behind an append to the row of va. -/
theorem AV.after {w : World} {B N : Nat} {tB : TypeId} {sms : List Sm} {va v1 : Value} {i base : Nat} {wr w1 : World} {all : List S51} (h : AV w B N tB sms va i wr) (ht : ∀ q, q ∈ 51 :: k51.E → q ≠ tB) (hv : Kd.R k51 51 wr base (fun _ => True) va all) (hg : wr.grownBy w1 va.ownBlock) (hat : v1.ownBlock = va.ownBlock ∨ ∃ b, v1.ownBlock = some b ∧ wr.heap.size ≤ b) : AV w B N tB sms v1 i w1 := by
  obtain ⟨cur, h1, h2, h3⟩ := h.blk
  have hne : some B ≠ va.ownBlock := fun e => ((Kd.R_types hv h1 ht).1 B e.symm).2 rfl
  exact ⟨cur, blk_grown h1 hg hne, h2, fun j hj => by obtain ⟨A, c, k0, k1, k2, k3⟩ := h3 j hj; exact ⟨A, c, k0, k1, k2, Kd.R_after k3 hg hat⟩⟩
/-- What was made in a round is apart from the row of va. -/
theorem R_apart_new {wr w7 : World} {base : Nat} {va v : Value} {all l : List S51} (hv : Kd.R k51 51 wr base (fun _ => True) va all) (hR : Kd.R k51 51 w7 wr.heap.size (fun _ => True) v l) : Kd.R k51 51 w7 wr.heap.size (fun k => True ∧ some k ≠ va.ownBlock) v l :=
  Kd.R_mono (Kd.R_bound hR) (fun k hk => ⟨trivial, fun e => by have h1 := (Kd.R_bound hv).1 k e.symm; have h2 := hk; omega⟩)
theorem take_flat {als : List (List S51)} {i : Nat} (hi : i < als.length) : (als.take (i + 1)).flatten = (als.take i).flatten ++ als.getD i [] := by
  rw [List.take_succ_eq_append_getElem hi, List.flatten_append]
  simp [hi]
theorem flat_len {als : List (List S51)} (h : ∀ i, i < als.length → (als.getD i []).length ≤ 40) : ∀ i, i ≤ als.length → (als.take i).flatten.length ≤ 40 * i
  | 0, _ => by simp
  | i + 1, hi => by
    rw [take_flat (by omega), List.length_append]
    have := flat_len h i (by omega)
    have := h i (by omega)
    omega
theorem real_is {all : List S51} (hl : all.length ≤ 190) (hp : ∀ t ∈ all, 1 ≤ t.f1) (hs : sumL all < 18446744073709551616) (key : Int) : skylightref17_Real.f 400 all key = some (realL all key) := by
  have := real_l0 key all [] 400 0 (by omega) (by simpa using (by omega : all.length ≤ 200)) (by omega) (by omega) hp
  simpa [skylightref17_Real.f] using this
theorem gs_get {K : Int} {s : Sm} {all : List S51} (h : GS K s all) (key : Int) : 0 ≤ getk s.l key ∧ getk s.l key ≤ s.T := by
  by_cases he : ∃ z ∈ s.l, z.f0 = key
  · obtain ⟨z, hz, rfl⟩ := he
    rw [getk_mem h.rise hz]
    have hl := h.len
    have h1 := sumL_mem (fun x hx => (h.pw.cnt x hx).2.2) hz
    have h2 := h.pw.sum_le (by omega)
    have h3 := (h.pw.cnt z hz).2.2
    omega
  · rw [getk_none (fun z hz e => he ⟨z, hz, e⟩)]
    have := h.nonneg
    omega
/-- A key of which more came than the total by the number of keys and 1 is there. -/
theorem gs_finds {K : Int} {s : Sm} {all : List S51} (hK : 1 ≤ K) (h : GS K s all) {key : Int} (hr : s.T / (K + 1) < realL all key) : 1 ≤ getk s.l key := by
  obtain ⟨E, h0, h1, h2⟩ := h.pw.E
  have g := h2 key
  rw [realL_rise h.rise] at g
  have hs := sum_nonneg (fun x hx => (h.pw.cnt x hx).2.2)
  have hE : E ≤ s.T / (K + 1) := (Int.le_ediv_iff_mul_le (by omega)).2 (by rw [Int.mul_comm]; omega)
  omega
theorem real_le {K : Int} {s : Sm} {all : List S51} (h : GS K s all) (key : Int) : 0 ≤ realL all key ∧ realL all key ≤ s.T := by
  refine ⟨realL_nonneg (fun x hx => (h.pw.pos x hx).2.2) key, ?_⟩
  rw [h.pw.tot]
  exact realL_le (fun x hx => (h.pw.pos x hx).2.2) key
theorem mok_z {K : Int} (hK1 : 1 ≤ K) (hK8 : K ≤ 8) {s0 : Sm} {b0 : List S51} (h0 : GS K s0 b0) : MOk [s0, zSm] := by
  have h1 := mok1 hK1 hK8 h0
  have e : ([s0, zSm] : List Sm).flatMap (·.l) = ([s0] : List Sm).flatMap (·.l) := by simp [zSm]
  refine ⟨fun s hs => ?_, fun s hs => ?_, by simp, by simp, by rw [e]; exact h1.mok, by rw [e]; exact h1.few, by simpa using h1.K⟩
  · simp at hs
    rcases hs with rfl | rfl
    · exact h1.T _ (by simp)
    · simp [zSm]
  · simp at hs
    rcases hs with rfl | rfl
    · exact h1.len _ (by simp)
    · simp [zSm]
theorem sx2g {W : World} {g base : Nat} {K0 K1 T0 T1 : Int} {q0 q1 : List S51} {S0 S1 : Option Addr} {d0 d1 : Nat} (hg : g = W.heap.size) (r0 : Kd.R k51 51 W base (fun _ => True) (.slice S0 q0.length d0) q0) (r1 : Kd.R k51 51 W base (fun _ => True) (.slice S1 q1.length d1) q1) :
    SX (W.alloc (.cells #[.int .i64 K0, .int .u64 T0, .slice S0 q0.length d0, .int .i64 K1, .int .u64 T1, .slice S1 q1.length d1] 33)) (some ⟨g, 0, none⟩) [⟨K0, T0, q0⟩, ⟨K1, T1, q1⟩] := by
  subst hg
  have hb := (Below.refl _ W).alloc (Nat.le_refl _) (.cells #[.int .i64 K0, .int .u64 T0, .slice S0 q0.length d0, .int .i64 K1, .int .u64 T1, .slice S1 q1.length d1] 33)
  refine SX.of_block (World.alloc_heap_new W _) (fun i hi => ?_)
  have hi3 : i < 2 := hi
  rcases (show i = 0 ∨ i = 1 by omega) with rfl | rfl
  · exact ⟨S0, d0, rfl, rfl, rfl, Kd.C_below (Kd.R_reads' r0).2.2 hb⟩
  · exact ⟨S1, d1, rfl, rfl, rfl, Kd.C_below (Kd.R_reads' r1).2.2 hb⟩
theorem mrg2_cases {K : Int} (hK : 1 ≤ K) {s0 s1 : Sm} {b0 b1 : List S51} (h0 : GS K s0 b0) (h1 : GS K s1 b1) : (∃ s, mrg [s0, s1] = (s, 0) ∧ GS K s (b0 ++ b1)) ∨ mrg [s0, s1] = (zSm, 5) := by
  have := mrg_cases hK [(s0, b0), (s1, b1)] (by simp) (by simp; exact ⟨h0, h1⟩)
  simpa using this
theorem mrg3_cases {K : Int} (hK : 1 ≤ K) {s0 s1 s2 : Sm} {b0 b1 b2 : List S51} (h0 : GS K s0 b0) (h1 : GS K s1 b1) (h2 : GS K s2 b2) : (∃ s, mrg [s0, s1, s2] = (s, 0) ∧ GS K s (b0 ++ (b1 ++ b2))) ∨ mrg [s0, s1, s2] = (zSm, 5) := by
  have := mrg_cases hK [(s0, b0), (s1, b1), (s2, b2)] (by simp) (by simp; exact ⟨h0, h1, h2⟩)
  simpa using this
theorem acc_facts {K : Int} {s : Sm} {b0 b1 b2 acc : List S51} (hacc : acc = b0 ++ (b1 ++ b2)) (h : GS K s (b2 ++ (b0 ++ b1))) : (∀ t ∈ acc, 1 ≤ t.f1) ∧ sumL acc = s.T ∧ ∀ k, realL acc k = realL (b2 ++ (b0 ++ b1)) k := by
  subst hacc
  refine ⟨fun t ht => (h.pw.pos t ?_).2.2, ?_, fun k => ?_⟩
  · simp only [List.mem_append] at ht ⊢
    rcases ht with h | h | h
    · exact .inr (.inl h)
    · exact .inr (.inr h)
    · exact .inl h
  · rw [h.pw.tot]
    simp only [sumL_append]
    omega
  · simp only [realL_append]
    omega
end Go.Proofs.Ytohginlodlijkaa.PH
