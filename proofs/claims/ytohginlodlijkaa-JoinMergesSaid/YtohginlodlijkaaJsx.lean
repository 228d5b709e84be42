/- join's sequence of all items of some summaries. And more: see each part's head. -/
import Derived.Test.YtohginlodlijkaaKeys
import Derived.Test.YtohginlodlijkaaSet
/-! join's sequence of all items of some summaries. -/
namespace Go.Proofs.Ytohginlodlijkaa.PH
open Go.RowKit Go.Shelf Go.Maps Go.Proofs.YtohginlodlijkaaW.PrintWords Go.Proofs.YtohginlodlijkaaW.PrintLast Go.Proofs.YtohginlodlijkaaW.PrintMore
attribute [local go_sem] Oper.semAt_some
/-- Whatever is cells lies as it lay. -/
structure KeepsCells (W W' : World) : Prop where
  size : W.heap.size ≤ W'.heap.size
  same : ∀ (k : Nat) (o : Obj), W.heap[k]? = some o → o.isCells = true → W'.heap[k]? = some o
theorem KeepsCells.refl (W : World) : KeepsCells W W := ⟨Nat.le_refl _, fun _ _ h _ => h⟩
theorem KeepsCells.trans {A B C : World} (h : KeepsCells A B) (k : KeepsCells B C) : KeepsCells A C := ⟨Nat.le_trans h.size k.size, fun i o hi ho => k.same i o (h.same i o hi ho) ho⟩
theorem KeepsCells.alloc (W : World) (o : Obj) : KeepsCells W (W.alloc o) := ⟨by simp, fun k o' hk _ => (Below.heap_alloc W o k (Array.getElem?_eq_some_iff.1 hk).1).trans hk⟩
theorem KeepsCells.of_below {W W' : World} (h : Below W.heap.size W W') : KeepsCells W W' := ⟨h.size, fun k _ hk _ => (h.block k (Array.getElem?_eq_some_iff.1 hk).1).trans hk⟩
theorem KeepsCells.putObj {W : World} {l : Nat} {o : Obj} (o' : Obj) (hl : W.heap[l]? = some o) (ho : o.isCells = false) : KeepsCells W (W.putObj l o') :=
  ⟨(grownBy_putObj' W l o').size, fun k o2 hk h2 => ((grownBy_putObj' W l o').block k (Array.getElem?_eq_some_iff.1 hk).1 (fun e => by cases e; rw [hl] at hk; cases hk; rw [ho] at h2; cases h2)).trans hk⟩
theorem KeepsCells.of_grownBy {W W' : World} {b : Nat} {o : Obj} (hg : W.grownBy W' (some b)) (hb : W.heap[b]? = some o) (ho : o.isCells = false) : KeepsCells W W' :=
  ⟨hg.size, fun k o2 hk h2 => (hg.block k (Array.getElem?_eq_some_iff.1 hk).1 (fun e => by cases e; rw [hb] at hk; cases hk; rw [ho] at h2; cases h2)).trans hk⟩
theorem KeepsCells.cell {W W' : World} (h : KeepsCells W W') {a : Addr} {v : Value} (hc : W.cell? a = some v) : W'.cell? a = some v := by
  unfold World.cell? at hc ⊢
  cases hb : W.heap[a.block]? with
  | none => rw [hb] at hc; cases hc
  | some o =>
    cases ho : o.isCells with
    | true => rw [h.same _ _ hb ho]; rw [hb] at hc; exact hc
    | false => rw [hb] at hc; cases o <;> first | (simp at hc; done) | (simp [Obj.isCells] at ho; done)
/-- Some summaries, as their cells read: the items of each, behind an address that has room for three cells a summary. -/
def SL (w : World) (Al : Option Addr) (ls : List (List S51)) : Prop :=
  ∀ i, i < ls.length → ∃ ad, Al = some ad ∧ ∃ (K T : Int) (A : Option Addr) (c : Nat), w.cell? (ad.add (i * 3)) = some (.int .i64 K) ∧ w.cell? ⟨(ad.add (i * 3)).block, (ad.add (i * 3)).off + 1, none⟩ = some (.int .u64 T) ∧ w.cell? ⟨(ad.add (i * 3)).block, (ad.add (i * 3)).off + 2, none⟩ = some (.slice A (ls.getD i []).length c) ∧
    ∀ j, j < (ls.getD i []).length → ∃ a2, A = some a2 ∧ w.cell? (a2.add (j * 2)) = some (.int .u64 ((ls.getD i []).getD j z51).f0) ∧ w.cell? ⟨(a2.add (j * 2)).block, (a2.add (j * 2)).off + 1, none⟩ = some (.int .u64 ((ls.getD i []).getD j z51).f1)
theorem SL.kept {w w' : World} {Al : Option Addr} {ls : List (List S51)} (h : SL w Al ls) (hk : KeepsCells w w') : SL w' Al ls := fun i hi => by
  obtain ⟨ad, rfl, K, T, A, c, h1, h2, h3, h4⟩ := h i hi
  exact ⟨ad, rfl, K, T, A, c, hk.cell h1, hk.cell h2, hk.cell h3, fun j hj => by obtain ⟨a2, rfl, h5, h6⟩ := h4 j hj; exact ⟨a2, rfl, hk.cell h5, hk.cell h6⟩⟩
set_option maxRecDepth 100000 in
set_option maxHeartbeats 4000000 in
theorem all1_in (n : Nat) (hn : 1 ≤ n) (q Bl : Nat) (Al : Option Addr) (cl : Nat) (ls : List (List S51)) (J Jx : List S51 → World → Prop)
    (hY : ∀ pre x W, J pre W → pre.length < ls.flatten.length → YieldAt Fence.wide (n - 1) Try.prog q #[.int .u64 (x.f0 % 18446744073709551616), .int .u64 x.f1] W fun e W' =>
      (e = .returned (.bool true) ∧ J (pre ++ [x]) W' ∧ KeepsCells W W') ∨ (e = .returned (.bool false) ∧ Jx (pre ++ [x]) W'))
    (W : World) (hJ : AbidesFrom W.heap.size J) (hm : W.cell? ⟨Bl, 0, none⟩ = some (.slice Al ls.length cl)) (hsl : SL W Al ls) (hlen : ls.length < 1000) (hll : ∀ li ∈ ls, li.length < 1000) (hkey : ∀ li ∈ ls, ∀ x ∈ li, 0 ≤ x.f0 ∧ x.f0 < 18446744073709551616) (h0 : J [] W) :
    CallsIn Fence.wide n Try.prog 68 #[.func (.yield q) #[] #[], .pointer (some ⟨Bl, 0, none⟩)] W fun e W' => (∃ v, e = .returned v) ∧ ((∃ ss : List S51, ss = ls.flatten ∧ J ss W') ∨ (∃ pre, True ∧ Jx pre W')) := by
  have HSL := Aside0.mk hsl
  clear hsl
  refine callsIn_of_wp Try.func68 rfl trivial ?_ rfl
  simp only [Try.ntmps68, List.size_toArray, List.length_cons, List.length_nil, Nat.reduceAdd, Nat.reduceSub, Array.replicate_succ, Array.replicate_zero, List.push_toArray, List.append_toArray, List.nil_append, List.cons_append]
  gi_wp2
  gi_loopw [9] (fun v9 wr => ∃ i : Nat, v9 = .int .i64 i ∧ i ≤ ls.length ∧ J (ls.take i).flatten wr ∧ KeepsCells W wr) (fun v9 _ => ls.length - (intOf v9).toNat)
  case atStart => exact ⟨0, rfl, Nat.zero_le _, by simpa using h0, KeepsCells.refl W⟩
  case round =>
    obtain ⟨i, rfl, hi, hJi, hk⟩ := hrel
    by_cases hlt : i < ls.length
    · obtain ⟨ad, rfl, K, T, A, c, h1, h2, h3, h4⟩ := (HSL.out.kept hk) i hlt
      have hfl : (ls.take (i + 1)).flatten = (ls.take i).flatten ++ ls.getD i [] := by rw [List.take_succ_eq_append_getElem hlt, List.flatten_append]; simp [hlt]
      have hle : ((ls.take (i + 1)).flatten).length ≤ ls.flatten.length := by
        have e : ls.flatten = (ls.take (i + 1)).flatten ++ (ls.drop (i + 1)).flatten := by rw [← List.flatten_append, List.take_append_drop]
        rw [e, List.length_append]; omega
      rw [hfl, List.length_append] at hle
      have hlm : (ls.getD i []).length < 1000 := hll _ (by simp [hlt])
      have hlk : ∀ x ∈ ls.getD i [], 0 ≤ x.f0 ∧ x.f0 < 18446744073709551616 := hkey _ (by simp [hlt])
      generalize ls.getD i [] = li at *
      have HLK := Aside0.mk hlk
      clear hlk
      have HF := Aside0.mk hfl
      have HK := Aside0.mk hk
      have H4 := Aside0.mk h4
      have HJI := Aside0.mk hJi
      clear hk h4 hJi hfl
      gi_wp2
      gi_loopw [16] (fun v16 wq => ∃ j : Nat, v16 = .int .i64 j ∧ j ≤ li.length ∧ J ((ls.take i).flatten ++ li.take j) wq ∧ KeepsCells wr wq) (fun v16 _ => li.length - (intOf v16).toNat)
      case atStart => exact ⟨0, rfl, Nat.zero_le _, by simpa using hJ _ _ _ none HJI.out (World.grownBy_alloc _ _ none) (fun r e => by cases e), KeepsCells.alloc _ _⟩
      case round =>
        obtain ⟨j, rfl, hj, hJj, hkj⟩ := hrel
        by_cases hjl : j < li.length
        · obtain ⟨a2, rfl, h5, h6⟩ := H4.out j hjl
          have h5' := hkj.cell h5
          have h6' := hkj.cell h6
          have ht : li.take j ++ [li.getD j z51] = li.take (j + 1) := by rw [List.take_succ_eq_append_getElem hjl]; simp [hjl]
          have hxk := HLK.out (li.getD j z51) (by simp [hjl])
          generalize li.getD j z51 = x at *
          have hxm : x.f0 % 18446744073709551616 = x.f0 := Int.emod_eq_of_lt hxk.1 hxk.2
          have HT := Aside0.mk ht
          have HKJ := Aside0.mk hkj
          clear h5 h6 ht hkj h1 h2 h3
          have HJJ := Aside0.mk (hJ _ _ _ none hJj (World.grownBy_alloc wr (.cells #[.int .u64 x.f0, .int .u64 x.f1] 51) none) (fun r e => by cases e))
          clear hJj
          have hyx := hY ((ls.take i).flatten ++ li.take j) x _ HJJ.out (by rw [List.length_append, List.length_take]; omega)
          rw [hxm] at hyx
          obtain ⟨fn, tmps, assign, body, hy, hR⟩ := hyx
          clear hxm hxk
          gi_wp2
          refine hR.mono ?_
          rintro e W3 (⟨rfl, hJ3, hk3⟩ | ⟨rfl, hJx3⟩)
          · gi_wp2
            exact ⟨⟨j + 1, by simp, by omega, by rw [← HT.out, ← List.append_assoc]; exact hJ3, HKJ.out.trans ((KeepsCells.alloc _ _).trans hk3)⟩, by simp [intOf]; omega⟩
          · gi_wp2
            refine bodyPost_ret (results_none rfl _ _ _) rfl ?_
            exact ⟨⟨_, rfl⟩, .inr ⟨_, trivial, hJx3⟩⟩
        · obtain rfl : j = li.length := by omega
          gi_wp2
          rw [List.take_length] at hJj
          exact ⟨⟨i + 1, by simp, by omega, by rw [HF.out]; exact hJj, HK.out.trans hkj⟩, by simp [intOf]; omega⟩
    · obtain rfl : i = ls.length := by omega
      gi_wp2
      go_end0
      exact ⟨⟨_, rfl⟩, .inl ⟨_, rfl, by rw [List.take_length] at hJi; exact hJi⟩⟩
theorem all1_stops (n : Nat) (hn : 1 ≤ n) (Bl : Nat) (Al : Option Addr) (cl : Nat) (ls : List (List S51)) (w : World) (hBl : Bl < w.heap.size)
    (hm : w.cell? ⟨Bl, 0, none⟩ = some (.slice Al ls.length cl)) (hsl : SL w Al ls) (hlen : ls.length < 1000) (hll : ∀ li ∈ ls, li.length < 1000) (hkey : ∀ li ∈ ls, ∀ x ∈ li, 0 ≤ x.f0 ∧ x.f0 < 18446744073709551616) :
    SeqStopsK Fence.wide n Try.prog 68 #[.pointer (some ⟨Bl, 0, none⟩)] (fun x : S51 => #[Value.int .u64 (x.f0 % 18446744073709551616), Value.int .u64 x.f1]) KeepsCells (fun ss => ss = ls.flatten) (fun _ => True) ls.flatten.length w := fun q J Jx W hW hJ _ hY h0 =>
  all1_in n hn q Bl Al cl ls J Jx hY W hJ ((hW.cell (p := ⟨Bl, 0, none⟩) hBl).trans hm) (hsl.kept (KeepsCells.of_below hW)) hlen hll hkey h0
set_option maxHeartbeats 1000000 in
theorem all_in (n : Nat) (Al : Option Addr) (k cl : Nat) (w : World) :
    CallsIn Fence.wide n Try.prog 43 #[.slice Al k cl] w fun e w' => e = .returned (.func (.func 68) #[] #[.pointer (some ⟨w.heap.size, 0, none⟩)]) ∧ w' = w.alloc (.cells #[.slice Al k cl] 26) := by
  refine callsIn_of_wp Try.func43 rfl trivial ?_ rfl
  simp only [Try.ntmps43, List.size_toArray, List.length_cons, List.length_nil, Nat.reduceAdd, Nat.reduceSub, Array.replicate_succ, Array.replicate_zero, List.push_toArray, List.append_toArray, List.nil_append, List.cons_append]
  gi_wp2
  go_ret
  exact ⟨rfl, rfl⟩
end Go.Proofs.Ytohginlodlijkaa.PH

/-! join.Sums of some summaries: all keys, rising, each with what all say together. Conditions: fewer than 50 keys; the counts together are below 2^63. -/
namespace Go.Proofs.Ytohginlodlijkaa.PH
open Go.RowKit Go.Shelf Go.Maps Go.Proofs.YtohginlodlijkaaW.PrintWords Go.Proofs.YtohginlodlijkaaW.PrintLast Go.Proofs.YtohginlodlijkaaW.PrintMore
attribute [local go_sem] Oper.semAt_some
/-- What has come of each key. -/
def mergeL : List S51 → List S51 → List S51
  | acc, [] => acc
  | acc, x :: s => mergeL (putk acc x.f0 (getk acc x.f0 + x.f1)) s
theorem mergeL_snoc (x : S51) : ∀ (s acc : List S51), mergeL acc (s ++ [x]) = putk (mergeL acc s) x.f0 (getk (mergeL acc s) x.f0 + x.f1)
  | [], _ => rfl
  | _ :: s, _ => mergeL_snoc x s _
def totL : List S51 → Int
  | [] => 0
  | x :: s => x.f1 + totL s
theorem totL_append : ∀ (a b : List S51), totL (a ++ b) = totL a + totL b
  | [], b => by simp [totL]
  | x :: a, b => by simp only [List.cons_append, totL, totL_append a b]; omega
/-- What may be merged. -/
structure Mok (s : List S51) : Prop where
  key : ∀ x ∈ s, 0 ≤ x.f0 ∧ x.f0 < 18446744073709551616
  cnt : ∀ x ∈ s, 0 ≤ x.f1
  tot : totL s < 9223372036854775808
theorem totL_nonneg : ∀ {s : List S51}, (∀ x ∈ s, 0 ≤ x.f1) → 0 ≤ totL s
  | [], _ => by simp [totL]
  | x :: s, h => by have h1 := h x (by simp); have h2 := totL_nonneg (s := s) (fun y hy => h y (by simp [hy])); simp only [totL]; omega
theorem Mok.pre {a b : List S51} (h : Mok (a ++ b)) : Mok a := by
  refine ⟨fun x hx => h.key x (by simp [hx]), fun x hx => h.cnt x (by simp [hx]), ?_⟩
  have h1 := h.tot
  have h2 := totL_nonneg (s := b) (fun x hx => h.cnt x (by simp [hx]))
  rw [totL_append] at h1
  omega
theorem merge_rise : ∀ (s acc : List S51), Rise acc → Rise (mergeL acc s)
  | [], _, h => h
  | _ :: s, _, h => merge_rise s _ (putk_rise h _ _)
/-- No count is more than all that came. -/
theorem merge_wf : ∀ (s acc : List S51) (B : Int), Rise acc → (∀ x ∈ acc, 0 ≤ x.f0 ∧ x.f0 < 18446744073709551616 ∧ 0 ≤ x.f1 ∧ x.f1 ≤ B) → 0 ≤ B → (∀ x ∈ s, 0 ≤ x.f0 ∧ x.f0 < 18446744073709551616) → (∀ x ∈ s, 0 ≤ x.f1) →
    ∀ x ∈ mergeL acc s, 0 ≤ x.f0 ∧ x.f0 < 18446744073709551616 ∧ 0 ≤ x.f1 ∧ x.f1 ≤ B + totL s
  | [], acc, B, _, h, _, _, _ => fun x hx => by simpa [totL] using h x hx
  | y :: s, acc, B, hr, h, hB, hk, hc => fun x hx => by
    have hk1 := hk y (by simp)
    have hc1 := hc y (by simp)
    have hg : 0 ≤ getk acc y.f0 ∧ getk acc y.f0 ≤ B := by
      by_cases he : ∃ z ∈ acc, z.f0 = y.f0
      · obtain ⟨z, hz, e⟩ := he
        rw [← e, getk_mem hr hz]
        exact ⟨(h z hz).2.2.1, (h z hz).2.2.2⟩
      · rw [getk_none (fun z hz e => he ⟨z, hz, e⟩)]
        omega
    have := merge_wf s (putk acc y.f0 (getk acc y.f0 + y.f1)) (B + y.f1) (putk_rise hr _ _) (fun z hz => by
      rcases putk_mem hz with rfl | hz
      · simp only []; omega
      · have := h z hz; omega) (by omega) (fun z hz => hk z (by simp [hz])) (fun z hz => hc z (by simp [hz])) x hx
    simp only [totL]
    omega
theorem Mok.wf {s : List S51} (h : Mok s) : Wf (mergeL [] s) := fun x hx => by
  have := merge_wf s [] 0 List.Pairwise.nil (by simp) (by omega) h.key h.cnt x hx
  have h2 := h.tot
  simp [Lit.wf, IntKind.min, IntKind.max, IntKind.signed, IntKind.bits]
  omega
theorem Mok.get {s : List S51} {x : S51} (h : Mok (s ++ [x])) : 0 ≤ getk (mergeL [] s) x.f0 ∧ getk (mergeL [] s) x.f0 + x.f1 < 9223372036854775808 := by
  have h1 := h.tot
  rw [totL_append] at h1
  simp only [totL] at h1
  have hr := merge_rise s [] List.Pairwise.nil
  by_cases he : ∃ z ∈ mergeL [] s, z.f0 = x.f0
  · obtain ⟨z, hz, e⟩ := he
    rw [← e, getk_mem hr hz]
    have := merge_wf s [] 0 List.Pairwise.nil (by simp) (by omega) h.pre.key h.pre.cnt z hz
    omega
  · rw [getk_none (fun z hz e => he ⟨z, hz, e⟩)]
    have := totL_nonneg h.pre.cnt
    omega
/-- The same, as the machine reckons. -/
def mergeW : List S51 → List S51 → List S51
  | acc, [] => acc
  | acc, x :: s => mergeW (putk acc (x.f0 % 18446744073709551616) (IntKind.u64.wrap (getk acc (x.f0 % 18446744073709551616) + x.f1))) s
theorem mergeW_snoc (x : S51) : ∀ (s acc : List S51), mergeW acc (s ++ [x]) = putk (mergeW acc s) (x.f0 % 18446744073709551616) (IntKind.u64.wrap (getk (mergeW acc s) (x.f0 % 18446744073709551616) + x.f1))
  | [], _ => rfl
  | _ :: s, _ => mergeW_snoc x s _
theorem mergeW_rise : ∀ (s acc : List S51), Rise acc → Rise (mergeW acc s)
  | [], _, h => h
  | _ :: s, _, h => mergeW_rise s _ (putk_rise h _ _)
theorem Mok.same {s : List S51} (h : Mok s) : mergeW [] s = mergeL [] s := by
  have key : ∀ (n : Nat), n ≤ s.length → mergeW [] (s.take n) = mergeL [] (s.take n) := by
    intro n
    induction n with
    | zero => intro _; rfl
    | succ n ih =>
      intro hn
      have hn' : n < s.length := by omega
      rw [List.take_succ_eq_append_getElem hn', mergeW_snoc, mergeL_snoc, ih (by omega)]
      have hM : Mok (s.take n ++ [s[n]]) := by
        rw [← List.take_succ_eq_append_getElem hn']
        have := List.take_append_drop (n + 1) s
        exact Mok.pre (b := s.drop (n + 1)) (by rw [this]; exact h)
      obtain ⟨h1, h2⟩ := hM.get
      have hk := h.key s[n] (List.getElem_mem hn')
      have hc := h.cnt s[n] (List.getElem_mem hn')
      rw [Int.emod_eq_of_lt hk.1 hk.2, IntKind.wrap_u64, Int.emod_eq_of_lt (by omega) (by omega)]
  have := key s.length (Nat.le_refl _)
  rwa [List.take_length] at this
theorem own_kept {W W' : World} {b nn : Nat} {l : List S51} (h : W.ownsMap Try.prog 27 (plainElem Try.prog 27) b nn (mapD l)) (e : W'.heap[b]? = W.heap[b]?) : W'.ownsMap Try.prog 27 (plainElem Try.prog 27) b nn (mapD l) := by
  obtain ⟨es, clock, hb, Ft, hs, hD⟩ := h
  exact ⟨es, clock, e.trans hb, Ft, hs, hD⟩
theorem own_notCells {W : World} {b nn : Nat} {l : List S51} (h : W.ownsMap Try.prog 27 (plainElem Try.prog 27) b nn (mapD l)) : ∃ o : Obj, W.heap[b]? = some o ∧ o.isCells = false := by
  obtain ⟨es, clock, hb, _⟩ := h
  exact ⟨_, hb, rfl⟩
/-- What holds in the loop over the sequence: the map, in its box. -/
structure SI (w : World) (b B : Nat) (pre : List S51) (W : World) : Prop where
  box : Boxed W B 75 (.map (some b))
  map : W.ownsMap Try.prog 27 (plainElem Try.prog 27) b pre.length (mapD (mergeW [] pre))
  bel : Below w.heap.size w W
theorem SI.own {w : World} {b B C : Nat} (hw : w.heap.size ≤ C) (hb : b < C) (hB : B < C) : OwnFrom C (SI w b B) := fun pre W W' row h hg hr => by
  have hne : ∀ k, k < C → some k ≠ row := fun k hk e => by have := (hr k e.symm).1; omega
  exact ⟨h.box.kept hg (hne B hB), own_kept h.map (hg.block b h.map.lt (hne b hb)), h.bel.grown hg h.bel.size (fun k e => by have := (hr k e).1; omega)⟩
/-- A row of items is the same behind the deferred calls' record, and its base may be lower. -/
theorem sums_row {W : World} {base base' D : Nat} {v : Value} {l : List S51} {o o' : Obj} (h : Kd.R k51 51 W base (fun _ => True) v l) (hD : W.heap[D]? = some o) (hb : base' ≤ base) (ho : o.isCells = false := by rfl) : Kd.R k51 51 (W.putObj D o') base' (fun _ => True) v l ∧ True := by
  obtain ⟨h1, inner, h2, h3⟩ := h
  refine ⟨⟨h1, inner, own_weaken (ownsRow_putObj h2 o' hD ho) hb, ?_⟩, trivial⟩
  exact h3
set_option maxRecDepth 100000 in
set_option maxHeartbeats 8000000 in
theorem sums_calls (Al : Option Addr) (cl : Nat) (ls : List (List S51)) (w : World) (hsl : SL w Al ls) (hlen : ls.length < 1000) (hll : ∀ li ∈ ls, li.length < 1000) (hfl : ls.flatten.length < 1000000) (hM : Mok ls.flatten) (hk : (mergeL [] ls.flatten).length < 50) :
    Calls Try.prog 20 #[.slice Al ls.length cl] w fun e w' => ∃ v, e = .returned v ∧ Kd.R k51 51 w' w.heap.size (fun _ => True) v (mergeL [] ls.flatten) ∧ Below w.heap.size w w' := by
  have hmm := @run_makeMap Try.prog
  have HSL := Aside0.mk hsl
  have HM := Aside0.mk hM
  have HLL := Aside0.mk hll
  clear hsl hM hll
  refine (callsIn_wide (n := 6)).1 ?_
  refine callsIn_of_wp_marks Try.func20 rfl trivial ?_ rfl
  refine wpIn_wide.2 ?_
  simp only [Try.ntmps20, List.size_toArray, List.length_cons, List.length_nil, Nat.reduceAdd, Nat.reduceSub, Array.replicate_succ, Array.replicate_zero, List.push_toArray, List.append_toArray, List.nil_append, List.cons_append]
  go_wp2_with (go_at_call 43; refine ((callsIn_wide (n := 1)).1 (all_in 1 _ _ _ _)).mono ?_; rintro e w1 ⟨rfl, rfl⟩)
  have hB0 : Below w.heap.size w (((w.alloc (.map #[] 0)).alloc (.cells #[.map (some w.heap.size)] 75)).alloc (.cells #[.slice Al ls.length cl] 26)) := (((Below.refl _ w).alloc (Nat.le_refl _) _).alloc (by simp) _).alloc (by simp; omega) _
  have hz : (((w.alloc (.map #[] 0)).alloc (.cells #[.map (some w.heap.size)] 75)).alloc (.cells #[.slice Al ls.length cl] 26)).heap.size = w.heap.size + 3 := by simp
  have hI0 : SI w w.heap.size (w.heap.size + 1) [] (((w.alloc (.map #[] 0)).alloc (.cells #[.map (some w.heap.size)] 75)).alloc (.cells #[.slice Al ls.length cl] 26)) := by
    refine ⟨?_, ?_, hB0⟩
    · have := (Boxed.new (w.alloc (.map #[] 0)) 75 (.map (some w.heap.size))).alloc (.cells #[.slice Al ls.length cl] 26)
      simpa using this
    · have := World.ownsMap_made (H := Unit) w Try.prog 27 (plainElem Try.prog 27)
      exact ((by simpa [mapD] using this : (w.alloc (.map #[] 0)).ownsMap Try.prog 27 (plainElem Try.prog 27) w.heap.size 0 (mapD [])).alloc _).alloc _
  have hm : (((w.alloc (.map #[] 0)).alloc (.cells #[.map (some w.heap.size)] 75)).alloc (.cells #[.slice Al ls.length cl] 26)).cell? ⟨w.heap.size + 1 + 1, 0, none⟩ = some (.slice Al ls.length cl) := by
    have := (Boxed.new ((w.alloc (.map #[] 0)).alloc (.cells #[.map (some w.heap.size)] 75)) 26 (.slice Al ls.length cl)).cell
    simpa using this
  generalize (((w.alloc (.map #[] 0)).alloc (.cells #[.map (some w.heap.size)] 75)).alloc (.cells #[.slice Al ls.length cl] 26)) = W0 at *
  have HZ := Aside0.mk hz
  clear hz hmm
  have hsl0 : SL W0 Al ls := HSL.out.kept (KeepsCells.of_below hB0)
  refine (wpIn_wide (n := 6)).1 ?_
  refine wpIn_rangeFunc_ownG rfl (by omega) (gf := 68) (lb := #[.pointer (some ⟨w.heap.size + 1 + 1, 0, none⟩)]) rfl trivial (enters_of Try.func68 (by kernel_rfl) rfl)
    (all1_stops 5 (by omega) (w.heap.size + 1 + 1) Al cl ls W0 (by rw [HZ.out]; omega) hm hsl0 hlen HLL.out (fun li hli x hx => HM.out.key x (List.mem_flatten.2 ⟨li, hli, hx⟩))) KeepsCells.trans (fun W l o o' _ hl ho _ => KeepsCells.putObj o' hl ho) (Below.refl _ W0) (fun _ => rfl)
    (SI w w.heap.size (w.heap.size + 1)) (fun _ _ _ => False) (SI.own (by rw [HZ.out]; omega) (by rw [HZ.out]; omega) (by rw [HZ.out]; omega)) (fun _ _ _ _ _ hs _ _ => hs) hI0
    (fun x => { tmps := #[.slice Al ls.length cl, undef, .slice none 0 0, .pointer (some ⟨w.heap.size + 1, 0, none⟩), .int .u64 (x.f0 % 18446744073709551616), .int .u64 x.f1, undef, undef, undef, .map (some w.heap.size), .slice Al ls.length cl, .func (.func 68) #[] #[.pointer (some ⟨w.heap.size + 1 + 1, 0, none⟩)], .int .u64 (x.f0 % 18446744073709551616), .int .u64 x.f1, undef, undef, undef, undef, undef, undef, undef, undef, undef, undef, undef, undef, undef, undef, undef, undef, undef, undef, undef, undef, undef, undef, undef], defers := [] }) ?assign ?body ?done ?stop
  case assign =>
    intro l x W K hK
    gi_wp2
    exact hK
  case body =>
    rintro l pre x W hI hlt
    have hc := hI.box.cell
    have hlk : pre.length < maxLen := by unfold maxLen; omega
    have hx0 : 0 ≤ x.f0 % 18446744073709551616 := Int.emod_nonneg _ (by omega)
    have hx1 : x.f0 % 18446744073709551616 < 18446744073709551616 := Int.emod_lt_of_pos _ (by omega)
    have hwk : (Lit.int .u64 (x.f0 % 18446744073709551616)).wf = true := by
      simp [Lit.wf, IntKind.min, IntKind.max, IntKind.signed, IntKind.bits]; omega
    have hwv : (Lit.int .u64 (IntKind.u64.wrap (getk (mergeW [] pre) (x.f0 % 18446744073709551616) + x.f1))).wf = true := by
      rw [IntKind.wrap_u64]
      simp [Lit.wf, IntKind.min, IntKind.max, IntKind.signed, IntKind.bits]; omega
    have HI := Aside0.mk hI
    have hsn := Aside0.mk (mergeW_snoc x pre [])
    generalize x.f0 % 18446744073709551616 = y at *
    clear hI hx0 hx1
    gi_wp2_with (first
      | (gi_at_lookup; refine wpListIn_lookup_own_int _ rfl _ _ 75 rfl 27 27 .u64 law27 Try.underlying75 Try.underlying27 (zeroE27 _) w.heap.size pre.length _ rfl HI.out.map _ _ rfl (keyOf_int_mk Try.underlying27 hwk) ?_; intro c2 hat2 _; obtain rfl : c2 = getk (mergeW [] pre) y := by (rw [mapD_at] at hat2; simpa using hat2.symm))
      | (gi_at_mapUpdate; refine wpListIn_mapUpdate_own _ rfl _ _ _ 75 rfl 27 27 law27 Try.underlying75 _ w.heap.size pre.length _ rfl HI.out.map hlk _ _ _ rfl rfl (keyOf_int_mk Try.underlying27 hwk) _ [] (plainElem_int Try.underlying27 hwv) ?_; intro w1 hown1 hgrow1)
      | gi_in)
    obtain ⟨o, ho1, ho2⟩ := own_notCells HI.out.map
    rw [mapD_put _ _ _ (mergeW_rise pre [] List.Pairwise.nil), ← hsn.out] at hown1
    have hBl := HI.out.box.lt
    exact ⟨KeepsFrom.of_grownBy hgrow1 (fun j e => by cases e; rw [HZ.out]; omega), KeepsCells.of_grownBy hgrow1 ho1 ho2, HI.out.box.kept hgrow1 (by simp), by simpa using hown1, HI.out.bel.grown hgrow1 HI.out.bel.size (fun k e => by cases e; exact Nat.le_refl _)⟩
  case done =>
    rintro D ys W hD hS hI hK
    subst hS
    obtain ⟨hbx, hmp, hbl⟩ := hI
    rw [HM.out.same] at hmp
    have hrise := merge_rise ls.flatten [] List.Pairwise.nil
    have hwf := HM.out.wf
    have hc := hbx.cell
    have HKD := Aside0.mk hK
    have hDl := (Array.getElem?_eq_some_iff.1 hK).1
    have hbxl := hbx.lt
    have hmpl := hmp.lt
    have hwW := hbl.size
    have HBL := Aside0.mk hbl
    generalize hml : mergeL [] ls.flatten = l at *
    replace hml := Aside0.mk hml
    generalize ls.flatten.length = nn at *
    have hown1 : (W.alloc (.cells #[.map (some w.heap.size)] 75)).ownsMap Try.prog 27 (plainElem Try.prog 27) w.heap.size nn (mapD l) := hmp.alloc _
    have HSo := Aside0.mk (sorted_calls W.heap.size w.heap.size nn l hrise hk (W.alloc (.cells #[.map (some w.heap.size)] 75)) (by simp) (by simp) hown1)
    have HR := Aside0.mk hrise
    have HW := Aside0.mk hwf
    have HO := Aside0.mk hmp
    have HBX := Aside0.mk hbx
    clear hrise hwf hK hmp hown1 hbx hbl HM HSL HLL
    go_wp2_with (first
      | (go_at_call 45; refine (keys_calls _ _).mono ?_; rintro e w1 ⟨rfl, rfl⟩)
      | (go_at_call 44; refine HSo.out.mono ?_; rintro e w2 ⟨v, rfl, hr2, hb2⟩
         obtain ⟨A, cap, rfl⟩ := Kd.R_slice hr2
         rw [List.length_map]))
    have hBW : Below W.heap.size W w2 := ((Below.refl W.heap.size W).alloc (Nat.le_refl _) (.cells #[.map (some w.heap.size)] 75)).trans (hb2.mono (by simp))
    have HC := (Kd.R_reads' hr2).2.2
    rw [List.length_map] at HC
    replace HC := Aside0.mk HC
    have hsz : W.heap.size < w2.heap.size := by have := hb2.size; simp at this; omega
    have HB2 := Aside0.mk hBW
    clear hr2 hb2
    have HO2 : Aside0 (w2.ownsMap Try.prog 27 (plainElem Try.prog 27) w.heap.size nn (mapD l)) := ⟨own_kept HO.out (HB2.out.block _ hmpl)⟩
    have HX2 : Aside0 (Boxed w2 (w.heap.size + 1) 75 (.map (some w.heap.size))) := ⟨(HB2.out.block _ hbxl).trans HBX.out⟩
    have HD2 : Aside0 (w2.heap[D]? = some (.deferred (some []))) := ⟨(HB2.out.block _ hDl).trans HKD.out⟩
    clear HO HBX HKD hBW
    go_loopw [6, 23] (fun v i wr => ∃ k : Nat, k ≤ l.length ∧ i = .int .i64 k ∧ Kd.R k51 51 wr w2.heap.size (fun _ => True) v (l.take k) ∧ Below w2.heap.size w2 wr)
      (fun _ i _ => l.length - (intOf i).toNat)
    case atStart => exact ⟨0, Nat.zero_le _, rfl, Kd.R_nil _ _ _ _ _, Below.refl _ _⟩
    case round =>
      obtain ⟨k, hk1, rfl, hv, hnx⟩ := hrel
      by_cases hlt : k < l.length
      · obtain ⟨ad, e1, hc0⟩ := Kd.at_int HC.out (k : Int) (by omega) (by omega)
        cases e1
        have hbk : ad.block < w2.heap.size := by have := World.block_lt_of_cell? w2 _ hc0; rwa [addr_block] at this
        have hc0' := (hnx.cell (p := ad.add ((k : Int).toNat)) (by rw [addr_block]; exact hbk)).trans hc0
        have e2 : rd (l.map (·.f0)) (k : Int) = (l.getD k z51).f0 := by simp [rd, hlt]
        rw [e2, Int.toNat_natCast] at hc0'
        have hmem : l.getD k z51 ∈ l := by simp [hlt]
        have HT := Aside0.mk (show l.take k ++ [l.getD k z51] = l.take (k + 1) by rw [List.take_succ_eq_append_getElem hlt]; simp [hlt])
        obtain ⟨hw0, hw1⟩ := HW.out _ hmem
        have HG := Aside0.mk (getk_mem HR.out hmem)
        clear hc0 hmem e2 hc
        generalize l.getD k z51 = z at *
        have HN := Aside0.mk hnx
        have HO3 : Aside0 (wr.ownsMap Try.prog 27 (plainElem Try.prog 27) w.heap.size nn (mapD l)) := ⟨own_kept HO2.out (hnx.block _ (by omega))⟩
        have hcx : wr.cell? ⟨w.heap.size + 1, 0, none⟩ = some (.map (some w.heap.size)) := (hnx.cell (p := ⟨w.heap.size + 1, 0, none⟩) (by show w.heap.size + 1 < _; omega)).trans HX2.out.cell
        have hs2 : w2.heap.size ≤ wr.heap.size := hnx.size
        have HV := Aside0.mk hv
        clear hnx hv
        go_wp2_with (first
          | (at_lookup; refine wpList_lookup_own_int _ rfl _ _ 75 rfl 27 27 .u64 law27 Try.underlying75 Try.underlying27 (zeroE27 _) w.heap.size nn _ rfl HO3.out _ _ rfl (keyOf_int_mk Try.underlying27 hw0) ?_; intro c2 hat2 _; obtain rfl : c2 = z.f1 := by (rw [mapD_at, HG.out] at hat2; simpa using hat2.symm))
          | (at_builtin; refine Kd.R_append k51 (w0 := w2) w2.heap.size rfl (.tmp 27) (.tmp 33) 28 51 (.agg #[(.int .u64 0), (.int .u64 0)]) 16 rfl Try.underlying28 info51 rfl (by decide) (by omega) _ (l.take k) z [.int .u64 z.f0, .int .u64 z.f1] (fun _ => True) (fun _ => False) rfl rfl (k51_mkM _ _ _ z) (fun _ hk => hk.elim) (fun _ _ => trivial) HV.out HN.out hs2 (by rw [List.length_take]; omega) ?_; intro v1 w3 hv1 hb3 _ _)
          | go_in)
        exact ⟨⟨k + 1, by omega, by simp, by rw [← HT.out]; exact hv1, hb3⟩, by simp [intOf]; omega⟩
      · obtain rfl : k = l.length := by omega
        have hKr : wr.heap[D]? = some (.deferred (some [])) := (hnx.block _ (by omega)).trans HD2.out
        clear hc
        go_wp2
        rw [List.take_length] at hv
        have hw2 : w.heap.size ≤ w2.heap.size := by omega
        refine ⟨by simp, .inl ⟨_, _, rfl, run_takeDeferred hKr, ?_⟩⟩
        refine ⟨_, results_tmp rfl _ _ _, u6, rfl, by rw [hml.out]; exact (sums_row hv hKr hw2).1, ?_⟩
        exact (HBL.out.trans ((HB2.out.mono hwW).trans (hnx.mono hw2))).trans (belowK_b (w := w) (Nat.le_refl _) wr D _ _ (by rw [HZ.out] at hD; omega) hKr rfl rfl)
  case stop =>
    rintro D c pre W _ _ h _
    exact h.elim
end Go.Proofs.Ytohginlodlijkaa.PH
