/- maps.Keys, slices.AppendSeq, slices.Collect over a map of counts. Condition: at most 1000000 of them. (keys1_in is turned from the how-to's GgCollectAtTheDump.) -/
import Derived.RangeFuncBox
import Derived.RangeFuncGives
import Derived.RangeFuncNested
import Derived.RangeFuncLeaves
import Derived.RangeFuncWrites
import Derived.Shelf.Abstract
import Derived.OwnWalkIn
import Derived.TacticsInMore
import Derived.LoopNIn
import Derived.LoopIn
import Derived.Maps.OwnIn
import Derived.Maps.AppendAt
import Derived.Test.YtohginlodlijkaaHw
namespace Go.Proofs.Ytohginlodlijkaa.PH
open Go.RowKit Go.Shelf Go.Maps Go.Proofs.YtohginlodlijkaaW.PrintWords Go.Proofs.YtohginlodlijkaaW.PrintLast Go.Proofs.YtohginlodlijkaaW.PrintMore
attribute [local go_sem] Oper.semAt_some

theorem own_not_walk {W : World} {base : Nat} {e : TypeId} {size : Nat} {v : Value} {k : Nat} {xs : List Value} (h : W.ownsRow base e size v k xs) : ∀ (j : Nat) (o : Obj), v.ownBlock = some j → W.heap[j]? = some o → o.isWalk = false := by
  intro j o hj ho
  rcases h.2 with ⟨rfl, _⟩ | ⟨g, cap, cur, rfl, _, hgb, _⟩
  · simp [Value.ownBlock] at hj
  · have : g = j := by simpa [Value.ownBlock] using hj
    subst this; rw [hgb] at ho; cases ho; rfl
theorem info27u : (Try.prog.info? 27).map (fun i => (i.zero, i.size, i.bytes)) = some (some (.int .u64 0), 1, 8) := by kernel_rfl
/-- What has come of the keys: each once, those that are no longer left. -/
def Coll (l : List S51) (left : Lit → Bool) (ss : List Int) : Prop := ss.Nodup ∧ ∀ x, x ∈ ss ↔ (hask l x = true ∧ left (.int .u64 x) = false)
theorem Coll.start (l : List S51) : Coll l (Maps.has (mapD l)) [] := ⟨List.nodup_nil, fun x => by rw [mapD_has]; cases hask l x <;> simp⟩
theorem Coll.step {l : List S51} {left : Lit → Bool} {ss : List Int} {x c : Int} (h : Coll l left ss) (hlk : left (.int .u64 x) = true) (hat : ∀ zd : DataW Unit, (mapD l).atKey (.int .u64 x) zd = .lit (.int .u64 c)) :
    Coll l (fun z => left z && !z.sameKey (.int .u64 x)) (ss ++ [x]) := by
  have hx : x ∉ ss := fun hm => by have := ((h.2 x).1 hm).2; rw [hlk] at this; cases this
  refine ⟨List.nodup_append.2 ⟨h.1, by simp, fun a ha b hb => by simp at hb; subst hb; exact fun e => hx (e ▸ ha)⟩, fun y => ?_⟩
  rw [List.mem_append, h.2 y]
  by_cases hy : y = x
  · subst hy
    have : hask l y = true := hask_iff.2 ⟨_, mapD_find hat, rfl⟩
    simp [this, same_u64]
  · simp [hy, same_u64]
theorem Coll.perm {l : List S51} {left : Lit → Bool} {ss : List Int} (h : Coll l left ss) (hr : Rise l) (hl : ∀ kl, left kl = false) : ss.Perm (l.map (·.f0)) := by
  refine (List.perm_ext_iff_of_nodup h.1 ?_).2 fun x => ?_
  · exact List.pairwise_map.2 (hr.imp fun {a b} hab e => by omega)
  · rw [h.2 x, hask_iff]
    simp [hl]

set_option maxRecDepth 100000 in
set_option maxHeartbeats 1000000 in
theorem keys1_in (n : Nat) (hn : 1 ≤ n) (q Bm b nn : Nat) (l : List S51) (hr : Rise l) (J Jx : List Int → World → Prop)
    (hY : ∀ pre x W, J pre W → pre.length < l.length → YieldAt Fence.wide (n - 1) Try.prog q #[.int .u64 x] W fun e W' =>
      (e = .returned (.bool true) ∧ J (pre ++ [x]) W' ∧ KeepsWalks W W') ∨ (e = .returned (.bool false) ∧ Jx (pre ++ [x]) W'))
    (W : World) (hJ : AbidesFrom W.heap.size J) (hm : W.cell? ⟨Bm, 0, none⟩ = some (.map (some b))) (hown : W.ownsMap Try.prog 27 (plainElem Try.prog 27) b nn (mapD l)) (h0 : J [] W) :
    CallsIn Fence.wide n Try.prog 70 #[.func (.yield q) #[] #[], .pointer (some ⟨Bm, 0, none⟩)] W fun e W' => (∃ v, e = .returned v) ∧ ((∃ ss : List Int, ss.Perm (l.map (·.f0)) ∧ J ss W') ∨ (∃ pre, True ∧ Jx pre W')) := by
  have HR := Aside0.mk hr
  clear hr
  refine callsIn_of_wp Try.func70 rfl trivial ?_ rfl
  simp only [Try.ntmps70, List.size_toArray, List.length_cons, List.length_nil, Nat.reduceAdd, Nat.reduceSub, Array.replicate_succ, Array.replicate_zero, List.push_toArray, List.append_toArray, List.nil_append, List.cons_append]
  gi_wp2_with (first
    | (gi_at_range; refine wpListIn_range_own _ rfl _ 75 rfl 27 27 law27 Try.underlying75 _ b nn _ rfl hown ?_; intro w0 hrg0 hg0 hs0)
    | gi_in)
  go_frame
  gi_loopw [3] (fun _ wr => ∃ (left : Lit → Bool) (cnt : Nat) (ss : List Int), wr.ranges Try.prog 27 (plainElem Try.prog 27) b W.heap.size nn (mapD l) left cnt ∧ ss.length + cnt ≤ l.length ∧ Coll l left ss ∧ J ss wr)
    (fun _ wr => wr.rangeLeft b W.heap.size)
  case atStart =>
    exact ⟨_, _, [], hrg0, by simp [mapD_size], Coll.start l, hJ [] W w0 none h0 hg0 (fun r e => by cases e)⟩
  case round =>
    obtain ⟨left, cnt, ss, hrg, hcs, hC, hJs⟩ := hrel
    gi_wp2_with (first
      | (gi_at_next; refine wpListIn_next_ranges_ii _ rfl _ rfl 27 27 .u64 .u64 law27 Try.underlying27 Try.underlying27 b W.heap.size nn _ _ _ rfl hrg ?_ ?_)
      | gi_in)
    · intro _ hl0
      gi_wp2
      go_end0
      exact ⟨⟨_, rfl⟩, .inl ⟨ss, hC.perm HR.out hl0, hJs⟩⟩
    · intro x c w2 cnt2 hwx hwc hlk hat hrg2 hlt hg2 hs2 hen
      have hJ2 : J ss w2 := hJ ss wr w2 (some W.heap.size) hJs hg2 (fun r e => by cases e; exact ⟨Nat.le_refl _, hrg.iter_walk⟩)
      obtain ⟨fn, tmps, assign, body, hy, hR⟩ := hY ss x w2 hJ2 (by omega)
      clear hs2
      gi_wp2
      refine hR.mono ?_
      rintro e W3 (⟨rfl, hJ3, hk3⟩ | ⟨rfl, hJx3⟩)
      · gi_wp2
        have hrg3 := hrg2.of_walks hk3
        go_roundw
        case rel => exact ⟨_, cnt2, ss ++ [x], hrg3, by simp; omega, hC.step hlk hat, hJ3⟩
        case measure => rw [hrg3.left_eq, hrg.left_eq]; exact hlt
      · gi_wp2
        refine bodyPost_ret (results_none rfl _ _ _) rfl ?_
        exact ⟨⟨_, rfl⟩, .inr ⟨_, trivial, hJx3⟩⟩

theorem keys_stops (n : Nat) (hn : 1 ≤ n) (Bm b nn : Nat) (l : List S51) (hr : Rise l) (w : World) (hBm : Bm < w.heap.size)
    (hm : w.cell? ⟨Bm, 0, none⟩ = some (.map (some b))) (hown : w.ownsMap Try.prog 27 (plainElem Try.prog 27) b nn (mapD l)) :
    SeqStopsK Fence.wide n Try.prog 70 #[.pointer (some ⟨Bm, 0, none⟩)] (fun c : Int => #[Value.int .u64 c]) KeepsWalks (fun ss => ss.Perm (l.map (·.f0))) (fun _ => True) l.length w := fun q J Jx W hW hJ _ hY h0 => by
  have hown' : W.ownsMap Try.prog 27 (plainElem Try.prog 27) b nn (mapD l) := by
    have hbl := hown.lt
    obtain ⟨es, clock, hb, Ft, hs, hD⟩ := hown
    exact ⟨es, clock, (hW.block b hbl).trans hb, Ft, hs, hD⟩
  exact keys1_in n hn q Bm b nn l hr J Jx hY W hJ ((hW.cell (p := ⟨Bm, 0, none⟩) hBm).trans hm) hown' h0

set_option maxHeartbeats 1000000 in
theorem keys_in (n b : Nat) (w : World) :
    CallsIn Fence.wide n Try.prog 45 #[.map (some b)] w fun e w' => e = .returned (.func (.func 70) #[] #[.pointer (some ⟨w.heap.size, 0, none⟩)]) ∧ w' = w.alloc (.cells #[.map (some b)] 75) := by
  refine callsIn_of_wp Try.func45 rfl trivial ?_ rfl
  simp only [Try.ntmps45, List.size_toArray, List.length_cons, List.length_nil, Nat.reduceAdd, Nat.reduceSub, Array.replicate_succ, Array.replicate_zero, List.push_toArray, List.append_toArray, List.nil_append, List.cons_append]
  gi_wp2
  go_ret
  exact ⟨rfl, rfl⟩

set_option maxRecDepth 100000 in
set_option maxHeartbeats 4000000 in
theorem appendSeq_in (n : Nat) (hn : 2 ≤ n) (g : Nat) (lb : Array Value) (eg : ∀ args w, (callFunc g args).run Try.prog w = .ok (.enter g args) w)
    (S : List Int → Prop) (N : Nat) (hN : N ≤ 1000000) (w : World) (hseq : SeqStopsK Fence.wide (n - 1) Try.prog g lb (fun c : Int => #[Value.int .u64 c]) KeepsWalks S (fun _ => True) N w) :
    CallsIn Fence.wide n Try.prog 84 #[.slice none 0 0, .func (.func g) #[] lb] w fun e W' => ∃ (v : Value) (ss : List Int), e = .returned v ∧ S ss ∧ W'.ownsRow w.heap.size 27 1 v ss.length (ss.map (Value.int .u64)) ∧ Below w.heap.size w W' := by
  obtain ⟨i0, hi, hz0, hz1, hz2⟩ := info_parts info27u
  refine callsIn_of_wp_marks Try.func84 rfl trivial ?_ rfl
  simp only [Try.ntmps84, List.size_toArray, List.length_cons, List.length_nil, Nat.reduceAdd, Nat.reduceSub, Array.replicate_succ, Array.replicate_zero, List.push_toArray, List.append_toArray, List.nil_append, List.cons_append]
  gi_wp2
  have bO := Boxed.new w 69 (.slice none 0 0)
  have hB0 : Below w.heap.size w (w.alloc (.cells #[.slice none 0 0] 69)) := (Below.refl _ w).alloc (Nat.le_refl _) _
  have hz : (w.alloc (.cells #[.slice none 0 0] 69)).heap.size = w.heap.size + 1 := by simp
  generalize (w.alloc (.cells #[.slice none 0 0] 69)) = W0 at *
  have HZ := Aside0.mk hz
  clear hz
  refine wpIn_rangeFunc_ownG rfl (by omega) (gf := g) (lb := lb) rfl trivial eg hseq KeepsWalks.trans (fun W l o o' _ hl _ hw => KeepsWalks.putObj o' hl hw) hB0 (fun _ => rfl)
    (fun (pre : List Int) W => (∃ v, Boxed W w.heap.size 69 v ∧ W.ownsRow (w.heap.size + 1) 27 1 v pre.length (pre.map (Value.int .u64)) ∧ True) ∧ Below w.heap.size w W)
    (fun _ _ _ => False)
    (OwnFrom.and (Own.from (holdsRow_own (w.heap.size + 1) w.heap.size 69 27 1 (fun (pre : List Int) => pre.length) (fun pre => pre.map (Value.int .u64)) (fun _ _ => True)) _) (ownFrom_below (Nat.le_refl _) (by rw [HZ.out]; omega)))
    (fun _ _ _ _ _ hs _ _ => hs)
    ⟨⟨_, bO, World.ownsRow_nil _ _ _ _, trivial⟩, hB0⟩
    (fun c => { tmps := #[.slice none 0 0, .func (.func g) #[] lb, .pointer (some ⟨w.heap.size, 0, none⟩), undef, .slice none 0 0, .int .u64 c, .func (.func g) #[] lb, .int .u64 c, undef, undef, undef, undef, undef], defers := [] }) ?assign ?body ?done ?stop
  case assign =>
    intro l x W K hK
    gi_wp2
    exact hK
  case body =>
    rintro l pre c W ⟨⟨v, hv, hrow, _⟩, hB⟩ hlt
    have hc := hv.cell
    have h4 : w.heap.size + 1 ≤ W.heap.size := by have := hv.lt; omega
    have HB := Aside0.mk hB
    clear hB
    gi_wp2_with (gi_at_builtin; refine wpListIn_append_own _ rfl _ _ 69 rfl (w.heap.size + 1) 27 i0 (.int .u64 0) 1 8 Try.underlying69 hi hz0 hz1 hz2 rfl (by decide) _ _ _ rfl (hrow.alloc _) ⟨W.heap.size, 0, none⟩ 1 1 [.int .u64 c] rfl rfl (cell_one_new _ _ _) (by simp [Value.oneCell']) (by unfold maxLen; omega) (by omega) (by simp; omega) ?_; intro v' w1 hown' hgrow _; obtain ⟨g', cap', rfl⟩ := ownsRow_succ hown'; obtain ⟨hv1, hv2, _, hk2, hb2⟩ := hv.appended (by decide) (own_weaken hrow (by omega)) HB.out.size (Nat.le_refl _) (own_weaken hown' (by omega)) hgrow; have hkp := Aside0.mk (((KeepsWalks.alloc W _).trans (KeepsWalks.of_grownBy hgrow (own_not_walk (hrow.alloc _)))).trans (KeepsWalks.setCell w1 ⟨w.heap.size, 0, none⟩ (.slice (some ⟨g', 0, none⟩) (pre.length + 1) cap'))); have hr2 := Aside0.mk (hown'.kept (grownBy_setCell' w1 w.heap.size (.slice (some ⟨g', 0, none⟩) (pre.length + 1) cap')) (.inr (hv1.not_row (by decide) hown').symm)); have hc1 := hv1.cell; have hf1 := hv1.frozen)
    exact ⟨hk2.from _, hkp.out, ⟨_, hv2, by simpa using hr2.out, trivial⟩, HB.out.trans hb2⟩
  case done =>
    rintro D ys W hD hS ⟨⟨v, hv, hrow, _⟩, hB⟩ hK
    have hc := hv.cell
    gi_wp2
    refine ⟨by simp, .inl ⟨_, _, rfl, run_takeDeferred hK, ?_⟩⟩
    exact ⟨_, results_tmp rfl _ _ _, v, ys, rfl, hS, own_weaken (ownsRow_putObj hrow _ hK rfl) (by omega), hB.trans (belowK_b (w := w) (Nat.le_refl _) W D _ _ (by rw [HZ.out] at hD; omega) hK rfl rfl)⟩
  case stop =>
    rintro D c pre W _ _ h _
    exact h.elim

set_option maxHeartbeats 1000000 in
theorem collect_in (n : Nat) (hn : 3 ≤ n) (g : Nat) (lb : Array Value) (eg : ∀ args w, (callFunc g args).run Try.prog w = .ok (.enter g args) w)
    (S : List Int → Prop) (N : Nat) (hN : N ≤ 1000000) (w : World) (hseq : SeqStopsK Fence.wide (n - 1 - 1) Try.prog g lb (fun c : Int => #[Value.int .u64 c]) KeepsWalks S (fun _ => True) N w) :
    CallsIn Fence.wide n Try.prog 69 #[.func (.func g) #[] lb] w fun e W' => ∃ (v : Value) (ss : List Int), e = .returned v ∧ S ss ∧ W'.ownsRow w.heap.size 27 1 v ss.length (ss.map (Value.int .u64)) ∧ Below w.heap.size w W' := by
  have h1 : 1 ≤ n := by omega
  refine callsIn_of_wp Try.func69 rfl trivial ?_ rfl
  simp only [Try.ntmps69, List.size_toArray, List.length_cons, List.length_nil, Nat.reduceAdd, Nat.reduceSub, Array.replicate_succ, Array.replicate_zero, List.push_toArray, List.append_toArray, List.nil_append, List.cons_append]
  gi_wp2_with (refine ⟨trivial, ?_⟩; gi_at_call 84; refine (appendSeq_in (n - 1) (by omega) g lb eg S N hN _ hseq).mono ?_; rintro e w' ⟨v, ss, rfl, hS, hrow, hb⟩)
  go_ret
  exact ⟨v, ss, rfl, hS, hrow, hb⟩

theorem keys_calls (b : Nat) (w : World) : Calls Try.prog 45 #[.map (some b)] w fun e w' => e = .returned (.func (.func 70) #[] #[.pointer (some ⟨w.heap.size, 0, none⟩)]) ∧ w' = w.alloc (.cells #[.map (some b)] 75) := callsIn_wide.1 (keys_in 1 b w)
theorem collect_calls (Bm b nn : Nat) (l : List S51) (hr : Rise l) (hl : l.length ≤ 1000000) (w : World) (hBm : Bm < w.heap.size)
    (hm : w.cell? ⟨Bm, 0, none⟩ = some (.map (some b))) (hown : w.ownsMap Try.prog 27 (plainElem Try.prog 27) b nn (mapD l)) :
    Calls Try.prog 69 #[.func (.func 70) #[] #[.pointer (some ⟨Bm, 0, none⟩)]] w fun e W' => ∃ (v : Value) (ss : List Int), e = .returned v ∧ ss.Perm (l.map (·.f0)) ∧ W'.ownsRow w.heap.size 27 1 v ss.length (ss.map (Value.int .u64)) ∧ Below w.heap.size w W' :=
  callsIn_wide.1 (collect_in 4 (by omega) 70 _ (enters_of Try.func70 (by kernel_rfl) rfl) _ l.length hl w (keys_stops 2 (by omega) Bm b nn l hr w hBm hm hown))
end Go.Proofs.Ytohginlodlijkaa.PH
