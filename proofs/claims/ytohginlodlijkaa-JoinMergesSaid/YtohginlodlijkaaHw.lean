/- The contracts of heavy's functions over maps: counts, less. Conditions: the items rise, and are of their kinds. -/
import Derived.Maps.OwnOps
import Derived.Maps.OwnSet
import Derived.Laws.Bits64
import Derived.Carry
import Derived.Test.YtohginlodlijkaaItems
import Derived.Test.YtohginlodlijkaaMapr
namespace Go.Proofs.Ytohginlodlijkaa.PH
open Go.RowKit Go.Maps Go.Proofs.YtohginlodlijkaaW.PrintWords Go.Proofs.YtohginlodlijkaaW.PrintLast Go.Proofs.YtohginlodlijkaaW.PrintMore Go.Proofs.Ytohginlodlijkaa.Mapr

theorem law27 : Keyed Try.prog 27 := int_keyed Try.underlying27
theorem zeroE27 (w : World) : (zeroValue 27).run Try.prog w = .ok (.int .u64 0) w := by kernel_rfl

/-- Items are of their kinds. -/
def Wf (l : List S51) : Prop := ∀ s ∈ l, (Lit.int .u64 s.f0).wf = true ∧ (Lit.int .u64 s.f1).wf = true

theorem addr_block (a : Addr) (n : Nat) : (a.add n).block = a.block := by unfold Addr.add; split <;> rfl
theorem putk_last {l : List S51} {s : S51} (h : ∀ t ∈ l, t.f0 < s.f0) : putk l s.f0 s.f1 = l ++ [s] := by
  induction l with
  | nil => rfl
  | cons t l ih =>
    simp only [putk]
    rw [if_pos (h t (by simp)), ih (fun u hu => h u (by simp [hu]))]
    rfl
theorem take_put {l : List S51} (hr : Rise l) {k : Nat} (hk : k < l.length) : putk (l.take k) (l.getD k z51).f0 (l.getD k z51).f1 = l.take (k + 1) := by
  have e : l.getD k z51 = l[k] := by simp [hk]
  rw [e, putk_last, List.take_succ_eq_append_getElem hk]
  intro t ht
  obtain ⟨i, hi, rfl⟩ := List.getElem_of_mem ht
  rw [List.length_take] at hi
  rw [List.getElem_take]
  exact List.pairwise_iff_getElem.1 hr i k (by omega) hk (by omega)
theorem rise_take {l : List S51} (h : Rise l) (k : Nat) : Rise (l.take k) := h.sublist (List.take_sublist _ _)

set_option maxHeartbeats 2000000 in
set_option maxRecDepth 100000 in
theorem counts_calls (a0 a1 : Int) (A : Option Addr) (c : Nat) (l : List S51) (w : World) (hC : k51.C w A l.length l) (hr : Rise l) (hw : Wf l) (hn : l.length ≤ 1000000) :
    Calls Try.prog 52 #[.agg #[.int .i64 a0, .int .u64 a1, .slice A l.length c]] w fun e w' => ∃ b, e = .returned (.map (some b)) ∧ w.heap.size ≤ b ∧ w'.ownsMap Try.prog 27 (plainElem Try.prog 27) b l.length (mapD l) ∧ Below w.heap.size w w' := by
  have hmm := @run_makeMap Try.prog
  have HC := Aside0.mk hC
  have HR := Aside0.mk hr
  have HW := Aside0.mk hw
  clear hC hr hw
  go_enter Try.func52, Try.ntmps52
  go_wp2
  go_loopw [10] (fun i wr => ∃ k : Nat, k ≤ l.length ∧ i = .int .i64 k ∧ wr.ownsMap Try.prog 27 (plainElem Try.prog 27) (w.heap.size + 1) k (mapD (l.take k)) ∧ Below w.heap.size w wr)
    (fun i _ => l.length - (intOf i).toNat)
  case atStart => exact ⟨0, Nat.zero_le _, rfl, by have := World.ownsMap_made (H := Unit) (w.alloc (.cells #[.int .i64 a0, .int .u64 a1, .slice A l.length c] 33)) Try.prog 27 (plainElem Try.prog 27); simpa [mapD] using this, (((Below.refl _ _).alloc (Nat.le_refl _) _).alloc (by simp) _)⟩
  case round =>
    obtain ⟨k, hk, rfl, hown, hnx⟩ := hrel
    by_cases hlt : k < l.length
    · obtain ⟨ad, e1, hc0, hc1⟩ := at_T51 HC.out (k : Int) (by omega) (by omega)
      cases e1
      have hbk : ad.block < w.heap.size := by have := World.block_lt_of_cell? w _ hc0; rwa [addr_block] at this
      have hc0' := (hnx.cell (p := ad.add ((k : Int).toNat * 2)) (by rw [addr_block]; exact hbk)).trans hc0
      have hc1' := (hnx.cell (p := ⟨(ad.add ((k : Int).toNat * 2)).block, (ad.add ((k : Int).toNat * 2)).off + 1, none⟩) (by show (ad.add _).block < _; rw [addr_block]; exact hbk)).trans hc1
      have e2 : rd_T51 l (k : Int) = l.getD k z51 := rfl
      rw [e2, Int.toNat_natCast] at hc0' hc1'
      have HT := Aside0.mk (take_put HR.out hlt)
      have hmem : l.getD k z51 ∈ l := by simp [hlt]
      obtain ⟨hw0, hw1⟩ := HW.out _ hmem
      clear hc0 hc1 hmem
      generalize l.getD k z51 = z at *
      have HN := Aside0.mk hnx
      have HO := Aside0.mk hown
      have hlb : w.heap.size + 1 < wr.heap.size := hown.lt
      clear hnx hown
      go_wp2_with (first
        | (at_mapUpdate; refine wpList_mapUpdate_own _ rfl _ _ _ 75 rfl 27 27 law27 Try.underlying75 _ (w.heap.size + 1) k _ rfl (HO.out.alloc _) (by unfold maxLen; omega) _ _ _ rfl rfl (keyOf_int_mk Try.underlying27 hw0) _ [] (plainElem_int Try.underlying27 hw1) ?_; intro w1 hown1 hgrow1)
        | go_in)
      rw [mapD_put _ _ _ (rise_take HR.out k), HT.out] at hown1
      have hb1 := (HN.out.alloc HN.out.size _).grown hgrow1 (by have := HN.out.size; simp; omega) (fun j hj => by cases hj; omega)
      clear hgrow1
      go_wp2
      go_roundw
      case rel => exact ⟨k + 1, by omega, by go_num, hown1, hb1⟩
      case measure => simp [intOf]; omega
    · obtain rfl : k = l.length := by omega
      go_wp2
      go_ret
      exact ⟨_, rfl, by omega, by simpa using hown, hnx⟩

/-- What is told of less's round: those that have come are less, or gone. -/
def lessG (left : Lit → Bool) (d : Int) (s : S51) : Option S51 := if left (.int .u64 s.f0) then some s else if s.f1 - d = 0 then none else some ⟨s.f0, s.f1 - d⟩
theorem lessG_keeps (left : Lit → Bool) (d : Int) : Keeps (lessG left d) := by
  intro s t h
  unfold lessG at h
  split at h
  · cases h; rfl
  · split at h
    · cases h
    · cases h; rfl
theorem lessG_all (l : List S51) (d : Int) (left : Lit → Bool) (h : ∀ kl, left kl = false) : goL (lessG left d) l = lessk l d := by
  unfold lessk goL
  congr 1
  funext s
  simp [lessG, h]
theorem lessG_start (l : List S51) (d : Int) : goL (lessG (Maps.has (mapD l)) d) l = l := by
  have : ∀ s ∈ l, lessG (Maps.has (mapD l)) d s = some s := fun s hs => by
    unfold lessG
    rw [mapD_has, hask_iff.2 ⟨s, hs, rfl⟩]
    rfl
  rw [goL_congr (g' := some) this]
  unfold goL
  simp

theorem sub_u64 {a b : Int} (ha : (Lit.int .u64 a).wf = true) (hb0 : 0 ≤ b) (hb : b ≤ a) : (Lit.int .u64 (a - b)).wf = true ∧ IntKind.u64.wrap (a - b) = a - b := by
  simp [Lit.wf, IntKind.min, IntKind.max, IntKind.signed, IntKind.bits] at ha
  refine ⟨by simp [Lit.wf, IntKind.min, IntKind.max, IntKind.signed, IntKind.bits]; omega, ?_⟩
  rw [IntKind.wrap_u64]; omega

theorem mapD_find {L : List S51} {x c : Int} (h : ∀ zd : DataW Unit, (mapD L).atKey (.int .u64 x) zd = .lit (.int .u64 c)) : (⟨x, c⟩ : S51) ∈ L := by
  have h1 := h (.map [])
  unfold mapD DataW.atKey at h1
  clear h
  induction L with
  | nil => simp at h1
  | cons s l ih =>
    simp only [List.map_cons, List.find?_cons, ent, same_u64] at h1
    by_cases hx : s.f0 = x
    · simp only [hx, decide_true] at h1
      have : s.f1 = c := by simpa using h1
      rw [show s = ⟨x, c⟩ by cases s; simp_all]
      exact List.mem_cons_self
    · simp only [hx, decide_false] at h1
      exact List.mem_cons_of_mem _ (ih h1)
theorem filter_putk (l : List S51) (k v : Int) : (putk l k v).filter (fun s => decide (s.f0 ≠ k)) = l.filter fun s => decide (s.f0 ≠ k) := by
  induction l with
  | nil => simp [putk]
  | cons t l ih =>
    simp only [putk]
    split
    · rw [List.filter_cons, List.filter_cons, ih]
    · split
      · rename_i h
        rw [List.filter_cons, List.filter_cons, if_neg (by simp), if_neg (by simp [h])]
      · rw [List.filter_cons, if_neg (by simp)]
/-- What a round tells: the key's own item, and the two roads that it may take. -/
theorem less_round {l : List S51} {d x c : Int} {left : Lit → Bool} (hr : Rise l) (hlx : left (.int .u64 x) = true) (hat : ∀ zd : DataW Unit, (mapD (goL (lessG left d) l)).atKey (.int .u64 x) zd = .lit (.int .u64 c)) :
    (⟨x, c⟩ : S51) ∈ l ∧ hask (goL (lessG left d) l) x = true ∧
    (c - d ≠ 0 → putk (goL (lessG left d) l) x (c - d) = goL (lessG (fun z => left z && !z.sameKey (.int .u64 x)) d) l) ∧
    (c - d = 0 → (goL (lessG left d) l).filter (fun s => decide (s.f0 ≠ x)) = goL (lessG (fun z => left z && !z.sameKey (.int .u64 x)) d) l) := by
  have hm := mapD_find hat
  obtain ⟨s0, hs0, he⟩ := List.mem_filterMap.1 hm
  have hk := lessG_keeps left d s0 _ he
  have he2 : s0 = ⟨x, c⟩ := by
    unfold lessG at he
    rw [← hk] at he
    simp only at he
    rw [hlx] at he
    simpa using he
  subst he2
  have h2 : ∀ s ∈ l, s.f0 ≠ x → lessG (fun z => left z && !z.sameKey (.int .u64 x)) d s = lessG left d s := fun s _ hne => by
    unfold lessG
    simp [same_u64, hne]
  refine ⟨hs0, hask_iff.2 ⟨_, hm, rfl⟩, fun hc => ?_, fun hc => ?_⟩
  · refine goL_put (lessG_keeps _ _) hr hs0 he ?_ (fun s hs hne => h2 s hs hne)
    unfold lessG
    simp [same_u64, hc]
  · refine goL_strike (lessG_keeps _ _) (fun s hs hk' => ?_) h2
    have : s = ⟨x, c⟩ := by
      have a1 := getk_mem hr hs
      have a2 := getk_mem hr hs0
      rw [hk'] at a1
      cases s
      simp_all
    subst this
    unfold lessG
    simp [same_u64, hc]

set_option maxHeartbeats 4000000 in
set_option maxRecDepth 100000 in
theorem less_calls (b n : Nat) (l : List S51) (d : Int) (w : World) (hown : w.ownsMap Try.prog 27 (plainElem Try.prog 27) b n (mapD l)) (hr : Rise l) (hd0 : 0 ≤ d) (hd : ∀ s ∈ l, d ≤ s.f1) :
    Calls Try.prog 53 #[.map (some b), .int .u64 d] w fun e w' => e = .returned (.tuple #[]) ∧ w'.ownsMap Try.prog 27 (plainElem Try.prog 27) b n (mapD (lessk l d)) ∧ w.grownBy w' (some b) := by
  have HR := Aside0.mk hr
  have HD := Aside0.mk hd
  clear hr hd
  go_enter Try.func53, Try.ntmps53
  go_wp2_with (first
    | (at_range; refine wpList_range_own _ rfl _ 75 rfl 27 27 law27 Try.underlying75 _ b n _ rfl hown ?_; intro w0 hrg0 hg0 hs0)
    | go_in)
  go_frame
  go_loopw [4] (fun _ wr => ∃ (left : Lit → Bool) (cnt : Nat), wr.ranges Try.prog 27 (plainElem Try.prog 27) b w.heap.size n (mapD (goL (lessG left d) l)) left cnt ∧ w.grownBy wr (some b))
    (fun _ wr => wr.rangeLeft b w.heap.size)
  case atStart => exact ⟨_, _, by rw [lessG_start]; exact hrg0, hg0.but _⟩
  case round =>
    obtain ⟨left, cnt, hrg, hgw⟩ := hrel
    go_wp2_with (first
      | (at_next; refine wpList_next_ranges_ii _ rfl _ rfl 27 27 .u64 .u64 law27 Try.underlying27 Try.underlying27 b w.heap.size n _ _ _ rfl hrg ?_ ?_)
      | go_in)
    · intro _ hl0
      go_wp2
      go_end0
      exact ⟨rfl, by rw [← lessG_all l d left hl0]; exact hrg.owns, hgw⟩
    · intro x c w1 cnt1 hwx hwc hlx hat hrg1 hlt hg1 hs1 hen
      have hgw1 := hgw.andThen hg1 (fun j hj => by cases hj; exact Or.inl (Nat.le_refl _))
      obtain ⟨hm, hhas, hR1, hR2⟩ := less_round HR.out hlx hat
      obtain ⟨hwd, hwr⟩ := sub_u64 (a := c) (b := d) hwc hd0 (HD.out _ hm)
      have HRL := Aside0.mk (goL_rise (lessG_keeps left d) HR.out)
      go_wp2_with (first
        | (at_lookup; refine wpList_lookup_own_int w1 rfl _ _ 75 rfl 27 27 .u64 law27 Try.underlying75 Try.underlying27 (zeroE27 _) b n _ rfl hrg1.owns _ _ rfl (keyOf_int_mk Try.underlying27 hwx) ?_; intro c' hat' hwc'; obtain rfl : c' = c := by (rw [hat] at hat'; simpa using hat'.symm))
        | (at_mapUpdate; refine wpList_mapUpdate_ranges rfl _ _ _ 75 rfl 27 27 law27 Try.underlying75 _ b w.heap.size n _ _ _ rfl hrg1 _ _ _ rfl rfl (keyOf_int_mk Try.underlying27 hwx) _ [] (plainElem_int Try.underlying27 hwd) (by rw [mapD_has]; exact hhas) ?_; intro w2 hrg2 hg2)
        | (at_lookup; refine wpList_lookup_own_int w2 rfl _ _ 75 rfl 27 27 .u64 law27 Try.underlying75 Try.underlying27 (zeroE27 _) b n _ rfl hrg2.owns _ _ rfl (keyOf_int_mk Try.underlying27 hwx) ?_; intro c2 hat2 hwc2; obtain rfl : c2 = c' - d := by (rw [mapD_put _ _ _ HRL.out, mapD_at, getk_putk _ HRL.out, if_pos rfl] at hat2; simpa using hat2.symm))
        | (at_delete; refine wpList_delete_ranges _ rfl _ _ 75 27 rfl 27 law27 Try.underlying75 _ b w.heap.size n _ _ _ rfl hrg2 _ _ rfl (keyOf_int_mk Try.underlying27 hwx) ?_; intro w3 cnt3 hrg3 hle hturn; go_frame)
        | go_in)
      · have hc0 : c' - d = 0 := by simpa using (by assumption : (c' - d == 0) = true)
        rw [mapD_put _ _ _ HRL.out, Maps.strike_twice, mapD_del, filter_putk, hR2 hc0] at hrg3
        go_roundw
        case rel => exact ⟨_, cnt3, hrg3, (hgw1.andThen hg2 (fun j hj => by cases hj; exact Or.inr rfl)).andThen hturn.grown (fun j hj => by cases hj; exact Or.inr rfl)⟩
        case measure => rw [hrg3.left_eq, hrg.left_eq]; omega
      · have hc0 : c' - d ≠ 0 := by simpa using (by assumption : (c' - d == 0) = false)
        rw [mapD_put _ _ _ HRL.out, hR1 hc0] at hrg2
        go_roundw
        case rel => exact ⟨_, cnt1, hrg2, hgw1.andThen hg2 (fun j hj => by cases hj; exact Or.inr rfl)⟩
        case measure => rw [hrg2.left_eq, hrg.left_eq]; exact hlt
end Go.Proofs.Ytohginlodlijkaa.PH
