/- slices.Sorted(maps.Keys(m)) and heavy's items. Condition: fewer than 50 of them. -/
import Derived.Test.YtohginlodlijkaaKeys
import Derived.Test.YtohginlodlijkaaSrx
namespace Go.Proofs.Ytohginlodlijkaa.PH
open Go.RowKit Go.Maps Go.Proofs.YtohginlodlijkaaW.PrintWords Go.Proofs.YtohginlodlijkaaW.PrintLast Go.Proofs.YtohginlodlijkaaW.PrintMore

theorem w64 {n : Int} (h0 : -1000 ≤ n) (h1 : n ≤ 1000) : wrap64 n = n := by unfold wrap64; omega
theorem sorted_one {q t l : List Int} (h1 : q.Perm l) (h2 : q.Pairwise (· ≤ ·)) (hp : l.Perm t) (ht : t.Pairwise (· < ·)) : q = t :=
  List.Perm.eq_of_pairwise (le := fun a b : Int => a ≤ b) (fun a b _ _ h h' => Int.le_antisymm h h') h2 (ht.imp (fun h => by omega)) (h1.trans hp)
set_option maxHeartbeats 4000000 in
set_option maxRecDepth 100000 in
theorem sorted_calls (Bm b nn : Nat) (l : List S51) (hr : Rise l) (hl : l.length < 50) (w : World) (hBm : Bm < w.heap.size)
    (hm : w.cell? ⟨Bm, 0, none⟩ = some (.map (some b))) (hown : w.ownsMap Try.prog 27 (plainElem Try.prog 27) b nn (mapD l)) :
    Calls Try.prog 44 #[.func (.func 70) #[] #[.pointer (some ⟨Bm, 0, none⟩)]] w fun e w' => ∃ v, e = .returned v ∧ Kd.R (Kd.int .u64) 27 w' w.heap.size (fun _ => True) v (l.map (·.f0)) ∧ Below w.heap.size w w' := by
  have HC := Aside0.mk (collect_calls Bm b nn l hr (by omega) w hBm hm hown)
  have HT : Aside0 ((l.map (·.f0)).Pairwise (· < ·)) := Aside0.mk (List.pairwise_map.2 hr)
  clear hBm hm hown hr
  go_enter Try.func44, Try.ntmps44
  go_wp2_with (first
    | (go_at_call 69; refine HC.out.mono ?_; rintro e w1 ⟨v, ss, rfl, hp, ho, hb⟩
       have hlen : ss.length = l.length := by simpa using hp.length_eq
       have hR : Kd.R (Kd.int .u64) 27 w1 w.heap.size (fun _ => True) v ss := Kd.R_of_own ho (fun _ _ => trivial)
       obtain ⟨A, cap, rfl⟩ := Kd.R_slice hR
       have HS := So.sort_calls A cap ss w w1 hb hR (by omega)
       have HU := Aside0.mk (fun (q : List Int) (h1 : q.Perm ss) (h2 : q.Pairwise (· ≤ ·)) => sorted_one h1 h2 hp HT.out)
       rw [hlen] at HS
       replace HS := Aside0.mk HS
       clear hb hR ho hp)
    | (go_at_call 38; refine HS.out.mono ?_; rintro e w2 ⟨rfl, r, hq1, hq2, hr2, hb2⟩; obtain rfl := HU.out r hq1 hq2))
  go_ret
  exact ⟨_, rfl, hr2, hb2⟩

set_option maxHeartbeats 4000000 in
set_option maxRecDepth 100000 in
theorem items_calls (b nn : Nat) (l : List S51) (hr : Rise l) (hw : Wf l) (hl : l.length < 50) (w : World) (hown : w.ownsMap Try.prog 27 (plainElem Try.prog 27) b nn (mapD l)) :
    Calls Try.prog 54 #[.map (some b)] w fun e w' => ∃ v, e = .returned v ∧ Kd.R k51 51 w' w.heap.size (fun _ => True) v l ∧ Below w.heap.size w w' := by
  have hbl := hown.lt
  have HK := Aside0.mk (keys_calls b w)
  have hown1 : (w.alloc (.cells #[.map (some b)] 75)).ownsMap Try.prog 27 (plainElem Try.prog 27) b nn (mapD l) := hown.alloc _
  have HS := Aside0.mk (sorted_calls w.heap.size b nn l hr hl (w.alloc (.cells #[.map (some b)] 75)) (by simp) (by simp) hown1)
  have HR := Aside0.mk hr
  have HW := Aside0.mk hw
  have HO := Aside0.mk hown
  clear hr hw hown hown1
  go_enter Try.func54, Try.ntmps54
  go_wp2_with (first
    | (go_at_call 45; refine HK.out.mono ?_; rintro e w1 ⟨rfl, rfl⟩)
    | (go_at_call 44; refine HS.out.mono ?_; rintro e w2 ⟨v, rfl, hr2, hb2⟩
       obtain ⟨A, cap, rfl⟩ := Kd.R_slice hr2
       rw [List.length_map]))
  have hB := Aside0.mk (((Below.refl w.heap.size w).alloc (Nat.le_refl _) (.cells #[.map (some b)] 75)).trans (hb2.mono (by simp)))
  have HC := (Kd.R_reads' hr2).2.2
  rw [List.length_map] at HC
  replace HC := Aside0.mk HC
  have hsz : w.heap.size < w2.heap.size := by have := hb2.size; simp at this; omega
  clear hr2 hb2
  have HO2 : Aside0 (w2.ownsMap Try.prog 27 (plainElem Try.prog 27) b nn (mapD l)) := by
    obtain ⟨es, clock, hb, Ft, hs, hD⟩ := HO.out
    exact ⟨⟨es, clock, (hB.out.block b hbl).trans hb, Ft, hs, hD⟩⟩
  clear HO
  go_loopw [3, 10] (fun v i wr => ∃ k : Nat, k ≤ l.length ∧ i = .int .i64 k ∧ Kd.R k51 51 wr w2.heap.size (fun _ => True) v (l.take k) ∧ Below w2.heap.size w2 wr)
    (fun _ i _ => l.length - (intOf i).toNat)
  case atStart => exact ⟨0, Nat.zero_le _, rfl, Kd.R_nil _ _ _ _ _, Below.refl _ _⟩
  case round =>
    obtain ⟨k, hk, rfl, hv, hnx⟩ := hrel
    by_cases hlt : k < l.length
    · obtain ⟨ad, e1, hc0⟩ := Kd.at_int HC.out (k : Int) (by omega) (by omega)
      cases e1
      have hbk : ad.block < w2.heap.size := by have := World.block_lt_of_cell? w2 _ hc0; rwa [addr_block] at this
      have hc0' := (hnx.cell (p := ad.add ((k : Int).toNat)) (by rw [addr_block]; exact hbk)).trans hc0
      have e2 : rd (l.map (·.f0)) (k : Int) = (l.getD k z51).f0 := by simp [rd, hlt]
      rw [e2, Int.toNat_natCast] at hc0'
      have hmem : l.getD k z51 ∈ l := by simp [hlt]
      have HT := Aside0.mk (show l.take k ++ [l.getD k z51] = l.take (k + 1) by rw [List.take_succ_eq_append_getElem hlt]; simp [hlt])
      obtain ⟨hw0, hw1⟩ := HW.out _ hmem
      have HG := Aside0.mk (getk_mem HR.out hmem)
      clear hc0 hmem e2
      generalize l.getD k z51 = z at *
      have HN := Aside0.mk hnx
      have HO3 : Aside0 (wr.ownsMap Try.prog 27 (plainElem Try.prog 27) b nn (mapD l)) := by
        obtain ⟨es, clock, hb, Ft, hs, hD⟩ := HO2.out
        exact ⟨⟨es, clock, (hnx.block b (by omega)).trans hb, Ft, hs, hD⟩⟩
      have hs2 : w2.heap.size ≤ wr.heap.size := hnx.size
      have HV := Aside0.mk hv
      clear hnx hv
      go_wp2_with (first
        | (at_lookup; refine wpList_lookup_own_int _ rfl _ _ 75 rfl 27 27 .u64 law27 Try.underlying75 Try.underlying27 (zeroE27 _) b nn _ rfl HO3.out _ _ rfl (keyOf_int_mk Try.underlying27 hw0) ?_; intro c2 hat2 _; obtain rfl : c2 = z.f1 := by (rw [mapD_at, HG.out] at hat2; simpa using hat2.symm))
        | (at_builtin; refine Kd.R_append k51 (w0 := w2) w2.heap.size rfl (.tmp 14) (.tmp 20) 28 51 (.agg #[(.int .u64 0), (.int .u64 0)]) 16 rfl Try.underlying28 info51 rfl (by decide) (by omega) _ (l.take k) z [.int .u64 z.f0, .int .u64 z.f1] (fun _ => True) (fun _ => False) rfl rfl (k51_mkM _ _ _ z) (fun _ hk => hk.elim) (fun _ _ => trivial) HV.out HN.out hs2 (by rw [List.length_take]; omega) ?_; intro v1 w3 hv1 hb3 _ _)
        | go_in)
      exact ⟨⟨k + 1, by omega, by simp, by rw [← HT.out]; exact hv1, hb3⟩, by simp [intOf]; omega⟩
    · obtain rfl : k = l.length := by omega
      go_wp2
      go_ret
      refine ⟨_, rfl, ?_, hB.out.trans (hnx.mono (by omega))⟩
      rw [List.take_length] at hv
      exact Kd.R_lower hv (by omega)
end Go.Proofs.Ytohginlodlijkaa.PH
