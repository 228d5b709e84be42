/- A store at a key that is there, in the round of a range over the same map: the law that the kit lacks. Condition: the key is still in the map. -/
import Derived.Maps.RangeWalk
namespace Go.Proofs.Ytohginlodlijkaa.Mapr
open Go Go.ChangeMaps Go.MapKept Go.WideShapes
open Go.WideElems (Fit rd rg pl rd_key rd_val rg_of other_key rd_mk)
open Go.Maps (Keyed)
variable {H : Type} {P : Program} {k : TypeId} {R : Value → Option (DataW H × List MemPlace)} {w : World} {b r n : Nat} {D : DataW H} {left : Lit → Bool} {cnt : Nat}

theorem filter_set_length {α : Type} (p : α → Bool) : ∀ (l : List α) (j : Nat) (e e' : α), l[j]? = some e → p e' = p e → ((l.set j e').filter p).length = (l.filter p).length
  | [], _, _, _, h, _ => by simp at h
  | a :: l, 0, e, e', h, hp => by
    simp at h; subst h
    simp only [List.set_cons_zero, List.filter_cons, hp]
    split <;> simp
  | a :: l, j + 1, e, e', h, hp => by
    simp at h
    simp only [List.set_cons_succ, List.filter_cons]
    split <;> simp [filter_set_length p l j e e' h hp]

/-- 'm[k] = v' AT A KEY THAT IS THERE, in the round. -/
theorem ranges_store {t e : TypeId} (h : w.ranges P k R b r n D left cnt) (K : Keyed P k) (ht : P.underlying t = some (.map k e)) {key val : Value} {kl : Lit} {d : DataW H} {ps : List MemPlace}
    (hkey : keyOf P k key = some kl) (hv : R val = some (d, ps)) (hhas : Maps.has D kl = true) :
    ∃ w', (Instr.mapUpdate t (.map (some b)) key val).run P w = .ok () w' ∧ w'.ranges P k R b r n (D.put kl d) left cnt ∧ w.grownBy w' (some b) := by
  have hne := h.ne
  obtain ⟨es, clock, since, seen, c0, hb, F, hs, rfl, hr, hold, rfl, hl1, hl2, hsc, hsk⟩ := h
  rcases K.find w hkey es.toList F.keys with ⟨h1, h2⟩ | ⟨j, e0, h1, h2, h3⟩
  · exfalso
    rw [Maps.has_eq, List.any_eq_true] at hhas
    obtain ⟨p, hp, hpk⟩ := hhas
    have hp' := (mem_sorted).1 hp
    obtain ⟨x, hx, rfl⟩ := List.mem_map.1 hp'
    obtain ⟨y, hy⟩ := F.reads x hx
    rw [rg_of hy] at hpk
    have hky := rd_key hy
    have e1 : y.1 = kl := Classical.byContradiction fun hne' => by rw [Maps.sameKey_ne hne'] at hpk; cases hpk
    exact h2 x hx (K.inj (e1 ▸ hky) hkey)
  · have hj : es[j]? = some e0 := by simpa using h2
    have hjl : j < es.toList.length := (List.getElem?_eq_some_iff.1 h2).1
    have hkeyf : ∀ e', es[j]? = some e' → ({ e' with key := key, val := val } : MapEntry).key = e'.key := fun e' he' => by rw [hj] at he'; cases he'; exact h3.symm
    have hlist : (es.modify j (fun e' => { e' with key := key, val := val })).toList = es.toList.set j { e0 with key := key, val := val } := by rw [Array.toList_modify, modify_eq_set _ _ _ _ h2]
    have who : ∀ x ∈ es.toList.set j { e0 with key := key, val := val }, x = { e0 with key := key, val := val } ∨ x ∈ es.toList := fun x hx => (List.mem_or_eq_of_mem_set hx).symm
    have hrd : rd P k R { e0 with key := key, val := val } = some (kl, d) := rd_mk hkey hv
    have h0 : (rg P k R e0).1 = kl := by
      obtain ⟨y, hy⟩ := F.reads e0 (List.mem_of_getElem? h2)
      have := rd_key hy
      rw [h3, hkey] at this
      rw [rg_of hy]
      exact (Option.some.inj this).symm
    refine ⟨setBlock w b (.map (es.modify j (fun e' => { e' with key := key, val := val })) clock), ?_, ⟨_, clock, since, seen, c0, heap_setBlock_same hb _, ⟨by simpa using F.size, stamped_modify F.stamped _ _ (fun _ _ => rfl) (fun e' _ he' => hkeyf e' he'), ?_⟩, by simpa using hs, ?_, (heap_setBlock_other hb _ hne).trans hr, ?_, ?_, ?_, ?_, hsc, hsk⟩, ⟨rfl, rfl, rfl, by simp [setBlock], fun i _ hi => heap_setBlock_other hb _ (fun e => hi (by rw [e]))⟩⟩
    · simp [Instr.mapUpdate, run_underlying ht, MapKept.run_getObj_map hb, K.check w false hkey, h1, hj, h3, K.stays w hkey, MapKept.run_setObj_map _ hb, Result.andThen, setBlock]
    · intro x hx
      rw [hlist] at hx
      rcases who x hx with rfl | hx
      · exact ⟨_, hrd⟩
      · exact F.reads x hx
    · rw [DataW.put_eq, hlist]
      congr 1
      symm
      refine Maps.sorted_put K.one ⟨key, hkey⟩ (Maps.fit_keys F) (Maps.fit_apart K F) ?_
      rw [Maps.filter_one K F hkey h2 h3, List.map_set, rg_of hrd]
      exact set_perm _ _ (by simpa using hjl) _
    · intro x hx
      rw [hlist] at hx
      rcases who x hx with rfl | hx
      · exact hold e0 (List.mem_of_getElem? h2)
      · exact hold x hx
    · have e1 : ∀ a : Array MapEntry, (leftOf a seen).size = (a.toList.filter fun e => !seen.contains e.born).length := fun a => by
        unfold leftOf
        rw [← Array.toList_filter, Array.length_toList]
      rw [e1, e1, hlist]
      exact filter_set_length _ _ _ _ _ h2 rfl
    · intro x hx
      rw [hlist] at hx
      rcases who x hx with rfl | hx
      · rw [rg_of hrd]
        have := hl1 e0 (List.mem_of_getElem? h2)
        rw [h0] at this
        exact this
      · exact hl1 x hx
    · intro x0 hx0
      obtain ⟨x, hx, hxe⟩ := hl2 x0 hx0
      rw [hlist]
      by_cases hxj : x = e0
      · subst hxj
        exact ⟨{ x with key := key, val := val }, List.mem_set hjl _, by rw [rg_of hrd, ← hxe, h0]⟩
      · obtain ⟨i, hi⟩ := List.getElem?_of_mem hx
        refine ⟨x, ?_, hxe⟩
        have hij : i ≠ j := fun e => by rw [e, h2] at hi; exact hxj (Option.some.inj hi).symm
        exact List.mem_of_getElem? (by rw [List.getElem?_set_ne (Ne.symm hij)]; exact hi)
section
variable {ops : Array Oper} {rest : List Oper} {o : Oper} {a : Act} {Q : Exit → Act → World → Prop}
theorem wpList_mapUpdate_ranges (hg : o.guard = none) (m x v : Operand) (t : TypeId) (hop : o.op = Op.mapUpdate t m x v)
    (k e : TypeId) (K : Keyed P k) (ht : P.underlying t = some (.map k e)) (R : Value → Option (DataW H × List MemPlace)) (b r n : Nat) (D : DataW H) (left : Lit → Bool) (cnt : Nat)
    (hm : a.eval m = .map (some b)) (h : w.ranges P k R b r n D left cnt) (key val : Value) (kl : Lit) (hx : a.eval x = key) (hv : a.eval v = val) (hkey : keyOf P k key = some kl)
    (d : DataW H) (ps : List MemPlace) (hval : R val = some (d, ps)) (hhas : Maps.has D kl = true)
    (hK : ∀ w', w'.ranges P k R b r n (D.put kl d) left cnt → w.grownBy w' (some b) → wpList P ops Q rest (a.put o.dst undef) w') :
    wpList P ops Q (o :: rest) a w := by
  refine wpList_plain hg fun K' hK' => ?_
  obtain ⟨w', hrun, r1, r2⟩ := ranges_store h K ht hkey hval hhas
  unfold Oper.wp
  simp [execOp, hop, hm, hx, hv, hrun, Result.andThen]
  exact hK' _ _ (hK w' r1 r2)
end
end Go.Proofs.Ytohginlodlijkaa.Mapr
