/- What came in, read as lists and records: each argument's reading tells its kind's own words, and its numbers are of their kinds. -/
import Derived.Deep.Slices
import Derived.Deep.Fields
import Derived.ChangeSame
import Derived.OpenShut
import Derived.Test.YtohginlodlijkaaWWords
namespace Go.Proofs.Ytohginlodlijkaa.Open
open Go.RowKit Go.ChangeShapes Go.WideShapes Go.Deep Go.Proofs.YtohginlodlijkaaW.PrintWords

/-- Whatever is read as type t says what kind d says, of a value that is ok. -/
def Opens {α : Type} (P : Program) (t : TypeId) (d : Kd α) (ok : α → Prop) : Prop :=
  ∀ {H : Type} {enc : TypeId × Value → H} {w : World} {base : Nat} {spare : Nat → Bool} {held : Bool} {fuel : Nat} {cs : List Value} {x : DataW H × List MemPlace},
    DataW.trod enc P w base spare held fuel t cs = some x → ∃ a, d.K w a cs ∧ ok a

theorem opens_int {P : Program} {t : TypeId} {k : IntKind} (ht : P.underlying t = some (.int k)) : Opens P t (Kd.int k) (fun n => (Lit.int k n).wf = true) := by
  intro H enc w base spare held fuel cs x h
  obtain ⟨n, e, _, hw⟩ := DataW.trod_int ht h
  exact ⟨n, e, hw⟩

theorem choose_list {α : Type} {p : Nat → α → Prop} : ∀ (n : Nat), (∀ i, i < n → ∃ a, p i a) → ∃ xs : List α, xs.length = n ∧ ∀ i a, xs[i]? = some a → p i a
  | 0, _ => ⟨[], rfl, fun i a h => by simp at h⟩
  | n + 1, h => by
    obtain ⟨xs, hl, hx⟩ := choose_list n (fun i hi => h i (by omega))
    obtain ⟨a, ha⟩ := h n (by omega)
    refine ⟨xs ++ [a], by simp [hl], fun i b hb => ?_⟩
    by_cases hi : i < n
    · exact hx i b (by rwa [List.getElem?_append_left (by omega)] at hb)
    · have hlt := (List.getElem?_eq_some_iff.1 hb).1
      simp at hlt
      obtain rfl : i = n := by omega
      rw [List.getElem?_append_right (by omega)] at hb
      simp [hl] at hb
      rw [← hb]; exact ha

theorem opens_slice {α : Type} {P : Program} {t e : TypeId} {d : Kd α} {ok : α → Prop} (ht : P.underlying t = some (.slice e)) (hd : Opens P e d ok) (hsz : P.cellsOf e = d.sz) : Opens P t (Kd.slice e d) (fun xs => ∀ a ∈ xs, ok a) := by
  intro H enc w base spare held fuel cs x h
  rcases open_slice ht h with ⟨rfl, _⟩ | ⟨a, len, cap, m, n, D, Pl, rfl, _, hl, hm, hmm, _, hi⟩
  · exact ⟨[], ⟨none, 0, rfl, Nat.le_refl _, rfl, by simp, fun hp => absurd hp (by simp)⟩, by simp⟩
  · have hlm : len ≤ m := by rw [hmm]; split <;> omega
    obtain ⟨xs, hxl, hxs⟩ := choose_list (p := fun i b => ok b ∧ ∃ c : List Value, c.length = d.sz ∧ d.K w b c ∧ ∀ j u, c[j]? = some u → w.cell? (a.add (i * d.sz + j)) = some u) len (fun i hil => by
      obtain ⟨cs', hc, htr⟩ := hi i (by omega)
      obtain ⟨b, hK, hok⟩ := hd htr
      rw [hsz] at hc
      obtain ⟨_, hcl, hat⟩ := World.cells?_some hc
      refine ⟨b, hok, cs', d.K_len hK, hK, fun j u hu => ?_⟩
      have hj : j < d.sz := by have := (List.getElem?_eq_some_iff.1 hu).1; rw [d.K_len hK] at this; exact this
      rw [← Go.Deep.add_add, hat j hj, hu])
    refine ⟨xs, ⟨some a, cap, by rw [hxl], by omega, rfl, by unfold maxLen at hm; omega, fun _ => ⟨a, rfl, fun j p hj => (hxs j p hj).2⟩⟩, fun b hb => ?_⟩
    obtain ⟨i, hi1, hi2⟩ := List.getElem_of_mem hb
    exact (hxs i b (by rw [List.getElem?_eq_getElem hi1, hi2])).1

theorem opens_struct2 {α β : Type} {P : Program} {t : TypeId} {f0 f1 : Field} {d0 : Kd α} {d1 : Kd β} {ok0 : α → Prop} {ok1 : β → Prop} (ht : P.underlying t = some (.struct #[f0, f1]))
    (h0 : Opens P f0.type d0 ok0) (h1 : Opens P f1.type d1 ok1) (o0 : f0.offset = 0) (c0 : P.cellsOf f0.type = d0.sz) (o1 : f1.offset = d0.sz) (c1 : P.cellsOf f1.type = d1.sz) (hC : P.cellsOf t = d0.sz + d1.sz) :
    Opens P t (Kd.pair d0 d1) (fun x => ok0 x.1 ∧ ok1 x.2) := by
  intro H enc w base spare held fuel cs x h
  obtain ⟨xs, n, _, _, hlen, hxl, hf⟩ := DataW.trod_struct ht h
  have hf0 := hf 0 f0 rfl
  have hf1 := hf 1 f1 rfl
  rw [List.getElem?_eq_getElem (by rw [hxl]; simp)] at hf0
  rw [List.getElem?_eq_getElem (by rw [hxl]; simp)] at hf1
  obtain ⟨a, ha, oka⟩ := h0 hf0
  obtain ⟨b, hb, okb⟩ := h1 hf1
  rw [o0, List.drop_zero, c0] at ha
  rw [o1, c1] at hb
  refine ⟨(a, b), ⟨_, _, ?_, ha, hb⟩, oka, okb⟩
  rw [List.take_of_length_le (l := cs.drop d0.sz) (by rw [List.length_drop]; omega), List.take_append_drop]

theorem opens_iso {α β : Type} {P : Program} {t : TypeId} {d : Kd α} {ok : α → Prop} (f : β → α) (g : α → β) (hfg : ∀ a, f (g a) = a) (h : Opens P t d ok) : Opens P t (Kd.iso d f) (fun b => ok (f b)) := by
  intro H enc w base spare held fuel cs x ht
  obtain ⟨a, ha, hok⟩ := h ht
  exact ⟨g a, by show d.K w (f (g a)) cs; rw [hfg]; exact ha, by show ok (f (g a)); rw [hfg]; exact hok⟩

theorem Opens.imp {α : Type} {P : Program} {t : TypeId} {d : Kd α} {ok ok' : α → Prop} (h : Opens P t d ok) (hi : ∀ a, ok a → ok' a) : Opens P t d ok' := by
  intro H enc w base spare held fuel cs x ht
  obtain ⟨a, ha, hok⟩ := h ht
  exact ⟨a, ha, hi a hok⟩

/-- An argument that is a slice. -/
theorem arg_slice {α : Type} {H : Type} {enc : TypeId × Value → H} {P : Program} {w : World} {base : Nat} {spare : Nat → Bool} {held : Bool} {t e : TypeId} {d : Kd α} {ok : List α → Prop} {r : Reach} {b0 : Nat} {v : Value} {x : DataW H} {p : List MemPlace}
    (ht : P.underlying t = some (.slice e)) (hd : Opens P t (Kd.slice e d) ok) (hv : Value.okWide P w r b0 t v) (h : DataW.Trod enc P w base spare held t v x p) :
    ∃ (A : Option Addr) (c : Nat) (xs : List α), v = .slice A xs.length c ∧ xs.length ≤ c ∧ d.C w A xs.length xs ∧ ok xs := by
  obtain ⟨a0, len, cap, rfl⟩ := okWide_slice ht hv
  obtain ⟨fuel, hf⟩ := h
  obtain ⟨xs, ⟨A, c, e1, hl, hC⟩, hok⟩ := hd hf
  simp [Value.cells] at e1
  obtain ⟨rfl, rfl, rfl⟩ := e1
  exact ⟨_, _, xs, rfl, hl, hC, hok⟩

/-- An argument that is a struct: its cells. -/
theorem arg_struct {α : Type} {H : Type} {enc : TypeId × Value → H} {P : Program} {w : World} {base : Nat} {spare : Nat → Bool} {held : Bool} {t : TypeId} {fs : Array Field} {d : Kd α} {ok : α → Prop} {r : Reach} {b0 : Nat} {v : Value} {x : DataW H} {p : List MemPlace}
    (ht : P.underlying t = some (.struct fs)) (hd : Opens P t d ok) (hv : Value.okWide P w r b0 t v) (h : DataW.Trod enc P w base spare held t v x p) :
    ∃ (cs : List Value) (a : α), v = .agg cs.toArray ∧ d.K w a cs ∧ ok a := by
  obtain ⟨cs, rfl, _⟩ := okWide_struct ht hv
  obtain ⟨fuel, hf⟩ := h
  obtain ⟨a, hK, hok⟩ := hd hf
  simp only [Value.cells] at hK
  exact ⟨cs.toList, a, by simp, hK, hok⟩

theorem okWide_array {P : Program} {w : World} {r : Reach} {b0 : Nat} {t e : TypeId} {n : Nat} {v : Value} (ht : P.underlying t = some (.array n e)) (h : Value.okWide P w r b0 t v) : ∃ cs, v = .agg cs ∧ cs.size = P.cellsOf t := by
  simp only [Value.okWide, ht] at h
  obtain ⟨cs, h1, h2, _⟩ := h
  exact ⟨cs, h1, h2⟩

/-- An argument that is an array of elements of one cell each. -/
theorem arg_array {α : Type} {H : Type} {enc : TypeId × Value → H} {P : Program} {w : World} {base : Nat} {spare : Nat → Bool} {held : Bool} {t e : TypeId} {n : Nat} {d : Kd α} {ok : α → Prop} {r : Reach} {b0 : Nat} {v : Value} {x : DataW H} {p : List MemPlace}
    (ht : P.underlying t = some (.array n e)) (hd : Opens P e d ok) (hv : Value.okWide P w r b0 t v) (h : DataW.Trod enc P w base spare held t v x p) (hc : P.cellsOf e = 1) (hC : P.cellsOf t = n) :
    ∃ (cs : List Value), v = .agg cs.toArray ∧ cs.length = n ∧ ∀ i, i < n → ∃ a c, cs[i]? = some c ∧ d.K w a [c] ∧ ok a := by
  obtain ⟨cs, rfl, hsz⟩ := okWide_array ht hv
  obtain ⟨fuel, hf⟩ := h
  obtain ⟨xs, m, _, _, _, hxl, hat⟩ := DataW.trod_array ht hf
  refine ⟨cs.toList, by simp, by rw [Array.length_toList, hsz, hC], fun i hi => ?_⟩
  have h1 := hat i hi
  rw [List.getElem?_eq_getElem (by omega), hc] at h1
  obtain ⟨a, hK, hok⟩ := hd h1
  have hl : i < cs.toList.length := by rw [Array.length_toList, hsz, hC]; exact hi
  have e1 : (List.drop (i * 1) (Value.cells (.agg cs)).toList).take 1 = [cs.toList[i]] := by
    rw [Nat.mul_one]
    show (List.drop i cs.toList).take 1 = _
    rw [List.drop_eq_getElem_cons hl]
    rfl
  rw [e1] at hK
  exact ⟨a, _, List.getElem?_eq_getElem hl, hK, hok⟩

/-- An array of two numbers. -/
theorem arg_two {H : Type} {enc : TypeId × Value → H} {P : Program} {w : World} {base : Nat} {spare : Nat → Bool} {held : Bool} {t e : TypeId} {k : IntKind} {r : Reach} {b0 : Nat} {v : Value} {x : DataW H} {p : List MemPlace}
    (ht : P.underlying t = some (.array 2 e)) (he : P.underlying e = some (.int k)) (hv : Value.okWide P w r b0 t v) (h : DataW.Trod enc P w base spare held t v x p) (hc : P.cellsOf e = 1) (hC : P.cellsOf t = 2) :
    ∃ x0 x1, v = .agg #[.int k x0, .int k x1] ∧ (Lit.int k x0).wf = true ∧ (Lit.int k x1).wf = true := by
  obtain ⟨cs, rfl, hl, hat⟩ := arg_array ht (opens_int he) hv h hc hC
  obtain ⟨x0, c0, e0, g0, w0⟩ := hat 0 (by decide)
  obtain ⟨x1, c1, e1, g1, w1⟩ := hat 1 (by decide)
  have g0' : [c0] = [.int k x0] := g0
  have g1' : [c1] = [.int k x1] := g1
  simp at g0' g1'
  subst g0' g1'
  refine ⟨x0, x1, ?_, w0, w1⟩
  have : cs = [.int k x0, .int k x1] := by
    apply List.ext_getElem?
    intro i
    match i with
    | 0 => exact e0
    | 1 => exact e1
    | i + 2 => rw [List.getElem?_eq_none (by omega)]; rfl
  rw [this]

theorem trod_lt {H : Type} {enc : TypeId × Value → H} {P : Program} {W : World} {base : Nat} {spare : Nat → Bool} {held : Bool} {t : TypeId} {v : Value} {d : DataW H} {p : List MemPlace} (h : DataW.Trod enc P W base spare held t v d p) : ∀ x ∈ p, x.block < W.heap.size := by
  obtain ⟨m, hm⟩ := h
  exact DataW.trod_lt m _ _ _ hm
end Go.Proofs.Ytohginlodlijkaa.Open
