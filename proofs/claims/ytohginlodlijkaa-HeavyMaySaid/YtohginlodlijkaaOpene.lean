/- What came in, read as a summary: three fields. -/
import Derived.Test.YtohginlodlijkaaOpens
import Derived.Test.YtohginlodlijkaaPHx0
namespace Go.Proofs.Ytohginlodlijkaa.Open
open Go.RowKit Go.ChangeShapes Go.WideShapes Go.Deep Go.Proofs.YtohginlodlijkaaW.PrintWords
theorem opens_struct3 {α β γ : Type} {P : Program} {t : TypeId} {f0 f1 f2 : Field} {d0 : Kd α} {d1 : Kd β} {d2 : Kd γ} {ok0 : α → Prop} {ok1 : β → Prop} {ok2 : γ → Prop} (ht : P.underlying t = some (.struct #[f0, f1, f2]))
    (h0 : Opens P f0.type d0 ok0) (h1 : Opens P f1.type d1 ok1) (h2 : Opens P f2.type d2 ok2) (o0 : f0.offset = 0) (c0 : P.cellsOf f0.type = d0.sz) (o1 : f1.offset = d0.sz) (c1 : P.cellsOf f1.type = d1.sz) (o2 : f2.offset = d0.sz + d1.sz) (c2 : P.cellsOf f2.type = d2.sz) (hC : P.cellsOf t = d0.sz + d1.sz + d2.sz) :
    Opens P t (Kd.pair d0 (Kd.pair d1 d2)) (fun x => ok0 x.1 ∧ ok1 x.2.1 ∧ ok2 x.2.2) := by
  intro H enc w base spare held fuel cs x h
  obtain ⟨xs, n, _, _, hlen, hxl, hf⟩ := DataW.trod_struct ht h
  have hf0 := hf 0 f0 rfl
  have hf1 := hf 1 f1 rfl
  have hf2 := hf 2 f2 rfl
  rw [List.getElem?_eq_getElem (by rw [hxl]; simp)] at hf0
  rw [List.getElem?_eq_getElem (by rw [hxl]; simp)] at hf1
  rw [List.getElem?_eq_getElem (by rw [hxl]; simp)] at hf2
  obtain ⟨a, ha, oka⟩ := h0 hf0
  obtain ⟨b, hb, okb⟩ := h1 hf1
  obtain ⟨c, hc, okc⟩ := h2 hf2
  rw [o0, List.drop_zero, c0] at ha
  rw [o1, c1] at hb
  rw [o2, c2] at hc
  refine ⟨(a, b, c), ⟨_, _, ?_, ha, _, _, rfl, hb, hc⟩, oka, okb, okc⟩
  rw [List.take_of_length_le (l := cs.drop (d0.sz + d1.sz)) (by rw [List.length_drop]; omega), ← List.drop_drop, List.take_append_drop, List.take_append_drop]
/-- An item is read as two numbers. -/
theorem opensItem : Opens Try.prog 51 PH.k51 (fun s => (Lit.int .u64 s.f0).wf = true ∧ (Lit.int .u64 s.f1).wf = true) :=
  opens_iso (fun x : PH.S51 => (x.f0, x.f1)) (fun a => ⟨a.1, a.2⟩) (fun _ => rfl) (opens_struct2 Try.underlying51 (opens_int Try.underlying27) (opens_int Try.underlying27) rfl (by kernel_rfl) rfl (by kernel_rfl) (by kernel_rfl))
set_option maxRecDepth 100000 in
/-- An argument that is a summary. -/
theorem arg_sum {H : Type} {enc : TypeId × Value → H} {w : World} {base : Nat} {spare : Nat → Bool} {held : Bool} {r : Reach} {b0 : Nat} {v : Value} {x : DataW H} {p : List MemPlace}
    (hv : Value.okWide Try.prog w r b0 30 v) (h : DataW.Trod enc Try.prog w base spare held 30 v x p) :
    ∃ (K T : Int) (A : Option Addr) (c : Nat) (l : List PH.S51), v = .agg #[.int .i64 K, .int .u64 T, .slice A l.length c] ∧ l.length ≤ c ∧ Kd.C PH.k51 w A l.length l ∧ 0 ≤ T ∧ T < 18446744073709551616 ∧ ∀ t ∈ l, 0 ≤ t.f1 := by
  obtain ⟨cs, ⟨K, T, l⟩, rfl, ⟨c1, c2, rfl, h1, c3, c4, rfl, h2, A, c, h3, hl, hC⟩, ok⟩ := arg_struct Try.underlying30 (opens_struct3 Try.underlying30 (opens_int Try.underlying3) (opens_int Try.underlying27) (opens_slice Try.underlying28 opensItem (by kernel_rfl)) rfl (by kernel_rfl) rfl (by kernel_rfl) rfl (by kernel_rfl) (by kernel_rfl)) hv h
  have h1' : c1 = [.int .i64 K] := h1
  have h2' : c3 = [.int .u64 T] := h2
  have h3' : c4 = [.slice A l.length c] := h3
  subst h1' h2' h3'
  obtain ⟨-, okT, okl⟩ := ok
  simp [Lit.wf, IntKind.min, IntKind.max, IntKind.signed, IntKind.bits] at okT
  refine ⟨K, T, A, c, l, rfl, hl, hC, by omega, by omega, fun t ht => ?_⟩
  have := (okl t ht).2
  simp [Lit.wf, IntKind.min, IntKind.max, IntKind.signed, IntKind.bits] at this
  omega
end Go.Proofs.Ytohginlodlijkaa.Open
